/-
  Walks: event.Right, and the references of layers 1 and 3 that tell whether an event may be.
-/
import Derived.Test.YtfhnamomiaekdaaGreatDoorProg
import Derived.Lib.OwnBridge
import Derived.Laws.EntriesVeiled
import Derived.Deep.OwnRows
import Derived.Test.YtfhnamomiaekdaaGreatDoorV01
import Derived.Test.YtfhnamomiaekdaaGreatDoorV07
import Derived.Test.YtfhnamomiaekdaaGreatDoorV08
import Derived.Test.YtfhnamomiaekdaaGreatDoorV06
import Derived.Test.YtfhnamomiaekdaaGreatDoorV02
import Derived.Test.YtfhnamomiaekdaaGreatDoorV03
import Derived.Test.YtfhnamomiaekdaaGreatDoorV05
set_option linter.unusedVariables false
set_option linter.unusedSimpArgs false
namespace Go.Proofs.YtfhnamomiaekdaaGreatDoor
open Go.RowKit Go.Inq
set_option maxHeartbeats 400000
end Go.Proofs.YtfhnamomiaekdaaGreatDoor
namespace Go.Proofs.YtfhnamomiaekdaaGreatDoor
open Go.RowKit Go.Inq
set_option maxHeartbeats 1000000
attribute [local go_sem↓] Go.wp_at_zero Go.wp_at_succ
def aH(l:List Txn):Prop:=l.length≤1000000∧∀t∈l,t.writes.length≤1000000∧t.reads.length≤1000000
end Go.Proofs.YtfhnamomiaekdaaGreatDoor
namespace Go.Proofs.YtfhnamomiaekdaaGreatDoor
open Go.RowKit Go.Inq Go.Shelf
set_option maxHeartbeats 4000000
attribute [local go_sem] Oper.semAt_some
attribute [local go_sem↓] Go.wp_at_zero Go.wp_at_succ
theorem Ey(v:Value)(w:World):Calls Tryz.prog 125 #[.agg #[v]] w fun e w'=>e= .returned (.func (.func 190) #[] #[.pointer (some ⟨w.heap.size,0,none⟩)])∧w'=w.alloc (.cells #[v] 24):=by
 go_enter Tryz.func125,Tryz.ntmps125;go_wp2;go_ret;exact⟨rfl,rfl⟩
theorem AP(Bh n₀ c:Nat)(A:Option Addr)(H:List Txn)(hn:aH H)(w:World)(hBn:Bh<n₀)(hnW:n₀≤w.heap.size)(hc:w.cell? ⟨Bh,0,none⟩=some (.slice A H.length c))(hT:aD w (fun b=>b<n₀) (.slice A H.length c) H):
 SeqStopsK Fence.wide (3-1) Tryz.prog 190 #[.pointer (some ⟨Bh,0,none⟩)] (fun x:Bool=>#[Value.bool x]) (dK n₀) (fun ys=>ys=dX H) (fun pre=>pre<+:dX H) (dX H).length w:=fun l J Jx W hW hJ _ hY h0=>
 GK (3-1) (by omega) l Bh n₀ c A H hn.1 hn.2 J Jx W hJ hY ((hW.cell (p:=⟨Bh,0,none⟩) (by show Bh<_;omega)).trans hc) hBn (Nat.le_trans hnW hW.size) (aD.keep hT (Agree.below hW fun b h=>by omega) (fun b h=>h)) h0
set_option maxRecDepth 100000 in
theorem dL(A:Option Addr)(c:Nat)(H:List Txn)(w:World)(h:aD w (Old w) (.slice A H.length c) H)(hn:aH H):
 Calls Tryz.prog 67 #[.agg #[.slice A H.length c]] w fun e w'=>e= .returned (.bool (ay H))∧Below w.heap.size w w':=by
 refine(callsIn_wide (n:=3)).1 ?_;have hro:Fence.wide.round=none:=rfl;refine callsIn_of_wp_marks Tryz.func67 rfl trivial ?_ hro;simp only[Tryz.ntmps67,List.size_toArray,List.length_cons,List.length_nil,Nat.reduceAdd,Nat.reduceSub,Array.replicate_succ,Array.replicate_zero,List.push_toArray,List.append_toArray,List.nil_append,List.cons_append]
 gi_wp2_with fail
 refine⟨trivial,?_⟩;refine(callsIn_wide.2 (Ey _ _)).mono ?_;rintro e w1 ⟨rfl,rfl⟩;dsimp only
 gi_wp2
 obtain⟨W0,hW0⟩:∃W0,((w.alloc (.cells #[.slice A H.length c] 24)).alloc (.cells #[.bool false] 4)).alloc (.cells #[.slice A H.length c] 24)=W0:=⟨_,rfl⟩;have hs0:W0.heap.size=w.heap.size+3:=(by rw[←hW0];simp);have hBW:Below w.heap.size w W0:=(by rw[←hW0];exact(((Below.refl _ w).alloc (Nat.le_refl _) _).alloc (by simp) _).alloc (by simp;omega) _);have k1:Blk W0 (w.heap.size+1) 4 #[.bool false]:=by
  rw[←hW0];have:=Blk.new (w.alloc (.cells #[.slice A H.length c] 24)) 4 #[.bool false];simp only[World.size_alloc]at this;exact this.alloc _
 have k2:Blk W0 (w.heap.size+2) 24 #[.slice A H.length c]:=by
  rw[←hW0];have:=Blk.new ((w.alloc (.cells #[.slice A H.length c] 24)).alloc (.cells #[.bool false] 4)) 24 #[.slice A H.length c];simp only[World.size_alloc]at this;exact this
 simp only[World.size_alloc];rw[hW0];have h2:aD W0 (fun b=>b<w.heap.size) (.slice A H.length c) H:=aD.keep h (Agree.below hBW fun b h=>h) (fun b h=>h);have c2:=Blk.n0 k2;have c1:=Blk.n0 k1;have f1:=k1.frozen 0;clear hW0;refine wpIn_rangeFunc_ownF hro (by omega) (gf:=190) (lb:=#[.pointer (some ⟨w.heap.size+2,0,none⟩)]) rfl trivial (enters_of Tryz.func190 (by kernel_rfl) rfl)
  (AP (w.heap.size+2) (w.heap.size+3) c A H hn W0 (by omega) (by omega) c2 (aD.fit h2 (fun b h=>by omega))) dK.t (dK.b (by omega)) (Below.refl _ _) (fun _=>rfl)
  (fun pre W=>((pre.all id=true)∧W.cell? ⟨w.heap.size+1,0,none⟩=some (.bool false)∧W.frozen? ⟨w.heap.size+1,0,none⟩=false)∧Below w.heap.size w W)
  (fun cc pre W=>(cc= .ret∧false∈pre∧W.cell? ⟨w.heap.size+1,0,none⟩=some (.bool false))∧Below w.heap.size w W)
  (OwnFrom.and (Own.from (fun s A B row hs hg hr=>⟨hs.1,cell_kept hs.2.1 hg hr,(frozen_kept hs.2.1 hg hr).trans hs.2.2⟩) _) (ownFrom_below (Nat.le_refl _) (by omega)))
  (fun cc=>OwnFrom.and (Own.from (fun s A B row hs hg hr=>⟨hs.1,hs.2.1,cell_kept hs.2.2 hg hr⟩) _) (ownFrom_below (Nat.le_refl _) (by omega)))
  ⟨⟨rfl,c1,f1⟩,hBW⟩
  (fun x=>{tmps:=#[.agg #[.slice A H.length c],.pointer (some ⟨w.heap.size,0,none⟩),.pointer (some ⟨w.heap.size+1,0,none⟩),.bool x,.agg #[.slice A H.length c],.func (.func 190) #[] #[.pointer (some ⟨w.heap.size+2,0,none⟩)],.bool x,undef,undef],defers:=[]}) ?assign ?body ?done ?stop
 case assign=>
  intro l x W K hK
  gi_wp2
  exact hK
 case body=>
  rintro l pre x W ⟨⟨hp,hcr,hfr⟩,hB⟩ _;cases x with
  |false=>
   gi_wp2
   exact⟨KeepsOthers.setCell _ _ _,⟨rfl,by simp,World.cell?_setCell_same' _ _ _ (by rw[hcr];rfl)⟩,hB.setCell (p:=⟨w.heap.size+1,0,none⟩) (by simp) _⟩
  |true=>
   gi_wp2
   exact⟨KeepsOthers.refl _,dK.refl _ _,⟨by rw[List.all_append,hp];rfl,hcr,hfr⟩,hB⟩
 case done=>
  rintro D xs W hD rfl ⟨⟨hall,hcr,hfr⟩,hB⟩ hK;have hall:=hide hall
  gi_wp2
  have hK':=(KeepsOthers.setCell W ⟨w.heap.size+1,0,none⟩ (.bool true)).same D _ hK rfl;refine⟨by simp,.inl ⟨_,_,rfl,run_takeDeferred hK',?_⟩⟩;have hc5:=cell_kept (World.cell?_setCell_same' W ⟨w.heap.size+1,0,none⟩ (.bool true) (by rw[hcr];rfl)) (grownBy_putObj' _ D (.deferred none)) (fun r e=>by cases e;exact⟨_,hK',rfl⟩);refine⟨.bool true,?_,by unfold ay;rw[hall.out],(hB.setCell (p:=⟨w.heap.size+1,0,none⟩) (by simp) _).trans (belowK_b (w:=w) (Nat.le_refl _) _ D _ _ (by omega) hK' rfl rfl)⟩;simp[results,Tryz.f67,go_sem,hc5]
 case stop=>
  rintro D cc pre W hD hpre ⟨⟨rfl,hin,hcr⟩,hB⟩ hK;have hf:=hide (JR hpre hin)
  gi_wp2
  refine⟨by simp,.inl ⟨_,_,rfl,run_takeDeferred hK,?_⟩⟩;have hc5:=cell_kept hcr (grownBy_putObj' _ D (.deferred none)) (fun r e=>by cases e;exact⟨_,hK,rfl⟩);refine⟨.bool false,?_,by unfold ay;rw[hf.out],hB.trans (belowK_b (w:=w) (Nat.le_refl _) W D _ _ (by omega) hK rfl rfl)⟩;simp[results,Tryz.f67,go_sem,hc5]
end Go.Proofs.YtfhnamomiaekdaaGreatDoor
namespace Go.Proofs.YtfhnamomiaekdaaGreatDoor
open Go.RowKit Go.Inq
set_option maxHeartbeats 4000000
attribute [local go_sem↓] Go.wp_at_zero Go.wp_at_succ
theorem qI(l:List Int):(l.map Go.Inq.encI).flatten=l.map (Value.int .i64):=by
 induction l with
 |nil=>rfl
 |cons x r ih=>rw[List.map_cons,List.flatten_cons,ih];rfl
theorem below_grow(w:World)(os:Array Obj):Below w.heap.size w (Go.Sort.grow w os):=
 ⟨rfl,rfl,rfl,by simp[Go.Sort.grow],fun k hk=>by simp[Go.Sort.grow,Array.getElem?_append,hk]⟩
theorem BN(base:Nat)(A:Option Addr)(c:Nat)(l:List Int)(w:World)(h:aY w base (.slice A l.length c) l)(hl:l.length<4611686018427387904):
 Calls Tryz.prog 159 #[.slice A l.length c] w fun e w'=>e= .returned (.tuple #[])∧aY w' base (.slice A l.length c) (l.mergeSort fun x y=>decide (x≤y))∧Below base w w':=by
 unfold aY at h⊢;rw[qI]at h⊢;by_cases hv:(Value.slice A l.length c)= .slice none 0 0
 ·injection hv with h1 h2 h3
  subst h1 h3;have:l=[]:=List.eq_nil_of_length_eq_zero h2;subst this;refine(Go.Proofs.Tryz.slices_Sort_int_none none 0 w).mono ?_;rintro e w' ⟨rfl,rfl⟩;exact⟨rfl,by rw[List.mergeSort_nil];exact World.ownsRow_nil _ _ _ _,Below.refl _ _⟩
 ·obtain⟨g,cap,hv',hbg,hgl,hn,hm,_,hH⟩:=Go.Lib.holds_of_ownsRow h hv;injection hv' with h1 h2 h3
  subst h1 h3;refine(Go.Proofs.Tryz.slices_Sort_int g 0 c l w hH hgl hl).mono ?_;rintro e w' ⟨rfl,n,os,rfl⟩;have hlen:(l.mergeSort fun x y=>decide (x≤y)).length=l.length:=List.length_mergeSort l;have hr:=Go.Lib.ownsRow_putRow (q:=n) (k:=l.length) h hlen (Nat.le_refl _);rw[List.take_of_length_le (by rw[hlen];exact Nat.le_refl _)]at hr;rw[hlen];have hb2:=Go.Lib.below_putRow (enc:=Value.int .i64) (q:=n) (d:=(l.mergeSort fun x y=>decide (x≤y)).toArray) (Below.refl base w) hbg;have hz:=(hr.lt g rfl).2;exact⟨rfl,own_below hr (below_grow _ os) (Nat.le_refl _),hb2.trans ((below_grow _ os).mono (by omega))⟩
theorem Db(base:Nat)(A:Option Addr)(c:Nat)(l:List Int)(w:World)(h:aY w base (.slice A l.length c) l)(hl:l.length≤1000000000):
 Calls Tryz.prog 184 #[.slice A l.length c] w fun e w'=>∃v,e= .returned v∧aY w' base v (Go.Lib.compact l)∧Below base w w':=by
 unfold aY at h⊢;rw[qI]at h⊢;by_cases hv:(Value.slice A l.length c)= .slice none 0 0
 ·injection hv with h1 h2 h3
  subst h1 h3;have:l=[]:=List.eq_nil_of_length_eq_zero h2;subst this;refine(Go.Proofs.Tryz.slices_Compact_int_empty none 0 w).mono ?_;rintro e w' ⟨rfl,rfl⟩;exact⟨_,rfl,World.ownsRow_nil _ _ _ _,Below.refl _ _⟩
 ·obtain⟨g,cap,hv',hbg,hgl,hn,hm,_,hH⟩:=Go.Lib.holds_of_ownsRow h hv;injection hv' with h1 h2 h3
  subst h1 h3;refine(Go.Proofs.Tryz.slices_Compact_int g 0 c l w hH (by omega) hn).mono ?_;rintro e w' ⟨rfl,q,rfl⟩;have hk:(Go.Lib.compact l).length≤l.length:=Go.Lib.compact_length_le l;have hlen:(Go.Lib.compact l++List.replicate (l.length-(Go.Lib.compact l).length) 0).length=l.length:=(by simp;omega);have hr:=Go.Lib.ownsRow_putRow (q:=q) (k:=(Go.Lib.compact l).length) h hlen hk;rw[List.take_append_of_le_length (Nat.le_refl _),List.take_length]at hr;exact⟨_,rfl,hr,Go.Lib.below_putRow (enc:=Value.int .i64) (Below.refl base w) hbg⟩
set_option maxRecDepth 100000 in
theorem uf(A:Option Addr)(c:Nat)(H:List Txn)(key:Int)(w:World)(h:aD w (Old w) (.slice A H.length c) H)(hn:aH H)(hr:ay H=true):
 Calls Tryz.prog 115 #[.agg #[.slice A H.length c],.int .i64 key] w (xM w (aC (bG H key))):=by
 obtain⟨ii,hii,hi1,hi2,hi3⟩:=info_parts gL;obtain⟨W0,hW0⟩:∃W0,w.alloc (.cells #[.slice A H.length c] 24)=W0:=⟨_,rfl⟩;have hB:=ah (Below.refl w.heap.size w) hW0 (Nat.le_refl _);have k0:=Blk.newEq hW0;have h0:=hide (h.below hB);have hlen:=hn.1;have hwl:=hide (fun i (hi:i<H.length)=>(hn.2 _ (List.getElem_mem hi)).1);replace hn:=hide hn;replace hr:=hide hr;replace h:=hide h;have c0:=Blk.n0 k0;go_enter Tryz.func115,Tryz.ntmps115;go_wp2_with fail;clear hW0 c0;refine(dL A c H _ h0.out hn.out).mono ?_;rintro e w1 ⟨rfl,hb1⟩;rw[hr.out];replace k0:=k0.below hb1 k0.lt;have hb:=hB.trans (hb1.mono hB.size);clear hb1 hB h0;have c0:=Blk.n0 k0;go_wp2_with fail;clear c0 k0;go_loopw [5,14] (fun s5 s14 wr=>∃k:Nat,k≤H.length∧s14= .int .i64 k∧aY wr w.heap.size s5 (aC (eX H key k))∧Below w.heap.size w wr) (fun _ s14 _=>H.length-(intOf s14).toNat);case atStart=>exact⟨0,Nat.zero_le _,by go_num,aY.nil _ _,hb⟩
 case round=>
  clear hb;obtain⟨k,hk,rfl,hown,hb⟩:=hrel;have GL:(0:Int)≤(k:Int):=Int.natCast_nonneg _;by_cases hlt:k<H.length
  ·have GN:(k:Int)<(H.length:Int):=(by omega);obtain⟨b,off,Aw,cw,Ar,cr,rfl,_,d0,d1,d2,hws,_⟩:=aD.at_ (h.out.below hb) hlt;have hwk:=hwl.out k hlt;have hst:=hide (yB H key k);rw[aJ hlt]at hst;have hcnt:(eX H key k).length≤k:=Nat.le_trans (List.length_filter_le _ _) (by simp);have qM:=hb.size;obtain⟨Av,cv,rfl⟩:=hown.form;generalize H[k]=t at*;obtain⟨ts,ws,rs⟩:=t;dsimp only at*;have Nn:=hide (hws.keep (w':=wr.alloc (.cells #[.int .i64 ts,.slice Aw ws.length cw,.slice Ar rs.length cr] 109)) (Agree.alloc (fun b hb=>hb) _) (fun b h=>h));have hb2:=hb.alloc qM (.cells #[.int .i64 ts,.slice Aw ws.length cw,.slice Ar rs.length cr] 109);have hown2:=hown.alloc (.cells #[.int .i64 ts,.slice Aw ws.length cw,.slice Ar rs.length cr] 109);clear hws;replace hown2:=hide hown2;have hlq:=hide (aK (eX H key k));have hsn:=hide (fK (eX H key k) k);go_wp2_with fail;clear d0 d1 d2;refine(dR Aw cw ws key _ _ Nn.out (by unfold maxLen;omega)).mono ?_;rintro e w3 ⟨rfl,rfl⟩;have hsz2:=hb2.size;cases hc:ws.contains key with
   |true=>
    have y5:Hid (eX H key (k+1)=eX H key k++[k]):=hide (by rw[hst.out,hc];rfl);clear hc hst;generalize wr.alloc (.cells #[.int .i64 ts,.slice Aw ws.length cw,.slice Ar rs.length cr] 109)=Wx at*;go_wp2_with (at_builtin;refine bF (enc:=Go.Inq.encI) rfl (.tmp 23) (.tmp 25) 33 rfl w.heap.size 3 ii _ 1 8 Tryz.underlying33 hii hi1 hi2 hi3 rfl (by decide) (.slice Av (aC (eX H key k)).length cv) (aC (eX H key k)) rfl hown2.out (fun _=>rfl) (k:Int) _ rfl rfl Go.Inq.gH (by rw[hlq.out];simp[maxLen];omega) (by rw[hlq.out];omega) hsz2 w w.heap.size (Nat.le_refl _) hb2 ?_;intro v1 w6 hown1 hg1 hb1 nI);go_roundw;case rel=>exact⟨k+1,by omega,by go_num,by unfold aY;rw[y5.out,hsn.out];exact hown1,hb1⟩
    case measure=>simp[intOf];omega
   |false=>
    have y5:Hid (eX H key (k+1)=eX H key k):=hide (by rw[hst.out,hc];simp);clear hc hst;go_wp2;go_roundw;case rel=>exact⟨k+1,by omega,by go_num,by unfold aY;rw[y5.out];exact hown2.out,hb2⟩
    case measure=>simp[intOf];omega
  ·obtain rfl:k=H.length:=(by omega);go_wp2;go_ret;exact⟨_,rfl,hown,hb⟩
def xR(H:List Txn)(k:Nat):List Int:=((H.take k).map (·.writes)).flatten
theorem BO{H:List Txn}{k:Nat}(h:k<H.length):xR H (k+1)=xR H k++H[k].writes:=by
 unfold xR;rw[List.take_succ_eq_append_getElem h,List.map_append,List.flatten_append];simp
theorem Ez{H:List Txn}(h:∀i (hi:i<H.length),H[i].writes.length≤1000000):∀k,k≤H.length→(xR H k).length≤k*1000000
 |0,_=>by simp[xR]
 |k+1,hk=>by
  rw[BO (by omega),List.length_append];have:=Ez h k (by omega);have:=h k (by omega);omega
set_option maxRecDepth 100000 in
theorem BP(A:Option Addr)(c:Nat)(H:List Txn)(w:World)(h:aD w (Old w) (.slice A H.length c) H)(hn:aH H)(hr:ay H=true):
 Calls Tryz.prog 114 #[.agg #[.slice A H.length c]] w (xM w (cZ H)):=by
 obtain⟨ii,hii,hi1,hi2,hi3⟩:=info_parts gL;obtain⟨W0,hW0⟩:∃W0,w.alloc (.cells #[.slice A H.length c] 24)=W0:=⟨_,rfl⟩;have hB:=ah (Below.refl w.heap.size w) hW0 (Nat.le_refl _);have k0:=Blk.newEq hW0;have h0:=hide (h.below hB);have h32:H.length≤32:=((aB H).1 hr).1;have hwl:=hide (fun i (hi:i<H.length)=>(hn.2 _ (List.getElem_mem hi)).1);have hal:=hide (Ez hwl.out);have hkl:Hid (cZ H=Go.Lib.compact ((xR H H.length).mergeSort fun x y=>decide (x≤y))):=hide (by unfold cZ xR;rw[List.take_length]);replace hn:=hide hn;replace hr:=hide hr;replace h:=hide h;have c0:=Blk.n0 k0;go_enter Tryz.func114,Tryz.ntmps114;go_wp2_with fail;clear hW0 c0;refine(dL A c H _ h0.out hn.out).mono ?_;rintro e w1 ⟨rfl,hb1⟩;rw[hr.out];replace k0:=k0.below hb1 k0.lt;have hb:=hB.trans (hb1.mono hB.size);clear hb1 hB h0;have c0:=Blk.n0 k0;go_wp2_with fail;clear c0 k0;go_loopw [3,12] (fun s3 s12 wr=>∃k:Nat,k≤H.length∧s12= .int .i64 k∧aY wr w.heap.size s3 (xR H k)∧Below w.heap.size w wr) (fun _ s12 _=>H.length-(intOf s12).toNat);case atStart=>exact⟨0,Nat.zero_le _,by go_num,aY.nil _ _,hb⟩
 case round=>
  clear hb;obtain⟨k,hk,rfl,hown,hb⟩:=hrel;have GL:(0:Int)≤(k:Int):=Int.natCast_nonneg _;by_cases hlt:k<H.length
  ·have GN:(k:Int)<(H.length:Int):=(by omega);obtain⟨b,off,Aw,cw,Ar,cr,rfl,_,d0,d1,d2,hws,_⟩:=aD.at_ (h.out.below hb) hlt;have hwk:=hwl.out k hlt;have hst:=hide (BO hlt);have hcnt:=hal.out k hk;have qM:=hb.size;obtain⟨Av,cv,rfl⟩:=hown.form;generalize H[k]=t at*;obtain⟨ts,ws,rs⟩:=t;dsimp only at*;have Nn:=hide (hws.keep (w':=wr.alloc (.cells #[.int .i64 ts,.slice Aw ws.length cw,.slice Ar rs.length cr] 109)) (Agree.alloc (fun b hb=>hb) _) (fun b h=>h));have hb2:=hb.alloc qM (.cells #[.int .i64 ts,.slice Aw ws.length cw,.slice Ar rs.length cr] 109);have hown2:=hown.alloc (.cells #[.int .i64 ts,.slice Aw ws.length cw,.slice Ar rs.length cr] 109);have hlo:=hide (fun b hb=>(hown.lt b hb).1);clear hws;replace hown2:=hide hown2;generalize xR H k=M at*;go_wp2_with (at_builtin;refine bK (enc:=Go.Inq.encI) rfl (.tmp 16) (.tmp 18) 33 rfl w.heap.size 3 ii _ 1 8 Tryz.underlying33 hii hi1 hi2 hi3 rfl (by decide) (.slice Av M.length cv) (Old wr) M rfl hown2.out (fun _=>rfl) (.slice Aw ws.length cw) ws rfl Nn.out Go.Inq.gH (by simp[maxLen];omega) (by omega) (by simp;omega) ?_;intro v1 w6 hown1 hg1 nI);have hb3:=below_grown hb2 hg1 (by simp;omega) (fun k hk=>hlo.out k hk);go_wp2;go_roundw;case rel=>exact⟨k+1,by omega,by go_num,by unfold aY;rw[hst.out];exact hown1,hb3⟩
   case measure=>simp[intOf];omega
  ·obtain rfl:k=H.length:=(by omega);have hcnt:=hal.out _ hk;obtain⟨Av,cv,rfl⟩:=hown.form;have hMl:(xR H H.length).length<4611686018427387904:=(by omega);have Uw:(xR H H.length).length≤1000000000:=(by omega);clear hcnt;generalize xR H H.length=M at*;have EA:=List.length_mergeSort (le:=fun x y:Int=>decide (x≤y)) M;replace EA:=hide EA;have qM:=hb.size;go_wp2_with fail;refine(BN w.heap.size Av cv M _ hown hMl).mono ?_;rintro e w2 ⟨rfl,hown2,hb2⟩;replace hb:=hb.trans hb2;have hs2:Hid (aY w2 w.heap.size (.slice Av (M.mergeSort fun x y=>decide (x≤y)).length cv) (M.mergeSort fun x y=>decide (x≤y))):=hide (by rw[EA.out];exact hown2);clear hown hown2 hb2;go_wp2_with fail;rw[←EA.out];have Ux:(M.mergeSort fun x y=>decide (x≤y)).length≤1000000000:=(by rw[EA.out];exact Uw);refine(Db w.heap.size Av cv _ _ hs2.out Ux).mono ?_;rintro e w3 ⟨v,rfl,hown3,hb3⟩;replace hb:=hb.trans hb3;go_wp2;go_ret;exact⟨_,rfl,by rw[hkl.out];exact hown3,hb⟩
def gU(x:Cho):List Value:=[.int .i64 x.key,.int .i64 x.a,.int .i64 x.b]
theorem iM:∀(x:Cho),∀u∈gU x,u.oneCell'=true:=by
 intro x u hu;simp[gU]at hu;rcases hu with rfl|rfl|rfl<;>rfl
theorem sw:(Tryz.prog.info? 102).map (fun i=>(i.zero,i.size,i.bytes))=some (some (.agg #[.int .i64 0,.int .i64 0,.int .i64 0]),3,24):=by kernel_rfl
def bC(w:World)(K:Nat→Prop)(v:Value)(l:List Cho):Prop:=SlR 3 (Flat gU) w K v l
section
variable{w w':World}{K K':Nat→Prop}{v:Value}{l:List Cho}
theorem bC.keep(h:bC w K v l)(ha:Agree K w w')(hk:∀b,K b→K' b):bC w' K' v l:=SlR.keep (Flat.aO _) h ha hk
theorem bC.below(h:bC w (Old w) v l)(hb:Below w.heap.size w w'):bC w' (Old w') v l:=SlR.below (Flat.aO _) h hb
theorem bC.fit(h:bC w K v l)(hk:∀b,K b→K' b):bC w K' v l:=SlR.fit (Flat.aO _) h hk
theorem bC.nil(w:World)(K:Nat→Prop)(A:Option Addr)(c:Nat):bC w K (.slice A 0 c) []:=SlR.nil _ _ _ _ _ _
theorem bC.at_{A:Option Addr}{n c:Nat}(h:bC w K (.slice A n c) l){i:Nat}(hi:i<l.length):
 ∃b off,A=some ⟨b,off,none⟩∧K b∧w.cell? ⟨b,off+i*3,none⟩=some (.int .i64 l[i].key)∧w.cell? ⟨b,off+i*3+1,none⟩=some (.int .i64 l[i].a)∧w.cell? ⟨b,off+i*3+2,none⟩=some (.int .i64 l[i].b):=by
 obtain⟨b,off,cs,hA,hK,_,hR,hc⟩:=SlR.at_ h hi;unfold Flat at hR;subst hR;exact⟨b,off,hA,hK,hc 0 _ rfl,hc 1 _ rfl,hc 2 _ rfl⟩
end
def eF(w:World)(base:Nat)(v:Value)(l:List Cho):Prop:=w.ownsRow base 102 3 v l.length (l.map gU).flatten
def P5(w:World)(l:List Cho)(e:Ending)(w':World):Prop:=∃v,e= .returned v∧eF w' w.heap.size v l∧Below w.heap.size w w'
theorem eF.form{w:World}{base:Nat}{v:Value}{l:List Cho}(h:eF w base v l):∃A c,v= .slice A l.length c:=aU h
theorem eF.sl{w:World}{base:Nat}{v:Value}{l:List Cho}(h:eF w base v l){K:Nat→Prop}(hK:∀g,base≤g→g<w.heap.size→K g):bC w K v l:=SlR.of_flat h rfl (fun _=>rfl) hK
theorem eF.nil(w:World)(base:Nat):eF w base (.slice none 0 0) []:=World.ownsRow_nil _ _ _ _
set_option maxRecDepth 100000 in
theorem GQ(A:Option Addr)(c:Nat)(H:List Txn)(w:World)(h:aD w (Old w) (.slice A H.length c) H)(hn:aH H)(hr:ay H=true):
 Calls Tryz.prog 52 #[.agg #[.slice A H.length c]] w (P5 w (bB H)):=by
 obtain⟨ic,hic,hi1,hi2,hi3⟩:=info_parts sw;obtain⟨W0,hW0⟩:∃W0,w.alloc (.cells #[.slice A H.length c] 24)=W0:=⟨_,rfl⟩;have hB:=ah (Below.refl w.heap.size w) hW0 (Nat.le_refl _);have k0:=Blk.newEq hW0;have h0:=hide (h.below hB);have h32:H.length≤32:=((aB H).1 hr).1;have Uy:=lq hr;have hpt:=hide (oJ h32);have hstep:=hide (fun k (hk:k<(cZ H).length)=>tC hk);have hall:=hide (wD H);have hs0:=aA hW0;replace hn:=hide hn;replace hr:=hide hr;replace h:=hide h;have c0:=Blk.n0 k0;replace hs0:=hide hs0;go_enter Tryz.func52,Tryz.ntmps52;go_wp2_with fail;clear hW0 c0;refine(BP A c H _ h0.out hn.out hr.out).mono ?_;rintro e wk ⟨vk,rfl,hKO,hbk⟩;obtain⟨Ak,ck,rfl⟩:=hKO.form;have hwW:w.heap.size<W0.heap.size:=(by have:=hs0.out;omega);have hKS:=hide (hKO.sl (K:=fun b=>W0.heap.size≤b∧b<wk.heap.size) (fun g h1 h2=>⟨h1,h2⟩));replace k0:=k0.below hbk k0.lt;have hb:=hB.trans (hbk.mono hB.size);have Uz:=hbk.size;clear hbk hB h0 hKO;generalize hKL:cZ H=KL at*;go_wp2_with fail;go_loopw [3,14] (fun s3 s14 wr=>∃k:Nat,k≤KL.length∧s14= .int .i64 k∧eF wr w.heap.size s3 (dO H k)∧Below w.heap.size w wr∧Agree (fun b=>w.heap.size≤b∧b<wk.heap.size) wk wr∧wk.heap.size≤wr.heap.size∧Hid (∀g,s3.ownBlock=some g→wk.heap.size≤g)) (fun _ s14 _=>KL.length-(intOf s14).toNat);case atStart=>exact⟨0,Nat.zero_le _,by go_num,eF.nil _ _,hb,Agree.refl _ _,Nat.le_refl _,hide fun g hg=>by simp[Value.ownBlock]at hg⟩
 case round=>
  clear hb;obtain⟨Wo,rfl⟩:∃Wo,Wo=wr:=⟨_,rfl⟩;obtain⟨k,hk,rfl,hown,hb,hag,Rq,lZ⟩:=hrel;have GL:(0:Int)≤(k:Int):=Int.natCast_nonneg _;by_cases hlt:k<KL.length
  ·have GN:(k:Int)<(KL.length:Int):=(by omega);obtain⟨bk,ok,rfl,_,hck⟩:=(hKS.out.keep (hag.mono fun b hb=>⟨by omega,hb.2⟩) (fun b h=>h)).at_ hlt;have m0:=k0.agree hag ⟨Nat.le_refl _,k0.lt⟩;have hst:=hide (hstep.out k hlt);have hlen:=hpt.out k hk;have c0:=Blk.n0 m0;generalize KL[k]=key at*;go_wp2_with fail;clear c0 hck;refine(uf A c H key _ (h.out.below hb) hn.out hr.out).mono ?_;rintro e wl ⟨vl,rfl,hLO,hbl⟩;have hLn:=oI H key;have hpa:=hide (yE key (bG H key));have hpi:=hide (fun i (hi:i<(bG H key).length)=>DT key (bG H key) hi);have hpl:=hide (yG key (bG H key));generalize bG H key=L at*;obtain⟨Al,cl,hv⟩:=hLO.form;rw[aK]at hv;subst hv;have hLS:=hide (hLO.sl (K:=fun b=>Wo.heap.size≤b∧b<wl.heap.size) (fun g h1 h2=>⟨h1,h2⟩));have hb2:=hb.trans (hbl.mono hb.size);have P6:=hbl.size;have P7:Agree (fun b=>w.heap.size≤b∧b<wk.heap.size) wk wl:=hag.trans (Agree.below hbl fun b hb=>by omega);have hown2:eF wl w.heap.size _ (dO H k):=own_below hown hbl (Nat.le_refl _);have hlt2:=hide (fun g hg=>(hown.lt g hg).2);clear hLO hbl hb hag hown m0;go_wp2_with fail;go_loopw [3,23] (fun s3 s23 wq=>∃i:Nat,i≤L.length∧s23= .int .i64 i∧eF wq w.heap.size s3 (dO H k++cB key L i)∧Below w.heap.size w wq∧Agree (fun b=>w.heap.size≤b∧b<wk.heap.size) wk wq∧Agree (fun b=>Wo.heap.size≤b∧b<wl.heap.size) wl wq∧wl.heap.size≤wq.heap.size∧Hid (∀g,s3.ownBlock=some g→wk.heap.size≤g∧(g<Wo.heap.size∨wl.heap.size≤g))) (fun _ s23 _=>L.length-(intOf s23).toNat);case atStart=>exact⟨0,Nat.zero_le _,by go_num,by simpa[cB]using hown2,hb2,P7,Agree.refl _ _,Nat.le_refl _,hide fun g hg=>⟨lZ.out g hg,.inl (hlt2.out g hg)⟩⟩
   case round=>
    clear hown2 hb2 P7 hlt2 lZ;obtain⟨Wp,rfl⟩:∃Wp,Wp=wr:=⟨_,rfl⟩;obtain⟨i,hi,rfl,hown,hb,hag,EB,Dc,lZ⟩:=hrel;have hj1:(0:Int)≤(i:Int):=Int.natCast_nonneg _;by_cases hil:i<L.length
    ·have hj2:(i:Int)<(L.length:Int):=(by omega);obtain⟨bl,ol,rfl,_,hcl⟩:=(hLS.out.keep EB (fun b h=>h)).at_ (i:=i) (by rw[aK];exact hil);rw[ku hil]at hcl;have Td:=hide (hpi.out i hil);have hdl:(L.drop (i+1)).length=L.length-(i+1):=List.length_drop;have Np:=hpl.out i;have hlen3:i*L.length≤32*32:=Nat.mul_le_mul (by omega) (by omega);generalize L[i]=a at*;have hle:i+1≤L.length:=(by omega);have hle3:(i:Int)+1≤(L.length:Int):=(by omega);have UA:L.length≤cl:=by
      obtain⟨_,_,e,h2⟩:=SlR.len hLS.out;injection e with e1 e2 e3
      rw[aK]at h2;omega
     by_cases hcap:cl=i+1
     ·have hLi:L.length=i+1:=(by omega);have hd0:L.drop (i+1)=[]:=List.drop_of_length_le (by omega);have hown3:Hid (eF Wp w.heap.size u3 (dO H k++cB key L (i+1))):=hide (by rw[Td.out,hd0,List.map_nil,List.append_nil];exact hown);have hz0:L.length-(i+1)=0:=(by omega);clear hd0 UA;replace hown:=hide hown;subst hcap;go_wp2_with fail
      go_loop [3,33] (fun s3 s33=>s33= .int .i64 0∧eF Wp w.heap.size s3 (dO H k++cB key L (i+1))∧Hid (∀g,s3.ownBlock=some g→wk.heap.size≤g∧(g<Wo.heap.size∨wl.heap.size≤g))) (fun _ _=>0)
      case atStart=>exact⟨rfl,hown3.out,lZ⟩
      case round=>
       clear hown3 lZ;obtain⟨rfl,hown3,lZ⟩:=hrel;go_wp2;go_roundw;case rel=>exact⟨i+1,by omega,by go_num,hown3,hb,hag,EB,Dc,lZ⟩
       case measure=>simp[intOf];omega
     ·go_wp2_with fail;have hdo:=hide (fun j (hj:j<L.length-(i+1))=>(show i+1+j<L.length by omega));go_loopw [3,33] (fun s3 s33 wq=>∃j:Nat,j≤L.length-(i+1)∧s33= .int .i64 j∧eF wq w.heap.size s3 (dO H k++cB key L i++((L.drop (i+1)).take j).map fun(b:Nat)=>(⟨key,(a:Nat),b⟩:Cho))∧Below w.heap.size w wq∧Agree (fun b=>w.heap.size≤b∧b<wk.heap.size) wk wq∧Agree (fun b=>Wo.heap.size≤b∧b<wl.heap.size) wl wq∧wl.heap.size≤wq.heap.size∧Hid (∀g,s3.ownBlock=some g→wk.heap.size≤g∧(g<Wo.heap.size∨wl.heap.size≤g))) (fun _ s33 _=>(L.length-(i+1))-(intOf s33).toNat);case atStart=>exact⟨0,Nat.zero_le _,by go_num,by simpa using hown,hb,hag,EB,Dc,lZ⟩
      case round=>
       clear hown hb hag EB Dc lZ hcl;obtain⟨j,hj,rfl,hown,hb,hag,EB,Dc,lZ⟩:=hrel;have hjj:(0:Int)≤(j:Int):=Int.natCast_nonneg _;by_cases hjl:j<L.length-(i+1)
       ·have hj3:(j:Int)<((L.length-(i+1):Nat):Int):=(by omega);have hix:=hdo.out j hjl;obtain⟨_,_,e,_,hcj⟩:=(hLS.out.keep EB (fun b h=>h)).at_ (i:=i+1+j) (by rw[aK];exact hix);injection e with e
        injection e with e1 e2
        subst e1 e2;rw[ku hix,←Nat.add_assoc]at hcj;have hdj:Hid (((L.drop (i+1)).take (j+1))=(L.drop (i+1)).take j++[L[i+1+j]]):=hide (by rw[take_snoc' (by rw[hdl];exact hjl),List.getElem_drop]);have hjn:((L.drop (i+1)).take j).length≤32:=(by rw[List.length_take,hdl];omega);have Te:(dO H k).length≤16384:=(by omega);have VJ:(dO H k++cB key L i++((L.drop (i+1)).take j).map fun(b:Nat)=>(⟨key,(a:Nat),b⟩:Cho)).length≤20000:=by
         rw[List.length_append,List.length_append,List.length_map];omega
        obtain⟨Av,cv,rfl⟩:=hown.form;generalize hM:(dO H k++cB key L i++((L.drop (i+1)).take j).map fun(b:Nat)=>(⟨key,(a:Nat),b⟩:Cho))=M at*;generalize L[i+1+j]=y at*;have hM2:Hid ((dO H k++cB key L i++((L.drop (i+1)).take (j+1)).map fun(b:Nat)=>(⟨key,(a:Nat),b⟩:Cho))=M++[⟨key,a,y⟩]):=hide (by rw[hdj.out,List.map_append,←List.append_assoc,hM];rfl);have qM:=hb.size;clear hM hjn Te hdj;replace hown:=hide hown;go_wp2_with (at_builtin;refine bF (enc:=gU) rfl (.tmp 37) (.tmp 42) 65 rfl w.heap.size 102 ic _ 3 24 Tryz.underlying65 hic hi1 hi2 hi3 rfl (by decide) (.slice Av M.length cv) M rfl hown.out (fun _=>rfl) (⟨key,a,y⟩:Cho) _ rfl rfl iM (by simp[maxLen];omega) (by omega) qM w w.heap.size (Nat.le_refl _) hb ?_;intro v1 w6 hown1 hg1 hb1 nI);have hg6:=hg1.size;simp only[World.size_alloc]at hg6;have hA1:Agree (fun b=>w.heap.size≤b∧b<wk.heap.size) wk w6:=(hag.trans (Agree.alloc (fun b hb=>by omega) _)).trans (Agree.grown hg1 fun b hb=>⟨by simp;omega,fun e=>by have:=(lZ.out b e.symm).1;omega⟩);have hA2:Agree (fun b=>Wo.heap.size≤b∧b<wl.heap.size) wl w6:=(EB.trans (Agree.alloc (fun b hb=>by omega) _)).trans (Agree.grown hg1 fun b hb=>⟨by simp;omega,fun e=>by have:=(lZ.out b e.symm).2;omega⟩);go_wp2;go_roundw;case rel=>exact⟨j+1,by omega,by go_num,by rw[hM2.out];exact hown1,hb1,hA1,hA2,by omega,hide fun g hg=>by
         rcases nI with e|e
         ·rw[e]at hg;exact lZ.out g hg
         ·rw[e]at hg;injection hg with hg;omega⟩
        case measure=>simp[intOf];omega
       ·obtain rfl:j=L.length-(i+1):=(by omega);rw[List.take_of_length_le (by rw[hdl];exact Nat.le_refl _),List.append_assoc,←Td.out]at hown;go_wp2;go_roundw;case rel=>exact⟨i+1,by omega,by go_num,hown,hb,hag,EB,Dc,lZ⟩
        case measure=>simp[intOf];omega
    ·obtain rfl:i=L.length:=(by omega);rw[hpa.out,←hst.out]at hown;go_wp2;go_roundw;case rel=>exact⟨k+1,by omega,by go_num,hown,hb,hag,by omega,hide fun g hg=>(lZ.out g hg).1⟩
     case measure=>simp[intOf];omega
  ·obtain rfl:k=KL.length:=(by omega);rw[hall.out]at hown;go_wp2;go_ret;exact⟨_,rfl,hown,hb⟩
end Go.Proofs.YtfhnamomiaekdaaGreatDoor
namespace Go.Proofs.YtfhnamomiaekdaaGreatDoor
open Go.RowKit Go.Inq
set_option maxHeartbeats 1000000
def qN(w:World)(base:Nat)(v:Value)(l:List Fct):Prop:=aG 7 u6 w (TyK base [3] w) base 104 v l
theorem qN.s{w:World}{base:Nat}{v:Value}{l:List Fct}(h:qN w base v l):eY w (Old w) v l:=aG.Na u6.aO h
theorem qN.below{w w':World}{base:Nat}{v:Value}{l:List Fct}(h:qN w base v l)(hb:Below w.heap.size w w'):qN w' base v l:=aG.CZ u6.aO h hb (Nat.le_refl _)
theorem qN.base{w:World}{base base':Nat}{v:Value}{l:List Fct}(h:qN w base v l)(hb:base'≤base):qN w base' v l:=aG.Nb u6.aO h hb
theorem qN.nil(w:World)(base:Nat):qN w base (.slice none 0 0) []:=aG.nil _ _ _ _ _ _
theorem Nq{α:Type}{size:Nat}{R:World→(Nat→Prop)→List Value→α→Prop}{w:World}{K:Nat→Prop}{base g:Nat}{t:TypeId}{cs:Array Value}{x:α}(h:Blk w g t cs)(hg:base≤g)(hl:cs.size=size)(hR:R w K cs.toList x):aG size R w K base t (.slice (some ⟨g,0,none⟩) 1 1) [x]:=by
 refine⟨[cs.toList],⟨by simp[hl],.inr ⟨g,1,cs,rfl,hg,h,Nat.le_refl _,by decide,by simp[hl],?_⟩⟩,rfl,fun i ds y h1 h2=> ?_⟩
 ·rw[List.flatten_cons,List.flatten_nil,List.append_nil];exact List.take_of_length_le (by simp[hl])
 ·cases i with
  |zero=>simp at h1 h2;subst h1 h2;exact⟨by simpa using hl,hR⟩
  |succ i=>simp at h1
theorem Nr{w:World}{base g:Nat}{u:Value}{x:Cho}{l:List Int}(h:Blk w g 125 #[.int .i64 x.key,.int .i64 x.a,.int .i64 x.b,u])(hg:base≤g)(hu:aY w base u l):bX w base (.slice (some ⟨g,0,none⟩) 1 1) [⟨x,l⟩]:=
 Nq h hg rfl (pF hu)
def vG(w:World)(base:Nat)(v:Value)(o:Say):Prop:=∃vo vt vf,v= .agg #[.int .i64 o.said,vo,vt,vf]∧aY w base vo (aC o.order)∧bX w base vt o.tree∧qN w base vf o.facts
theorem vG.below{w w':World}{base:Nat}{v:Value}{o:Say}(h:vG w base v o)(hb:Below w.heap.size w w'):vG w' base v o:=by
 obtain⟨vo,vt,vf,h1,h2,h3,h4⟩:=h;exact⟨vo,vt,vf,h1,own_below h2 hb (Nat.le_refl _),h3.below hb,h4.below hb⟩
theorem vG.base{w:World}{base base':Nat}{v:Value}{o:Say}(h:vG w base v o)(hb:base'≤base):vG w base' v o:=by
 obtain⟨vo,vt,vf,h1,h2,h3,h4⟩:=h;exact⟨vo,vt,vf,h1,bH h2 hb,h3.base hb,h4.base hb⟩
def xS(W:World)(g:Nat)(a b c d:Value):World:=(((W.setCell ⟨g,0,none⟩ a).setCell ⟨g,1,none⟩ b).setCell ⟨g,2,none⟩ c).setCell ⟨g,3,none⟩ d
section
variable{W:World}{g:Nat}{a b c d x y z u:Value}
theorem mF(h:Blk W g 36 #[x,y,z,u]):Blk (xS W g a b c d) g 36 #[a,b,c,d]:=(((h.aM 0 a).aM 1 b).aM 2 c).aM 3 d
theorem iY{B:Nat}{w:World}(h:Below B w W)(hg:B≤g):Below B w (xS W g a b c d):=(((h.setCell (p:=⟨g,0,none⟩) hg a).setCell (p:=⟨g,1,none⟩) hg b).setCell (p:=⟨g,2,none⟩) hg c).setCell (p:=⟨g,3,none⟩) hg d
theorem nK{n0:Nat}(h:Blk W g 36 #[x,y,z,u])(hg:n0≤g):TyW n0 [36] W (xS W g a b c d):=
 (((TyW.put h hg (by simp) a).trans (TyW.put (h.aM 0 a) hg (by simp) b)).trans (TyW.put ((h.aM 0 a).aM 1 b) hg (by simp) c)).trans (TyW.put (((h.aM 0 a).aM 1 b).aM 2 c) hg (by simp) d)
theorem vG.xS{base n0:Nat}{v:Value}{o:Say}(k:vG W base v o)(h:Blk W g 36 #[x,y,z,u])(hg:n0≤g):vG (xS W g a b c d) base v o:=by
 obtain⟨vo,vt,vf,h1,h2,h3,h4⟩:=k;have hT:=nK (a:=a) (b:=b) (c:=c) (d:=d) h hg;exact⟨vo,vt,vf,h1,hT.own h2 (by decide),hT.xO fE.aO h3 (by decide),hT.xO u6.aO h4 (by decide)⟩
end
end Go.Proofs.YtfhnamomiaekdaaGreatDoor
namespace Go.Proofs.YtfhnamomiaekdaaGreatDoor
open Go.RowKit Go.Inq
set_option maxHeartbeats 2000000
attribute [local go_sem↓] Go.wp_at_zero Go.wp_at_succ
def ug{α:Type}(p:α→Bool)(l:List α):Int:=match l.findIdx? p with|some k=>k|none=> -1
theorem jo{α:Type}{p:α→Bool}{l:List α}{k:Nat}(hk:k<l.length)(h:p l[k]=true)(h0:∀j (hj:j<l.length),j<k→p l[j]=false):ug p l=k:=by
 unfold ug;have:l.findIdx? p=some k:=by
  rw[List.findIdx?_eq_some_iff_getElem];exact⟨hk,h,fun j hj=>by rw[h0 j (by omega) hj];simp⟩
 rw[this]
theorem iD{α:Type}{p:α→Bool}{l:List α}(h0:∀j (hj:j<l.length),p l[j]=false):ug p l= -1:=by
 unfold ug;have:l.findIdx? p=none:=by
  rw[List.findIdx?_eq_none_iff];intro y hy;obtain⟨j,hj,rfl⟩:=List.getElem_of_mem hy;exact h0 j hj
 rw[this]
theorem jq{α:Type}(p:α→Bool)(l:List α):decide (0≤ug p l)=l.any p:=by
 unfold ug;cases hf:l.findIdx? p with
 |none=>
  rw[List.findIdx?_eq_none_iff]at hf;have:l.any p=false:=(by rw[List.any_eq_false];intro x hx;rw[hf x hx];simp);rw[this];rfl
 |some k=>
  rw[List.findIdx?_eq_some_iff_getElem]at hf;obtain⟨h1,h2,_⟩:=hf;have:l.any p=true:=List.any_eq_true.2 ⟨_,List.getElem_mem h1,h2⟩;rw[this];simp
set_option maxRecDepth 100000 in
theorem GR (f:Nat) (hf:∀args w,(callFunc f args).run Tryz.prog w= .ok (.enter f args) w) (lb:Array Value) (p:Cho→Bool) (A:Option Addr) (c:Nat) (l:List Cho) (w:World) (h:bC w (Old w) (.slice A l.length c) l) (hl:l.length≤1000000000)
 (hp:∀W,Below w.heap.size w W→∀x∈l,Calls Tryz.prog f (#[.agg #[.int .i64 x.key,.int .i64 x.a,.int .i64 x.b]]++lb) W fun e W'=>e= .returned (.bool (p x))∧Below W.heap.size W W'):
 Calls Tryz.prog 202 #[.slice A l.length c,.func (.func f) #[] lb] w fun e w'=>e= .returned (.int .i64 (ug p l))∧Below w.heap.size w w':=by
 have hhit:=hide (fun k=>jo (p:=p) (l:=l) (k:=k));have hnone:=hide (iD (p:=p) (l:=l));replace h:=hide h;replace hp:=hide hp;go_enter Tryz.func202,Tryz.ntmps202;go_wp2_with fail;go_loopw [8] (fun s8 wr=>∃k:Nat,k≤l.length∧s8= .int .i64 k∧Hid (∀j (hj:j<l.length),j<k→p l[j]=false)∧Below w.heap.size w wr) (fun s8 _=>l.length-(intOf s8).toNat);case atStart=>exact⟨0,Nat.zero_le _,by go_num,fun j hj h=>absurd h (by omega),Below.refl _ _⟩
 case round=>
  obtain⟨k,hk,rfl,hall,hb⟩:=hrel;have hk1:(0:Int)≤(k:Int):=Int.natCast_nonneg _;by_cases hlt:k<l.length
  ·have hi2:(k:Int)<(l.length:Int):=(by omega);obtain⟨b,off,rfl,_,d0,d1,d2⟩:=(h.out.below hb).at_ hlt;have hcall:=hide (hp.out _ hb _ (List.getElem_mem hlt));have hh:=hide (fun g=>hhit.out k hlt g hall.out);have hst:Hid (p l[k]=false→∀j (hj:j<l.length),j<k+1→p l[j]=false):=fun g j hj hjk=>by
    by_cases e:j=k
    ·subst e;exact g
    ·exact hall.out j hj (by omega)
   clear hall;generalize l[k]=x at*;go_wp2_with fail;refine hcall.out.mono ?_;rintro e W2 ⟨rfl,hb2⟩;have hb3:=hb.trans (hb2.mono hb.size);cases hpx:p x with
   |true=>
    have hr:=hide (hh.out hpx);clear hpx hh hst hcall;go_wp2;go_ret;exact⟨dA hr.out.symm,hb3⟩
   |false=>
    have hr:=hide (hst.out hpx);clear hpx hh hst hcall;go_wp2;go_roundw;case rel=>exact⟨k+1,by omega,by go_num,hr,hb3⟩
    case measure=>simp[intOf];omega
  ·have hr:=hide (hnone.out fun j hj=>hall.out j hj (by omega));go_wp2;go_ret;exact⟨dA hr.out.symm,hb⟩
theorem AU (f:Nat) (hf:∀args w,(callFunc f args).run Tryz.prog w= .ok (.enter f args) w) (lb:Array Value) (p:Cho→Bool) (A:Option Addr) (c:Nat) (l:List Cho) (w:World) (h:bC w (Old w) (.slice A l.length c) l) (hl:l.length≤1000000000)
 (hp:∀W,Below w.heap.size w W→∀x∈l,Calls Tryz.prog f (#[.agg #[.int .i64 x.key,.int .i64 x.a,.int .i64 x.b]]++lb) W fun e W'=>e= .returned (.bool (p x))∧Below W.heap.size W W'):
 Calls Tryz.prog 146 #[.slice A l.length c,.func (.func f) #[] lb] w fun e w'=>e= .returned (.bool (l.any p))∧Below w.heap.size w w':=by
 have hd:=hide (jq p l);have hcall:=hide (GR f hf lb p A c l w h hl hp);clear hp hf h;go_enter Tryz.func146,Tryz.ntmps146;go_wp2_with fail;refine hcall.out.mono ?_;rintro e w1 ⟨rfl,hb⟩;clear hcall;go_wp2;go_ret;exact⟨by rw[←hd.out];rfl,hb⟩
theorem GU(A:Option Addr)(c:Nat)(l:List It)(xa xb:Int)(w:World)(h:ItS w (Old w) (.slice A l.length c) l)(hl:l.length≤1000000000):
 Calls Tryz.prog 227 #[.slice A l.length c,.agg #[.int .i64 xa,.int .i64 xb]] w fun e w'=>e= .returned (.int .i64 (ug (fun x:It=>decide (x.a=xa)&&decide (x.b=xb)) l))∧Below w.heap.size w w':=by
 have hhit:=hide (fun k=>jo (p:=fun x:It=>decide (x.a=xa)&&decide (x.b=xb)) (l:=l) (k:=k));have hnone:=hide (iD (p:=fun x:It=>decide (x.a=xa)&&decide (x.b=xb)) (l:=l));obtain⟨W0,hW0⟩:∃W0,w.alloc (.cells #[.int .i64 xa,.int .i64 xb] 106)=W0:=⟨_,rfl⟩;have hB:=ah (Below.refl w.heap.size w) hW0 (Nat.le_refl _);have k0:=Blk.newEq hW0;replace h:=hide h;go_enter Tryz.func227,Tryz.ntmps227;go_wp2_with fail;clear hW0;go_loopw [8] (fun s8 wr=>∃k:Nat,k≤l.length∧s8= .int .i64 k∧Hid (∀j (hj:j<l.length),j<k→(decide (l[j].a=xa)&&decide (l[j].b=xb))=false)∧Below w.heap.size w wr∧Blk wr w.heap.size 106 #[.int .i64 xa,.int .i64 xb]) (fun s8 _=>l.length-(intOf s8).toNat);case atStart=>exact⟨0,Nat.zero_le _,by go_num,fun j hj h=>absurd h (by omega),hB,k0⟩
 case round=>
  clear k0 hB;obtain⟨k,hk,rfl,hall,hb,k0⟩:=hrel;have hk1:(0:Int)≤(k:Int):=Int.natCast_nonneg _;by_cases hlt:k<l.length
  ·have hi2:(k:Int)<(l.length:Int):=(by omega);obtain⟨b,off,rfl,_,d0,d1⟩:=(h.out.below hb).at_ hlt;have hh:=hide (fun g=>hhit.out k hlt g hall.out);have hst:Hid ((decide (l[k].a=xa)&&decide (l[k].b=xb))=false→∀j (hj:j<l.length),j<k+1→(decide (l[j].a=xa)&&decide (l[j].b=xb))=false):=fun g j hj hjk=>by
    by_cases e:j=k
    ·subst e;exact g
    ·exact hall.out j hj (by omega)
   have c0:=Blk.n0 k0;have c1:=Blk.n1 k0;clear hall;generalize l[k]=x at*;obtain⟨ya,yb⟩:=x;dsimp only at*;by_cases q1:xa=ya
   ·by_cases q2:xb=yb
    ·have q1b:(xa==ya)=true:=(by simpa using q1);have q2b:(xb==yb)=true:=(by simpa using q2);have hr:=hide (hh.out (by simp[q1,q2]));clear q1 q2 hh hst;go_wp2;go_quiet (fail);go_wp2;go_ret;exact⟨dA hr.out.symm,hb.trans ⟨rfl,rfl,rfl,Nat.le_refl _,fun _ _=>rfl⟩⟩
    ·have q1b:(xa==ya)=true:=(by simpa using q1);have q2b:(xb==yb)=false:=(by simpa using q2);have hr:=hide (hst.out (by simp;intro _ e;exact q2 e.symm));clear q1 q2 hh hst;go_wp2;go_quiet (fail);go_wp2;go_roundw;case rel=>exact⟨k+1,by omega,by go_num,hr,hb.trans ⟨rfl,rfl,rfl,Nat.le_refl _,fun _ _=>rfl⟩,k0⟩
     case measure=>simp[intOf];omega
   ·have q1b:(xa==ya)=false:=(by simpa using q1);have hr:=hide (hst.out (by simp;intro e;exact absurd e.symm q1));clear q1 hh hst;go_wp2;go_quiet (fail);go_wp2;go_roundw;case rel=>exact⟨k+1,by omega,by go_num,hr,hb.trans ⟨rfl,rfl,rfl,Nat.le_refl _,fun _ _=>rfl⟩,k0⟩
    case measure=>simp[intOf];omega
  ·have hr:=hide (hnone.out fun j hj=>hall.out j hj (by omega));go_wp2;go_ret;exact⟨dA hr.out.symm,hb⟩
theorem qZ(A:Option Addr)(c:Nat)(l:List It)(xa xb:Int)(w:World)(h:ItS w (Old w) (.slice A l.length c) l)(hl:l.length≤1000000000):
 Calls Tryz.prog 169 #[.slice A l.length c,.agg #[.int .i64 xa,.int .i64 xb]] w fun e w'=>e= .returned (.bool (l.any fun x=>decide (x.a=xa)&&decide (x.b=xb)))∧Below w.heap.size w w':=by
 have hd:=hide (jq (fun x:It=>decide (x.a=xa)&&decide (x.b=xb)) l);obtain⟨W0,hW0⟩:∃W0,w.alloc (.cells #[.int .i64 xa,.int .i64 xb] 106)=W0:=⟨_,rfl⟩;have hB:=ah (Below.refl w.heap.size w) hW0 (Nat.le_refl _);have h0:=h.below hB;have hcall:=hide (GU A c l xa xb W0 h0 hl);have k0:=Blk.newEq hW0;clear h h0;have c0:=Blk.n0 k0;have c1:=Blk.n1 k0;go_enter Tryz.func169,Tryz.ntmps169;go_wp2_with fail;clear hW0;refine hcall.out.mono ?_;rintro e w1 ⟨rfl,hb⟩;have hb2:=hB.trans (hb.mono hB.size);clear hcall;go_wp2;go_ret;exact⟨by rw[←hd.out];rfl,hb2⟩
def xU(w:World)(K:Nat→Prop)(v:Value)(l:List (Value×Bool)):Prop:=SlR 1 (Flat fun x:Value×Bool=>[x.1]) w K v l
theorem xU.below{w w':World}{v:Value}{l:List (Value×Bool)}(h:xU w (Old w) v l)(hb:Below w.heap.size w w'):xU w' (Old w') v l:=SlR.below (Flat.aO _) h hb
theorem xU.at_{w:World}{K:Nat→Prop}{A:Option Addr}{n c:Nat}{l:List (Value×Bool)}(h:xU w K (.slice A n c) l){i:Nat}(hi:i<l.length):
 ∃b off,A=some ⟨b,off,none⟩∧K b∧w.cell? ⟨b,off+i,none⟩=some l[i].1:=by
 obtain⟨b,off,cs,hA,hK,_,hR,hc⟩:=SlR.at_ h hi;unfold Flat at hR;subst hR;have:=hc 0 _ rfl;rw[Nat.mul_one,Nat.add_zero]at this;exact⟨b,off,hA,hK,this⟩
set_option maxRecDepth 100000 in
theorem EC (f:Nat) (hf:∀args w,(callFunc f args).run Tryz.prog w= .ok (.enter f args) w) (lb:Array Value) (p:It→Bool) (A:Option Addr) (c:Nat) (l:List (It)) (w:World) (h:ItS w (Old w) (.slice A l.length c) l) (hl:l.length≤1000000000)
 (hp:∀W,Below w.heap.size w W→∀x∈l,Calls Tryz.prog f (#[.agg #[.int .i64 x.a,.int .i64 x.b]]++lb) W fun e W'=>e= .returned (.bool (p x))∧Below W.heap.size W W'):
 Calls Tryz.prog 257 #[.slice A l.length c,.func (.func f) #[] lb] w fun e w'=>e= .returned (.int .i64 (ug p l))∧Below w.heap.size w w':=by
 have hhit:=hide (fun k=>jo (p:=p) (l:=l) (k:=k));have hnone:=hide (iD (p:=p) (l:=l));replace h:=hide h;replace hp:=hide hp;go_enter Tryz.func257,Tryz.ntmps257;go_wp2_with fail;go_loopw [8] (fun s8 wr=>∃k:Nat,k≤l.length∧s8= .int .i64 k∧Hid (∀j (hj:j<l.length),j<k→p l[j]=false)∧Below w.heap.size w wr) (fun s8 _=>l.length-(intOf s8).toNat);case atStart=>exact⟨0,Nat.zero_le _,by go_num,fun j hj h=>absurd h (by omega),Below.refl _ _⟩
 case round=>
  obtain⟨k,hk,rfl,hall,hb⟩:=hrel;have hk1:(0:Int)≤(k:Int):=Int.natCast_nonneg _;by_cases hlt:k<l.length
  ·have hi2:(k:Int)<(l.length:Int):=(by omega);obtain⟨b,off,rfl,_,d0,d1⟩:=(h.out.below hb).at_ hlt;have hcall:=hide (hp.out _ hb _ (List.getElem_mem hlt));have hh:=hide (fun g=>hhit.out k hlt g hall.out);have hst:Hid (p l[k]=false→∀j (hj:j<l.length),j<k+1→p l[j]=false):=fun g j hj hjk=>by
    by_cases e:j=k
    ·subst e;exact g
    ·exact hall.out j hj (by omega)
   clear hall;generalize l[k]=x at*;go_wp2_with fail;refine hcall.out.mono ?_;rintro e W2 ⟨rfl,hb2⟩;have hb3:=hb.trans (hb2.mono hb.size);cases hpx:p x with
   |true=>
    have hr:=hide (hh.out hpx);clear hpx hh hst hcall;go_wp2;go_ret;exact⟨dA hr.out.symm,hb3⟩
   |false=>
    have hr:=hide (hst.out hpx);clear hpx hh hst hcall;go_wp2;go_roundw;case rel=>exact⟨k+1,by omega,by go_num,hr,hb3⟩
    case measure=>simp[intOf];omega
  ·have hr:=hide (hnone.out fun j hj=>hall.out j hj (by omega));go_wp2;go_ret;exact⟨dA hr.out.symm,hb⟩
theorem iN (f:Nat) (hf:∀args w,(callFunc f args).run Tryz.prog w= .ok (.enter f args) w) (lb:Array Value) (p:It→Bool) (A:Option Addr) (c:Nat) (l:List (It)) (w:World) (h:ItS w (Old w) (.slice A l.length c) l) (hl:l.length≤1000000000)
 (hp:∀W,Below w.heap.size w W→∀x∈l,Calls Tryz.prog f (#[.agg #[.int .i64 x.a,.int .i64 x.b]]++lb) W fun e W'=>e= .returned (.bool (p x))∧Below W.heap.size W W'):
 Calls Tryz.prog 217 #[.slice A l.length c,.func (.func f) #[] lb] w fun e w'=>e= .returned (.bool (l.any p))∧Below w.heap.size w w':=by
 have hd:=hide (jq p l);have hcall:=hide (EC f hf lb p A c l w h hl hp);clear hp hf h;go_enter Tryz.func217,Tryz.ntmps217;go_wp2_with fail;refine hcall.out.mono ?_;rintro e w1 ⟨rfl,hb⟩;clear hcall;go_wp2;go_ret;exact⟨by rw[←hd.out];rfl,hb⟩
set_option maxRecDepth 100000 in
theorem ED (f:Nat) (hf:∀args w,(callFunc f args).run Tryz.prog w= .ok (.enter f args) w) (lb:Array Value) (p:Cho→Bool) (A:Option Addr) (c:Nat) (l:List (Cho)) (w:World) (h:bC w (Old w) (.slice A l.length c) l) (hl:l.length≤1000000000)
 (hp:∀W,Below w.heap.size w W→∀x∈l,Calls Tryz.prog f (#[.agg #[.int .i64 x.key,.int .i64 x.a,.int .i64 x.b]]++lb) W fun e W'=>e= .returned (.bool (p x))∧Below W.heap.size W W'):
 Calls Tryz.prog 301 #[.slice A l.length c,.func (.func f) #[] lb] w fun e w'=>e= .returned (.int .i64 (ug p l))∧Below w.heap.size w w':=by
 have hhit:=hide (fun k=>jo (p:=p) (l:=l) (k:=k));have hnone:=hide (iD (p:=p) (l:=l));replace h:=hide h;replace hp:=hide hp;go_enter Tryz.func301,Tryz.ntmps301;go_wp2_with fail;go_loopw [8] (fun s8 wr=>∃k:Nat,k≤l.length∧s8= .int .i64 k∧Hid (∀j (hj:j<l.length),j<k→p l[j]=false)∧Below w.heap.size w wr) (fun s8 _=>l.length-(intOf s8).toNat);case atStart=>exact⟨0,Nat.zero_le _,by go_num,fun j hj h=>absurd h (by omega),Below.refl _ _⟩
 case round=>
  obtain⟨k,hk,rfl,hall,hb⟩:=hrel;have hk1:(0:Int)≤(k:Int):=Int.natCast_nonneg _;by_cases hlt:k<l.length
  ·have hi2:(k:Int)<(l.length:Int):=(by omega);obtain⟨b,off,rfl,_,d0,d1,d2⟩:=(h.out.below hb).at_ hlt;have hcall:=hide (hp.out _ hb _ (List.getElem_mem hlt));have hh:=hide (fun g=>hhit.out k hlt g hall.out);have hst:Hid (p l[k]=false→∀j (hj:j<l.length),j<k+1→p l[j]=false):=fun g j hj hjk=>by
    by_cases e:j=k
    ·subst e;exact g
    ·exact hall.out j hj (by omega)
   clear hall;generalize l[k]=x at*;go_wp2_with fail;refine hcall.out.mono ?_;rintro e W2 ⟨rfl,hb2⟩;have hb3:=hb.trans (hb2.mono hb.size);cases hpx:p x with
   |true=>
    have hr:=hide (hh.out hpx);clear hpx hh hst hcall;go_wp2;go_ret;exact⟨dA hr.out.symm,hb3⟩
   |false=>
    have hr:=hide (hst.out hpx);clear hpx hh hst hcall;go_wp2;go_roundw;case rel=>exact⟨k+1,by omega,by go_num,hr,hb3⟩
    case measure=>simp[intOf];omega
  ·have hr:=hide (hnone.out fun j hj=>hall.out j hj (by omega));go_wp2;go_ret;exact⟨dA hr.out.symm,hb⟩
theorem y8 (f:Nat) (hf:∀args w,(callFunc f args).run Tryz.prog w= .ok (.enter f args) w) (lb:Array Value) (p:Cho→Bool) (A:Option Addr) (c:Nat) (l:List (Cho)) (w:World) (h:bC w (Old w) (.slice A l.length c) l) (hl:l.length≤1000000000)
 (hp:∀W,Below w.heap.size w W→∀x∈l,Calls Tryz.prog f (#[.agg #[.int .i64 x.key,.int .i64 x.a,.int .i64 x.b]]++lb) W fun e W'=>e= .returned (.bool (p x))∧Below W.heap.size W W'):
 Calls Tryz.prog 298 #[.slice A l.length c,.func (.func f) #[] lb] w fun e w'=>e= .returned (.bool (l.any p))∧Below w.heap.size w w':=by
 have hd:=hide (jq p l);have hcall:=hide (ED f hf lb p A c l w h hl hp);clear hp hf h;go_enter Tryz.func298,Tryz.ntmps298;go_wp2_with fail;refine hcall.out.mono ?_;rintro e w1 ⟨rfl,hb⟩;clear hcall;go_wp2;go_ret;exact⟨by rw[←hd.out];rfl,hb⟩
set_option maxRecDepth 100000 in
theorem EF (f:Nat) (hf:∀args w,(callFunc f args).run Tryz.prog w= .ok (.enter f args) w) (lb:Array Value) (p:Value×Bool→Bool) (A:Option Addr) (c:Nat) (l:List (Value×Bool)) (w:World) (h:xU w (Old w) (.slice A l.length c) l) (hl:l.length≤1000000000)
 (hp:∀W,Below w.heap.size w W→∀x∈l,Calls Tryz.prog f (#[x.1]++lb) W fun e W'=>e= .returned (.bool (p x))∧Below W.heap.size W W'):
 Calls Tryz.prog 277 #[.slice A l.length c,.func (.func f) #[] lb] w fun e w'=>e= .returned (.int .i64 (ug p l))∧Below w.heap.size w w':=by
 have hhit:=hide (fun k=>jo (p:=p) (l:=l) (k:=k));have hnone:=hide (iD (p:=p) (l:=l));replace h:=hide h;replace hp:=hide hp;go_enter Tryz.func277,Tryz.ntmps277;go_wp2_with fail;go_loopw [8] (fun s8 wr=>∃k:Nat,k≤l.length∧s8= .int .i64 k∧Hid (∀j (hj:j<l.length),j<k→p l[j]=false)∧Below w.heap.size w wr) (fun s8 _=>l.length-(intOf s8).toNat);case atStart=>exact⟨0,Nat.zero_le _,by go_num,fun j hj h=>absurd h (by omega),Below.refl _ _⟩
 case round=>
  obtain⟨k,hk,rfl,hall,hb⟩:=hrel;have hk1:(0:Int)≤(k:Int):=Int.natCast_nonneg _;by_cases hlt:k<l.length
  ·have hi2:(k:Int)<(l.length:Int):=(by omega);obtain⟨b,off,rfl,_,d0⟩:=(h.out.below hb).at_ hlt;have hcall:=hide (hp.out _ hb _ (List.getElem_mem hlt));have hh:=hide (fun g=>hhit.out k hlt g hall.out);have hst:Hid (p l[k]=false→∀j (hj:j<l.length),j<k+1→p l[j]=false):=fun g j hj hjk=>by
    by_cases e:j=k
    ·subst e;exact g
    ·exact hall.out j hj (by omega)
   clear hall;generalize l[k]=x at*;go_wp2_with fail;refine hcall.out.mono ?_;rintro e W2 ⟨rfl,hb2⟩;have hb3:=hb.trans (hb2.mono hb.size);cases hpx:p x with
   |true=>
    have hr:=hide (hh.out hpx);clear hpx hh hst hcall;go_wp2;go_ret;exact⟨dA hr.out.symm,hb3⟩
   |false=>
    have hr:=hide (hst.out hpx);clear hpx hh hst hcall;go_wp2;go_roundw;case rel=>exact⟨k+1,by omega,by go_num,hr,hb3⟩
    case measure=>simp[intOf];omega
  ·have hr:=hide (hnone.out fun j hj=>hall.out j hj (by omega));go_wp2;go_ret;exact⟨dA hr.out.symm,hb⟩
theorem y9 (f:Nat) (hf:∀args w,(callFunc f args).run Tryz.prog w= .ok (.enter f args) w) (lb:Array Value) (p:Value×Bool→Bool) (A:Option Addr) (c:Nat) (l:List (Value×Bool)) (w:World) (h:xU w (Old w) (.slice A l.length c) l) (hl:l.length≤1000000000)
 (hp:∀W,Below w.heap.size w W→∀x∈l,Calls Tryz.prog f (#[x.1]++lb) W fun e W'=>e= .returned (.bool (p x))∧Below W.heap.size W W'):
 Calls Tryz.prog 273 #[.slice A l.length c,.func (.func f) #[] lb] w fun e w'=>e= .returned (.bool (l.any p))∧Below w.heap.size w w':=by
 have hd:=hide (jq p l);have hcall:=hide (EF f hf lb p A c l w h hl hp);clear hp hf h;go_enter Tryz.func273,Tryz.ntmps273;go_wp2_with fail;refine hcall.out.mono ?_;rintro e w1 ⟨rfl,hb⟩;clear hcall;go_wp2;go_ret;exact⟨by rw[←hd.out];rfl,hb⟩
set_option maxHeartbeats 4000000
theorem uh(A:Option Addr)(c:Nat)(H:List Txn)(hn:aH H)(t key:Int)(Bh:Nat)(w:World)(h:aD w (Old w) (.slice A H.length c) H)(hBh:w.cell? ⟨Bh,0,none⟩=some (.slice A H.length c)):
 Calls Tryz.prog 144 #[.int .i64 t,.int .i64 key,.pointer (some ⟨Bh,0,none⟩)] w fun e w'=>e= .returned (.bool (wrB H t key))∧w=w':=by
 have hlen:=hn.1;by_cases h0:0≤t
 ·have h0b:decide (t≥0)=true:=(by simpa using h0);by_cases h1:t<(H.length:Int)
  ·obtain⟨m,rfl⟩:∃m:Nat,t=m:=⟨t.toNat,by omega⟩;have hm:m<H.length:=(by omega);have hr:=hide (CF (key:=key) hm);rw[aJ hm]at hr;obtain⟨b,off,Aw,cw,Ar,cr,rfl,_,d0,d1,d2,hws,_⟩:=aD.at_ h hm;have hwl:=(hn.2 _ (List.getElem_mem hm)).1;generalize H[m]=x at*;obtain⟨ts,ws,rs⟩:=x;dsimp only at*;have hm1:decide (m<H.length)=true:=(by simpa using hm);have hm2:(0:Int)≤(m:Int):=Int.natCast_nonneg _;replace hn:=hide hn;clear h h0;go_enter Tryz.func144,Tryz.ntmps144;go_wp2_with fail;refine(dR Aw cw ws key _ _ hws (by unfold maxLen;omega)).mono ?_;rintro e w3 ⟨rfl,rfl⟩;generalize ws.contains key=cb at*;go_wp2;go_ret;exact⟨by rw[hr.out];rfl,rfl⟩
  ·have hr:wrB H t key=false:=(by unfold wrB;simp;intro _ e;exact absurd e h1);have h1b:decide (t<(H.length:Int))=false:=(by simpa using h1);rw[hr];replace hn:=hide hn;clear h h0 h1 hr;go_enter Tryz.func144,Tryz.ntmps144;go_wp2;go_ret;exact⟨rfl,rfl⟩
 ·have hr:wrB H t key=false:=(by unfold wrB;simp;intro e;exact absurd e h0);have h0b:decide (t≥0)=false:=(by simpa using h0);rw[hr];replace hn:=hide hn;clear h h0 hr;go_enter Tryz.func144,Tryz.ntmps144;go_wp2;go_ret;exact⟨rfl,rfl⟩
theorem Ky(A:Option Addr)(c:Nat)(H:List Txn)(hn:aH H)(x:Cho)(Bh Bf:Nat)(w:World)(h:aD w (Old w) (.slice A H.length c) H)(hBh:w.cell? ⟨Bh,0,none⟩=some (.slice A H.length c))(hBf:w.cell? ⟨Bf,0,none⟩=some (.func (.func 144) #[] #[.pointer (some ⟨Bh,0,none⟩)])):
 Calls Tryz.prog 147 #[.agg #[.int .i64 x.key,.int .i64 x.a,.int .i64 x.b],.pointer (some ⟨Bf,0,none⟩)] w fun e w'=>e= .returned (.bool (!dn H x))∧Below w.heap.size w w':=by
 obtain⟨key,a,b⟩:=x;dsimp only;obtain⟨W0,hW0⟩:∃W0,w.alloc (.cells #[.int .i64 key,.int .i64 a,.int .i64 b] 102)=W0:=⟨_,rfl⟩;have hB:=ah (Below.refl w.heap.size w) hW0 (Nat.le_refl _);have k0:=Blk.newEq hW0;have Tf:=(hB.cell (p:=⟨Bh,0,none⟩) (block_lt_of_cell hBh)).trans hBh;have VP:=(hB.cell (p:=⟨Bf,0,none⟩) (block_lt_of_cell hBf)).trans hBf;have h2:=hide (h.below hB);have c0:=Blk.n0 k0;have c1:=Blk.n1 k0;have c2:=Blk.n2 k0;replace hn:=hide hn;clear h hBh hBf;by_cases h0:a=b
 ·have hr:dn H ⟨key,a,b⟩=false:=(by unfold dn;simp[h0]);have h0b:(a==b)=true:=(by simpa using h0);rw[hr];clear h0 hr;go_enter Tryz.func147,Tryz.ntmps147;go_wp2;go_ret;exact⟨rfl,hB⟩
 ·have hr:dn H ⟨key,a,b⟩=(wrB H a key&&wrB H b key):=(by unfold dn;simp[h0]);have h0b:(a==b)=false:=(by simpa using h0);rw[hr];clear h0 hr;go_enter Tryz.func147,Tryz.ntmps147;go_wp2_with fail;clear hW0;refine(uh A c H hn.out a key Bh _ h2.out Tf).mono ?_;rintro e w1 ⟨rfl,rfl⟩;cases hw:wrB H a key with
  |false=>
   replace hw:=hide hw;go_wp2;go_ret;exact⟨by rw[hw.out];rfl,hB⟩
  |true=>
   replace hw:=hide hw;go_wp2_with fail;refine(uh A c H hn.out b key Bh _ h2.out Tf).mono ?_;rintro e w1 ⟨rfl,rfl⟩;go_wp2;go_ret;exact⟨by rw[hw.out];rfl,hB⟩
set_option maxRecDepth 100000 in
theorem jr(A:Option Addr)(c:Nat)(H:List Txn)(Al:Option Addr)(cl:Nat)(l:List Cho)(w:World)(h:aD w (Old w) (.slice A H.length c) H)(hn:aH H)(hl:bC w (Old w) (.slice Al l.length cl) l)(hln:l.length≤1000000000):
 Calls Tryz.prog 80 #[.agg #[.slice A H.length c],.slice Al l.length cl] w fun e w'=>e= .returned (.bool (dY H l))∧Below w.heap.size w w':=by
 obtain⟨W0,hW0⟩:∃W0,w.alloc (.cells #[.slice A H.length c] 24)=W0:=⟨_,rfl⟩;have hB:=ah (Below.refl w.heap.size w) hW0 (Nat.le_refl _);have k0:=Blk.newEq hW0;have h2:=hide (h.below hB);have hl2:=hide (hl.below hB);have c0:=Blk.n0 k0;replace hn:=hide hn;have hs0:=aA hW0;replace hs0:=hide hs0;have hrc:Hid (dY H l=(ay H&&decide (l.length≤20000)&&l.all (dn H))):=hide rfl;have hal:Hid (l.all (dn H)= !(l.any fun x=> !dn H x)):=hide (by rw[Bool.eq_iff_iff];simp);clear h hl;go_enter Tryz.func80,Tryz.ntmps80;go_wp2_with fail;clear hW0 c0;refine(dL A c H _ h2.out hn.out).mono ?_;rintro e w1 ⟨rfl,hb1⟩;replace k0:=k0.below hb1 k0.lt;have hT1:=hide (h2.out.below hb1);have hC1:=hide (hl2.out.below hb1);have hb:=hB.trans (hb1.mono hB.size);clear hb1 hB h2 hl2;cases hr:ay H with
 |false=>
  rw[hr]at hrc;clear hr;go_wp2;go_ret;exact⟨by rw[hrc.out];rfl,hb⟩
 |true=>
  rw[hr]at hrc;clear hr;by_cases hm:l.length≤20000
  ·have hm1:decide ((l.length:Int)>20000)=false:=(by simp;omega);have hm2:decide (l.length≤20000)=true:=(by simpa using hm);rw[hm2]at hrc;obtain⟨W2,hW2⟩:∃W2,w1.alloc (.cells #[.func (.func 144) #[] #[.pointer (some ⟨w.heap.size,0,none⟩)]] 224)=W2:=⟨_,rfl⟩;have hB2:=ah (Below.refl w1.heap.size w1) hW2 (Nat.le_refl _);have kF:=Blk.newEq hW2;have hT2:=hT1.out.below hB2;have hC2:=hC1.out.below hB2;have k02:=k0.au hW2;have hb2:=hb.trans (hB2.mono hb.size);have hcall:=hide (AU 147 (enters_of Tryz.func147 (by kernel_rfl) rfl) #[.pointer (some ⟨w1.heap.size,0,none⟩)] (fun x=> !dn H x) Al cl l W2 hC2 (by omega) (fun W hbW x _=>
    Ky A c H hn.out x w.heap.size w1.heap.size W (hT2.below hbW) (by have:=(k02.below hbW k02.lt).cell 0;simpa using this) (by have:=(kF.below hbW kF.lt).cell 0;simpa using this)))
   clear hm hm2 hB2 kF hT1 hC1 hT2 hC2 k0 k02;go_wp2_with fail;clear hW2;refine hcall.out.mono ?_;rintro e w3 ⟨rfl,hb3⟩;have hb4:=hb2.trans (hb3.mono hb2.size);clear hcall;go_wp2;go_ret;exact⟨by rw[hrc.out,hal.out];simp,hb4⟩
  ·have hm1:decide ((l.length:Int)>20000)=true:=(by simp;omega);have hm2:decide (l.length≤20000)=false:=(by simpa using hm);rw[hm2]at hrc;clear hm hm2;go_wp2;go_ret;exact⟨by rw[hrc.out];rfl,hb⟩
set_option maxHeartbeats 1000000
set_option maxHeartbeats 2000000
theorem P8:(Tryz.prog.info? 172).map (fun i=>(i.zero,i.size,i.bytes))=some (some (.int .u64 0),1,8):=by kernel_rfl
abbrev Kz:=M4 172
theorem jX(n:Nat)(hn:n≤64)(w:World):Calls Tryz.prog 166 #[.int .i64 n] w (Kz w n noE):=by
 have hmk:∀W:World,(Instr.makeSlice 75 (.int .i64 (n:Int)) (.int .i64 (n:Int))).run Tryz.prog W= .ok (.slice (some ⟨W.heap.size,0,none⟩) n n) (W.alloc (.cells (madeCells #[.int .u64 0] n) 172)):=
  fun W=>run_make_row' (P:=Tryz.prog) 75 172 (.int .u64 0) 8 Tryz.underlying75 P8 rfl .i64 .i64 n (by omega) (by omega) W
 have h1:decide ((n:Int)<0)=false:=(by simp);have h2:decide ((n:Int)>64)=false:=(by simp;omega);have hno:=hide (M0 n);go_enter Tryz.func166,Tryz.ntmps166;go_wp2;refine bodyPost_ret (v:= .tuple #[.agg #[.int .i64 n,.slice (some ⟨w.heap.size+1,0,none⟩) n n],.int .i64 0]) (by simp[results,Tryz.results166,go_sem]) rfl ?_;refine⟨w.heap.size+1,by omega,rfl,?_,?_⟩
 ·rw[hno.out];have:=Blk.new (w.alloc (.cells #[.int .i64 n,.slice (some ⟨w.heap.size+1,0,none⟩) n n] 77)) 172 (madeCells #[.int .u64 0] n);simpa using this
 ·exact((Below.refl _ _).alloc (Nat.le_refl _) _).alloc (by simp) _
theorem jv(n:Nat)(A:Option Addr)(c:Nat)(E:aj)(K:Nat→Prop)(w:World)(h:GrS w K n A c E)(hK:∀b,K b→b<w.heap.size):
 Calls Tryz.prog 101 #[.agg #[.int .i64 n,.slice A n c]] w fun e w'=>e= .returned (.bool true)∧Below w.heap.size w w':=by
 have h1:decide ((n:Int)≥0)=true:=(by simp);have h2:decide ((n:Int)≤64)=true:=(by have:=h.n64;simp;omega);have hB:Below w.heap.size w (w.alloc (.cells #[.int .i64 n,.slice A n c] 77)):=(Below.refl _ _).alloc (Nat.le_refl _) _;have k0:Blk (w.alloc (.cells #[.int .i64 n,.slice A n c] 77)) w.heap.size 77 #[.int .i64 n,.slice A n c]:=Blk.new _ _ _;have hs:=h.sl.keep (Agree.below hB hK) (fun b hb=>hb);have hx:∀x∈dH n E,x<18446744073709551616:=fun x hx=>Nat.lt_of_lt_of_le (DU hx) (iw h.n64);have hsub:=hide (Kg h.n64 (l:=dH n E) fun x hx=>DU hx);have hjl:=hide (yM (l:=dH n E) (n:=64) hx);have hpl:=hide (show 2^n-1<18446744073709551616 by have:=iw h.n64;have:=Nat.two_pow_pos n;omega);have hnn:=hide h.n64;replace hx:=hide hx;replace hs:=hide hs;clear h hK;go_enter Tryz.func101,Tryz.ntmps101;go_wp2;generalize w.alloc (.cells #[.int .i64 n,.slice A n c] 77)=W at*;have c0:=Blk.n0 k0;have c1:=Blk.n1 k0;go_quiet ((first|(go_at_call 171;exact Calls.quiet_of_same ((fJ A n c (dH n E) K _ (aN n E) (hs.out.keep (Agree.drewN _ _ _) (fun _ h=>h)) hx.out (by have:=hnn.out;omega)).mono fun _ _ h=>⟨h.1,h.2.symm⟩))|(go_at_call 172;exact Calls.quiet_of_same ((Ef n hnn.out _).mono fun _ _ h=>⟨h.1,h.2.symm⟩))|(go_at_call 133;exact Calls.quiet_of_same ((BG _ _ hjl.out hpl.out _).mono fun _ _ h=>⟨h.1,h.2.symm⟩))));rw[hsub.out];go_wp2;go_ret;exact⟨rfl,hB.trans ⟨rfl,rfl,rfl,Nat.le_refl _,fun _ _=>rfl⟩⟩
theorem GX{w:World}{o:Obj}:Below w.heap.size w (w.alloc o):=(Below.refl _ _).alloc (Nat.le_refl _) _
theorem za(n:Nat)(A A':Option Addr)(c c':Nat)(E E':aj)(K:Nat→Prop)(w:World)(h:GrS w K n A c E)(h':GrS w K n A' c' E')(hK:∀b,K b→b<w.heap.size):
 Calls Tryz.prog 170 #[.agg #[.int .i64 n,.slice A n c],.agg #[.int .i64 n,.slice A' n c']] w fun e w'=>e= .returned (.bool true)∧Below w.heap.size w w':=by
 have hB:Below w.heap.size w ((w.alloc (.cells #[.int .i64 n,.slice A n c] 77)).alloc (.cells #[.int .i64 n,.slice A' n c'] 77)):=GX.alloc (by simp) _;have k0:Blk ((w.alloc (.cells #[.int .i64 n,.slice A n c] 77)).alloc (.cells #[.int .i64 n,.slice A' n c'] 77)) w.heap.size 77 #[.int .i64 n,.slice A n c]:=(Blk.new _ _ _).alloc _;have k1:Blk ((w.alloc (.cells #[.int .i64 n,.slice A n c] 77)).alloc (.cells #[.int .i64 n,.slice A' n c'] 77)) (w.heap.size+1) 77 #[.int .i64 n,.slice A' n c']:=by
  have:=Blk.new (w.alloc (.cells #[.int .i64 n,.slice A n c] 77)) 77 #[.int .i64 n,.slice A' n c'];simpa using this
 have hg:=hide (h.keep (Agree.below hB hK) (fun b hb=>hb));have hg':=hide (h'.keep (Agree.below hB hK) (fun b hb=>hb));have hK2:∀b,K b→b<((w.alloc (.cells #[.int .i64 n,.slice A n c] 77)).alloc (.cells #[.int .i64 n,.slice A' n c'] 77)).heap.size:=fun b hb=>(by have:=hK b hb;simp;omega);clear h h';replace hK:=hide hK;go_enter Tryz.func170,Tryz.ntmps170;go_wp2_with fail;refine(jv n _ c E K _ hg.out hK2).mono ?_;rintro e w1 ⟨rfl,hb1⟩;have hg2:=hide (hg'.out.keep (Agree.below hb1 hK2) (fun b hb=>hb));have hK3:∀b,K b→b<w1.heap.size:=fun b hb=>Nat.lt_of_lt_of_le (hK2 b hb) hb1.size;replace k0:=k0.below hb1 k0.lt;replace k1:=k1.below hb1 k1.lt;have hb2:=hB.trans (hb1.mono hB.size);have c0:=Blk.n0 k0;have c1:=Blk.n1 k0;have d0:=Blk.n0 k1;have d1:=Blk.n1 k1;clear hg hg' hb1 hB;replace hK2:=hide hK2;go_wp2_with fail;refine(jv n _ c' E' K _ hg2.out hK3).mono ?_;rintro e w3 ⟨rfl,hb3⟩;replace k0:=k0.below hb3 k0.lt;replace k1:=k1.below hb3 k1.lt;have hb4:=hb2.trans (hb3.mono hb2.size);clear c0 c1 d0 d1;have c0:=Blk.n0 k0;have d0:=Blk.n0 k1;clear hb3 hb2;replace hK3:=hide hK3;go_wp2;go_ret;exact⟨rfl,hb4⟩
end Go.Proofs.YtfhnamomiaekdaaGreatDoor
namespace Go.Proofs.YtfhnamomiaekdaaGreatDoor
open Go.RowKit Go.Inq
set_option maxHeartbeats 1000000
end Go.Proofs.YtfhnamomiaekdaaGreatDoor
namespace Go.Proofs.YtfhnamomiaekdaaGreatDoor
open Go.RowKit Go.Inq
set_option maxHeartbeats 4000000
attribute [local go_sem↓] Go.wp_at_zero Go.wp_at_succ
def Rt(w:World)(base:Nat)(v:Value)(l:List Nat):Prop:=w.ownsRow base 172 1 v l.length (l.map CU).flatten
theorem Rt.form{w:World}{base:Nat}{v:Value}{l:List Nat}(h:Rt w base v l):∃A c,v= .slice A l.length c:=aU h
def RG(W:World)(base n:Nat)(E:aj)(v:Value):Prop:=
 (n=0∧v= .slice none 0 0)∨∃g cap cur,v= .slice (some ⟨g,0,none⟩) n cap∧base≤g∧Blk W g 172 cur∧n≤cap∧cap≤maxLen∧cur.size=cap∧∀i,i<n→cur[i]?=some (.int .u64 (aZ (E i) n:Nat))
theorem RG.rG{W:World}{base n:Nat}{E:aj}{v:Value}(h:Rt W base v (dH n E)):RG W base n E v:=by
 obtain⟨h1,h2⟩:=h;rw[aN]at h2;rcases h2 with⟨h3,h4⟩|⟨g,cap,cur,h3,h4,h5,h6,h7,h8,h9⟩
 ·exact .inl ⟨h4,h3⟩
 ·refine .inr ⟨g,cap,cur,h3,h4,h5,h6,h7,by rw[h8];simp,fun i hi=> ?_⟩;have h10:(cur.toList.take (n*1))[i]?=some (.int .u64 (aZ (E i) n:Nat)):=by
   rw[h9];have:∀l:List Nat,(l.map CU).flatten=l.map fun x:Nat=>Value.int .u64 x:=fun l=>by
    induction l with
    |nil=>rfl
    |cons a l ih=>simp[CU]at ih⊢;exact ih
   rw[this,List.getElem?_map,List.getElem?_eq_getElem (by rw[aN];exact hi),fG hi];rfl
  rw[List.getElem?_take]at h10;split at h10
  ·simpa using h10
  ·cases h10
theorem Ee(n:Nat):dH n noE=List.replicate n 0:=by
 unfold dH;rw[List.eq_replicate_iff];refine⟨by simp,fun x hx=> ?_⟩;obtain⟨a,_,rfl⟩:=List.mem_map.1 hx;refine Nat.eq_of_testBit_eq fun j=> ?_;rw[aR];simp[noE]
theorem RG.gr{W:World}{base n:Nat}{E:aj}{v:Value}(h:RG W base n E v)(hn:n≤64){K:Nat→Prop}(hK:∀g,base≤g→g<W.heap.size→K g):∃A c,v= .slice A n c∧GrS W K n A c E:=by
 rcases h with⟨h1,rfl⟩|⟨g,cap,cur,rfl,h2,h3,h4,h5,h6,h7⟩
 ·subst h1;exact⟨none,0,rfl,GrS.zero _ _ _ _ _⟩
 ·refine⟨_,cap,rfl,⟨?_,hn⟩⟩;refine⟨some ⟨g,0,none⟩,cap,(dH n E).map CU,by rw[aN],by rw[aN];exact h4,by simp,fun i cs x g1 g2=> ?_,fun _=>⟨g,0,rfl,hK g h2 h3.lt,fun i j cs u g1 g2=> ?_⟩⟩
  ·rw[List.getElem?_map,g2]at g1;injection g1 with g1
   exact⟨by rw[←g1];rfl,g1.symm⟩
  ·rw[List.getElem?_map]at g1;cases hx:(dH n E)[i]? with
   |none=>rw[hx]at g1;cases g1
   |some x=>
    rw[hx]at g1;injection g1 with g1
    subst g1;obtain⟨hi,he⟩:=List.getElem?_eq_some_iff.1 hx;have hi':i<n:=(by rw[aN]at hi;exact hi);rw[fG hi']at he;cases j with
    |succ j=>simp[CU]at g2
    |zero=>
     simp[CU]at g2;subst g2;have:=(h3.cell i).trans (h7 i hi');rw[he]at this;simpa using this
theorem RG.add{W:World}{base n:Nat}{E:aj}{g cap:Nat}(h:RG W base n E (.slice (some ⟨g,0,none⟩) n cap)){x y:Nat}(hx:x<n)(hy:y<n)(hn:n≤64):
 RG (W.setCell ⟨g,x,none⟩ (.int .u64 (oO (aZ (E x) n) (y:Int):Nat))) base n (orE E (jO x y)) (.slice (some ⟨g,0,none⟩) n cap):=by
 rcases h with⟨h1,h2⟩|⟨g',cap',cur,h1,h2,h3,h4,h5,h6,h7⟩
 ·cases h2
 ·simp only[Value.slice.injEq,Option.some.injEq,Addr.mk.injEq,and_true,true_and]at h1;obtain⟨rfl,rfl⟩:=h1;refine .inr ⟨g,cap,_,rfl,h2,h3.aM x _,h4,h5,by simp[h6],fun i hi=> ?_⟩;rw[vg hy hn];by_cases e:i=x
  ·subst e;rw[Array.getElem?_setIfInBounds_self_of_lt (by omega)];congr 3;refine dG fun b hb=> ?_;simp[orE,jO]
  ·rw[Array.getElem?_setIfInBounds_ne (by omega),h7 i hi];congr 3;refine dG fun b hb=> ?_;simp[orE,jO,e]
end Go.Proofs.YtfhnamomiaekdaaGreatDoor
namespace Go.Proofs.YtfhnamomiaekdaaGreatDoor
open Go.RowKit Go.Inq
theorem gV{B:Nat}{w w1:World}(h:Below B w w1):Below B w w1.drew:=h.trans ⟨rfl,rfl,rfl,Nat.le_refl _,fun _ _=>rfl⟩
theorem RG.keep{W W':World}{B n:Nat}{E:aj}{v:Value}(h:RG W B n E v)(hk:∀g,B≤g→g<W.heap.size→W'.heap[g]?=W.heap[g]?):RG W' B n E v:=by
 rcases h with h|⟨g,cap,cur,h1,h2,h3,r⟩
 ·exact .inl h
 ·exact .inr ⟨g,cap,cur,h1,h2,(hk g h2 h3.lt).trans h3,r⟩
theorem RG.below{W W':World}{B B' n:Nat}{E:aj}{v:Value}(h:RG W B n E v)(hb:Below B' W W')(hB:W.heap.size≤B'):RG W' B n E v:=h.keep fun g _ hg=>hb.block g (by omega)
theorem RG.alloc{W:World}{B n:Nat}{E:aj}{v:Value}(h:RG W B n E v)(o:Obj):RG (W.alloc o) B n E v:=h.keep fun g _ hg=>Below.heap_alloc W o g hg
theorem RG.far{W:World}{B n:Nat}{E:aj}{v:Value}(h:RG W B n E v){p:Addr}(hp:p.block<B)(u:Value):RG (W.setCell p u) B n E v:=h.keep fun g hg _=>Below.heap_setCell W p u g (by omega)
theorem RG.drew{W:World}{B n:Nat}{E:aj}{v:Value}(h:RG W B n E v):RG W.drew B n E v:=h.keep fun _ _ _=>rfl
theorem RG.base{W:World}{B B' n:Nat}{E:aj}{v:Value}(h:RG W B n E v)(hB:B'≤B):RG W B' n E v:=by
 rcases h with h|⟨g,cap,cur,h1,h2,r⟩
 ·exact .inl h
 ·exact .inr ⟨g,cap,cur,h1,by omega,r⟩
theorem RG.congr{W:World}{base n:Nat}{E F:aj}{v:Value}(h:RG W base n E v)(hE:∀a b,a<n→b<n→E a b=F a b):RG W base n F v:=by
 rcases h with h|⟨g,cap,cur,h1,h2,h3,h4,h5,h6,h7⟩
 ·exact .inl h
 ·exact .inr ⟨g,cap,cur,h1,h2,h3,h4,h5,h6,fun i hi=>by rw[h7 i hi];congr 3;exact dG fun b hb=>hE i b hi hb⟩
structure RGP(W:World)(B p n:Nat)(E:aj)(A:Option Addr)(c:Nat):Prop where
 box:Blk W p 140 #[.int .i64 n,.slice A n c]
 rg:RG W B n E (.slice A n c)
 lt:∀g,A=some g→g.block<p
 n64:n≤64
section
variable{W W':World}{B p n:Nat}{E F:aj}{A:Option Addr}{c:Nat}
theorem RGP.plt(h:RGP W B p n E A c):p<W.heap.size:=h.box.lt
theorem RGP.c0(h:RGP W B p n E A c):W.cell? ⟨p,0,none⟩=some (.int .i64 n):=by simpa using h.box.cell 0
theorem RGP.c1(h:RGP W B p n E A c):W.cell? ⟨p,1,none⟩=some (.slice A n c):=by simpa using h.box.cell 1
theorem RGP.below(h:RGP W B p n E A c){B':Nat}(hb:Below B' W W')(hB:W.heap.size≤B'):RGP W' B p n E A c:=
 ⟨h.box.below hb (Nat.lt_of_lt_of_le h.plt hB),h.rg.below hb hB,h.lt,h.n64⟩
theorem RGP.alloc(h:RGP W B p n E A c)(o:Obj):RGP (W.alloc o) B p n E A c:=⟨h.box.alloc o,h.rg.alloc o,h.lt,h.n64⟩
theorem RGP.drew(h:RGP W B p n E A c):RGP W.drew B p n E A c:=⟨h.box.drew,h.rg.drew,h.lt,h.n64⟩
theorem RGP.drewN(h:RGP W B p n E A c)(k:Nat):RGP (W.drewN k) B p n E A c:=⟨h.box.drewN k,h.rg.keep fun _ _ _=>rfl,h.lt,h.n64⟩
theorem RGP.congr(h:RGP W B p n E A c)(hE:∀a b,a<n→b<n→E a b=F a b):RGP W B p n F A c:=⟨h.box,h.rg.congr hE,h.lt,h.n64⟩
structure RGX(W:World)(B p n x:Nat)(E:aj)(g c:Nat):Prop where
 box:RGP W B p n E (some ⟨g,0,none⟩) c
 c0:W.cell? ⟨p,0,none⟩=some (.int .i64 n)
 c1:W.cell? ⟨p,1,none⟩=some (.slice (some ⟨g,0,none⟩) n c)
 at_:W.cell? ⟨g,x,none⟩=some (.int .u64 (aZ (E x) n:Nat))
 fr:W.frozen? ⟨g,x,none⟩=false
 gp:g<p
 gl:g<W.heap.size
 B:B≤g
 h64:aZ (E x) n<18446744073709551616
theorem RGP.at_(h:RGP W B p n E A c){x:Nat}(hx:x<n):∃g,A=some ⟨g,0,none⟩∧RGX W B p n x E g c:=by
 rcases h.rg with⟨h1,_⟩|⟨g,cap,cur,h1,h2,h3,h4,h5,h6,h7⟩
 ·omega
 ·simp only[Value.slice.injEq,true_and]at h1;obtain⟨rfl,rfl⟩:=h1;exact⟨g,rfl,h,h.c0,h.c1,(h3.cell x).trans (h7 x hx),h3.frozen x,h.lt _ rfl,h3.lt,h2,fB h.n64⟩
theorem RGX.add{x:Nat}{g:Nat}(h:RGX W B p n x E g c){y:Nat}(hx:x<n)(hy:y<n):
 RGP (W.setCell ⟨g,x,none⟩ (.int .u64 (oO (aZ (E x) n) (y:Int):Nat))) B p n (orE E (jO x y)) (some ⟨g,0,none⟩) c:=
 ⟨h.box.box.far (p:=⟨g,x,none⟩) (Nat.ne_of_gt h.gp) _,h.box.rg.add hx hy h.box.n64,h.box.lt,h.box.n64⟩
end
end Go.Proofs.YtfhnamomiaekdaaGreatDoor
namespace Go.Proofs.YtfhnamomiaekdaaGreatDoor
open Go.RowKit Go.Inq
set_option maxHeartbeats 8000000
attribute [local go_sem↓] Go.wp_at_zero Go.wp_at_succ
set_option maxRecDepth 100000 in
theorem nL(A:Option Addr)(c:Nat)(H:List Txn)(t:Nat)(key:Int)(w:World)(h:aD w (Old w) (.slice A H.length c) H)(hn:aH H)(ht:t<H.length):
 Calls Tryz.prog 300 #[.agg #[.slice A H.length c],.int .i64 (t:Int),.int .i64 key] w fun e w'=>e= .returned (.bool ((aI H t).writes.contains key))∧Below w.heap.size w w':=by
 obtain⟨W0,hW0⟩:∃W0,w.alloc (.cells #[.slice A H.length c] 24)=W0:=⟨_,rfl⟩;have hB:=ah (Below.refl w.heap.size w) hW0 (Nat.le_refl _);have k0:=Blk.newEq hW0;have hT:=h.below hB;have ht0:(0:Int)≤(t:Int):=Int.natCast_nonneg _;have ht1:(t:Int)<(H.length:Int):=(by omega);obtain⟨b,off,Aw,cw,Ar,cr,rfl,_,d0,d1,d2,hws,_⟩:=aD.at_ hT ht;have hwl:H[t].writes.length≤maxLen:=(by have:=(hn.2 _ (List.getElem_mem ht)).1;unfold maxLen;omega);have hc:=hide (dR Aw cw H[t].writes key (Old W0) W0 hws hwl);rw[aJ ht];generalize H[t].writes=L at*;generalize L.contains key=q at*;have c0:=Blk.n0 k0;replace hn:=hide hn;clear h hT hws;go_enter Tryz.func300,Tryz.ntmps300;go_wp2_with fail;clear hW0 c0 d0 d1 d2;refine hc.out.mono ?_;rintro e w1 ⟨rfl,rfl⟩;go_wp2;go_ret;exact⟨rfl,hB⟩
set_option maxRecDepth 100000 in
theorem GY(A:Option Addr)(c:Nat)(H:List Txn)(x y:Nat)(v:Value)(w:World)(h:aD w (Old w) (.slice A H.length c) H)(hx:x<H.length)(hy:y<H.length):
 Calls Tryz.prog 294 #[.agg #[],.agg #[.slice A H.length c],.int .i64 (x:Int),.int .i64 (y:Int)] w fun e w'=>e= .returned (.bool (soE H x y))∧Below w.heap.size w w':=by
 have hx0:(0:Int)≤(x:Int):=Int.natCast_nonneg _;have hx1:(x:Int)<(H.length:Int):=(by omega);have hy0:(0:Int)≤(y:Int):=Int.natCast_nonneg _;have hy1:(y:Int)<(H.length:Int):=(by omega);have hso:soE H x y=(decide (x<y)&&decide (H[x].dM=H[y].dM)):=(by unfold soE;rw[aJ hx,aJ hy]);obtain⟨W0,hW0⟩:∃W0,(w.alloc (.cells #[] 317)).alloc (.cells #[.slice A H.length c] 24)=W0:=⟨_,rfl⟩;have hB:=aS hW0;have k1:=Blk.jk hW0;have hT:=h.below hB;obtain⟨b,off,Aw,cw,Ar,cr,rfl,_,d0,-,-,-,-⟩:=aD.at_ hT hx;obtain⟨b',off',Aw',cw',Ar',cr',e',_,d1,-,-,-,-⟩:=aD.at_ hT hy;injection e' with e'
 injection e' with e1 e2
 subst e1 e2;have c0:=Blk.n0 k1;rw[hso];generalize H[x].dM=sx at*;generalize H[y].dM=sy at*;have hbz:=hide (fun(nq:Nat)=>(hB.trans ⟨rfl,rfl,rfl,Nat.le_refl _,fun _ _=>rfl⟩:Below w.heap.size w (W0.drewN nq)));clear h hT hso;by_cases hlt:x<y
 ·have g1:decide (x<y)=true:=(by simpa using hlt);rw[g1,Bool.true_and];by_cases he:sx=sy
  ·subst he;have g2:decide (sx=sx)=true:=(by simp);rw[g2];go_enter Tryz.func294,Tryz.ntmps294;go_wp2;go_quiet (fail);go_wp2;go_ret;exact⟨rfl,hbz.out _⟩
  ·have g2:(sx==sy)=false:=(by simpa using he);have g3:decide (sx=sy)=false:=(by simpa using he);rw[g3];clear he g3;go_enter Tryz.func294,Tryz.ntmps294;go_wp2;go_quiet (fail);go_wp2;go_ret;exact⟨rfl,hbz.out _⟩
 ·have g1:decide (x<y)=false:=(by simpa using hlt);rw[g1,Bool.false_and];clear hlt;go_enter Tryz.func294,Tryz.ntmps294;go_wp2;go_quiet (fail);go_wp2;go_ret;exact⟨rfl,hbz.out _⟩
theorem KA(r:It)(x:Nat)(bx:Nat)(w:World)(hbx:w.cell? ⟨bx,0,none⟩=some (.int .i64 (x:Int))):
 Calls Tryz.prog 296 #[.agg #[.int .i64 r.a,.int .i64 r.b],.pointer (some ⟨bx,0,none⟩)] w fun e w'=>e= .returned (.bool (decide (r.b=(x:Int))))∧Below w.heap.size w w':=by
 obtain⟨ra,rb⟩:=r;dsimp only;obtain⟨W0,hW0⟩:∃W0,w.alloc (.cells #[.int .i64 ra,.int .i64 rb] 106)=W0:=⟨_,rfl⟩;have hB:=ah (Below.refl w.heap.size w) hW0 (Nat.le_refl _);have k0:=Blk.newEq hW0;have VQ:=(hB.cell (p:=⟨bx,0,none⟩) (block_lt_of_cell hbx)).trans hbx;have c0:=Blk.n0 k0;have c1:=Blk.n1 k0;have hq:decide (rb=(x:Int))=(rb==(x:Int)):=(by rw[Bool.eq_iff_iff];simp);rw[hq];obtain⟨q,hqe⟩:∃q,(rb==(x:Int))=q:=⟨_,rfl⟩;rw[hqe];clear hq hbx;go_enter Tryz.func296,Tryz.ntmps296;go_wp2;go_ret;exact⟨rfl,hB⟩
set_option maxRecDepth 100000 in
theorem GZ(A:Option Addr)(c:Nat)(H:List Txn)(x y:Nat)(w:World)(h:aD w (Old w) (.slice A H.length c) H)(hn:aH H)(hy:y<H.length):
 Calls Tryz.prog 295 #[.agg #[],.agg #[.slice A H.length c],.int .i64 (x:Int),.int .i64 (y:Int)] w fun e w'=>e= .returned (.bool (rQ H x y))∧Below w.heap.size w w':=by
 have hy0:(0:Int)≤(y:Int):=Int.natCast_nonneg _;have hy1:(y:Int)<(H.length:Int):=(by omega);obtain⟨W0,hW0⟩:∃W0,((w.alloc (.cells #[] 318)).alloc (.cells #[.slice A H.length c] 24)).alloc (.cells #[.int .i64 (x:Int)] 3)=W0:=⟨_,rfl⟩;have hB:=jl hW0;have k1:=Blk.yS hW0;have k2:=Blk.yT hW0;have hT:=h.below hB;obtain⟨b,off,Aw,cw,Ar,cr,rfl,_,d0,d1,d2,-,hrs⟩:=aD.at_ hT hy;have hrl:H[y].reads.length≤1000000:=(hn.2 _ (List.getElem_mem hy)).2;have hc:=hide (iN 296 (enters_of Tryz.func296 (by kernel_rfl) rfl) #[.pointer (some ⟨w.heap.size+1+1,0,none⟩)] (fun r=>decide (r.b=(x:Int))) Ar cr H[y].reads W0 hrs (by omega) (fun W hbW r _=>KA r x _ W (by have:=(k2.below hbW k2.lt).cell 0;simpa using this)));have hre:rQ H x y=H[y].reads.any fun r=>decide (r.b=(x:Int)):=(by unfold rQ;rw[aJ hy]);rw[hre];generalize H[y].reads=R at*;generalize(R.any fun r=>decide (r.b=(x:Int)))=q at*;have c0:=Blk.n0 k1;clear h hT hrs hre;go_enter Tryz.func295,Tryz.ntmps295;go_wp2_with fail;refine hc.out.mono ?_;rintro e w1 ⟨rfl,hb1⟩;go_wp2;go_ret;exact⟨rfl,hB.trans (hb1.mono hB.size)⟩
set_option maxRecDepth 100000 in
theorem KD (A:Option Addr) (c:Nat) (H:List Txn) (ch:Cho) (x y:Nat) (bx by' bh:Nat) (w:World) (h:aD w (Old w) (.slice A H.length c) H) (hn:aH H) (hx:x<H.length) (hy:y<H.length)
 (hbx:w.cell? ⟨bx,0,none⟩=some (.int .i64 (x:Int))) (hby:w.cell? ⟨by',0,none⟩=some (.int .i64 (y:Int))) (hbh:w.cell? ⟨bh,0,none⟩=some (.slice A H.length c)):
 Calls Tryz.prog 299 #[.agg #[.int .i64 ch.key,.int .i64 ch.a,.int .i64 ch.b],.pointer (some ⟨bx,0,none⟩),.pointer (some ⟨by',0,none⟩),.pointer (some ⟨bh,0,none⟩)] w fun e w'=>e= .returned (.bool (tJ H x y ch))∧Below w.heap.size w w':=by
 obtain⟨key,a,b⟩:=ch;dsimp only;obtain⟨W0,hW0⟩:∃W0,w.alloc (.cells #[.int .i64 key,.int .i64 a,.int .i64 b] 102)=W0:=⟨_,rfl⟩;have hB:=ah (Below.refl w.heap.size w) hW0 (Nat.le_refl _);have k0:=Blk.newEq hW0;have e0:=(hB.cell (p:=⟨bx,0,none⟩) (block_lt_of_cell hbx)).trans hbx;have e1:=(hB.cell (p:=⟨by',0,none⟩) (block_lt_of_cell hby)).trans hby;have e2:=(hB.cell (p:=⟨bh,0,none⟩) (block_lt_of_cell hbh)).trans hbh;have hT:=hide (h.below hB);have c0:=Blk.n0 k0;have c1:=Blk.n1 k0;have c2:=Blk.n2 k0;have hp:Hid (tJ H x y ⟨key,a,b⟩=(decide (a=(x:Int))&&decide (b=(y:Int))&&decide (x≠y)&&(aI H x).writes.contains key&&(aI H y).writes.contains key)):=hide rfl;obtain⟨r,hr⟩:∃r,tJ H x y ⟨key,a,b⟩=r:=⟨_,rfl⟩;rw[hr]at hp;rw[hr];clear h hbx hby hbh hr;by_cases h1:a=(x:Int)
 ·have g1:(a==(x:Int))=true:=(by simpa using h1);by_cases h2:b=(y:Int)
  ·have g2:(b==(y:Int))=true:=(by simpa using h2);by_cases h3:x=y
   ·have hre:r=false:=(by rw[hp.out];simp[h3]);have g3:((x:Int) !=(y:Int))=false:=(by simp[h3]);have g4:(x !=y)=false:=(by simp[h3]);subst hre;clear h1 h2 h3;clear hp;go_enter Tryz.func299,Tryz.ntmps299;go_wp2;go_ret;exact⟨rfl,hB⟩
   ·have g3:((x:Int) !=(y:Int))=true:=(by simp;omega);have g4:(x !=y)=true:=(by simp[h3]);have hp2:=hide (show r=((aI H x).writes.contains key&&(aI H y).writes.contains key) by rw[hp.out];simp[h1,h2,h3]);have hw1:=hide (nL A c H x key W0 hT.out hn hx);have hw2:=hide (fun W (hb:Below W0.heap.size W0 W)=>nL A c H y key W (hT.out.below hb) hn hy);generalize(aI H x).writes.contains key=q1 at*;generalize(aI H y).writes.contains key=q2 at*;clear h1 h2 h3 hp;go_enter Tryz.func299,Tryz.ntmps299;go_wp2_with fail;refine hw1.out.mono ?_;rintro e w1 ⟨rfl,hb1⟩;have e1':=(hb1.cell (p:=⟨by',0,none⟩) (block_lt_of_cell e1)).trans e1;have e2':=(hb1.cell (p:=⟨bh,0,none⟩) (block_lt_of_cell e2)).trans e2;have c0':=(hb1.cell (p:=⟨w.heap.size,0,none⟩) k0.lt).trans c0;have hw3:=hide (hw2.out w1 hb1);have hb2:=hB.trans (hb1.mono hB.size);clear hW0 hw1 hw2 e0 e1 e2 c0 c1 c2;cases q1 with
    |false=>
     have hre:r=false:=(by rw[hp2.out];rfl);subst hre;clear hp2;go_wp2;go_ret;exact⟨rfl,hb2⟩
    |true=>
     have hre:r=q2:=(by rw[hp2.out];rfl);subst hre;clear hp2;go_wp2_with fail;refine hw3.out.mono ?_;rintro e w2 ⟨rfl,hb3⟩;go_wp2;go_ret;exact⟨rfl,hb2.trans (hb3.mono hb2.size)⟩
  ·have g2:(b==(y:Int))=false:=(by simpa using h2);have hre:r=false:=(by rw[hp.out];simp[h2]);subst hre;clear h1 h2;clear hp;go_enter Tryz.func299,Tryz.ntmps299;go_wp2;go_ret;exact⟨rfl,hB⟩
 ·have g1:(a==(x:Int))=false:=(by simpa using h1);have hre:r=false:=(by rw[hp.out];simp[h1]);subst hre;clear h1;clear hp;go_enter Tryz.func299,Tryz.ntmps299;go_wp2;go_ret;exact⟨rfl,hB⟩
set_option maxRecDepth 100000 in
theorem G5(A:Option Addr)(c:Nat)(H:List Txn)(Al:Option Addr)(cl:Nat)(l:List Cho)(x y:Nat)(w:World)(h:aD w (Old w) (.slice A H.length c) H)(hn:aH H)(hl:bC w (Old w) (.slice Al l.length cl) l)(hln:l.length≤1000000000)(hx:x<H.length)(hy:y<H.length):
 Calls Tryz.prog 297 #[.slice Al l.length cl,.agg #[.slice A H.length c],.int .i64 (x:Int),.int .i64 (y:Int)] w fun e w'=>e= .returned (.bool (qU H l x y))∧Below w.heap.size w w':=by
 obtain⟨W0,hW0⟩:∃W0,((w.alloc (.cells #[.slice A H.length c] 24)).alloc (.cells #[.int .i64 (x:Int)] 3)).alloc (.cells #[.int .i64 (y:Int)] 3)=W0:=⟨_,rfl⟩;have hB:=jl hW0;have k0:=Blk.CY hW0;have k1:=Blk.yS hW0;have k2:=Blk.yT hW0;have hT:=hide (h.below hB);have hc:=hide (y8 299 (enters_of Tryz.func299 (by kernel_rfl) rfl) #[.pointer (some ⟨w.heap.size+1,0,none⟩),.pointer (some ⟨w.heap.size+1+1,0,none⟩),.pointer (some ⟨w.heap.size,0,none⟩)] (tJ H x y) Al cl l W0 (hl.below hB) hln (fun W hbW ch _=>KD A c H ch x y _ _ _ W (hT.out.below hbW) hn hx hy (by have:=(k1.below hbW k1.lt).cell 0;simpa using this) (by have:=(k2.below hbW k2.lt).cell 0;simpa using this) (by have:=(k0.below hbW k0.lt).cell 0;simpa using this)));have hre:Hid (qU H l x y=l.any (tJ H x y)):=hide rfl;rw[hre.out];generalize l.any (tJ H x y)=q at*;clear h hl hre;go_enter Tryz.func297,Tryz.ntmps297;go_wp2_with fail;refine hc.out.mono ?_;rintro e w1 ⟨rfl,hb1⟩;go_wp2;go_ret;exact⟨rfl,hB.trans (hb1.mono hB.size)⟩
set_option maxHeartbeats 2000000
theorem Ns(x:Cho)(k a b:Int):decide (x=⟨k,a,b⟩)=(decide (x.key=k)&&decide (x.a=a)&&decide (x.b=b)):=by
 obtain⟨k',a',b'⟩:=x;rw[Bool.eq_iff_iff];simp[and_assoc]
theorem EG(A:Option Addr)(c:Nat)(l:List Cho)(xk xa xb:Int)(w:World)(h:bC w (Old w) (.slice A l.length c) l)(hl:l.length≤1000000000):
 Calls Tryz.prog 305 #[.slice A l.length c,.agg #[.int .i64 xk,.int .i64 xa,.int .i64 xb]] w fun e w'=>e= .returned (.int .i64 (ug (fun x:Cho=>decide (x=⟨xk,xa,xb⟩)) l))∧Below w.heap.size w w':=by
 have hhit:=hide (fun k=>jo (p:=fun x:Cho=>decide (x=⟨xk,xa,xb⟩)) (l:=l) (k:=k));have hnone:=hide (iD (p:=fun x:Cho=>decide (x=⟨xk,xa,xb⟩)) (l:=l));obtain⟨W0,hW0⟩:∃W0,w.alloc (.cells #[.int .i64 xk,.int .i64 xa,.int .i64 xb] 102)=W0:=⟨_,rfl⟩;have hB:=ah (Below.refl w.heap.size w) hW0 (Nat.le_refl _);have k0:=Blk.newEq hW0;replace h:=hide h;go_enter Tryz.func305,Tryz.ntmps305;go_wp2_with fail;clear hW0;go_loopw [8] (fun s8 wr=>∃k:Nat,k≤l.length∧s8= .int .i64 k∧Hid (∀j (hj:j<l.length),j<k→decide (l[j]=⟨xk,xa,xb⟩)=false)∧Below w.heap.size w wr∧Blk wr w.heap.size 102 #[.int .i64 xk,.int .i64 xa,.int .i64 xb]) (fun s8 _=>l.length-(intOf s8).toNat);case atStart=>exact⟨0,Nat.zero_le _,by go_num,fun j hj h=>absurd h (by omega),hB,k0⟩
 case round=>
  clear k0 hB;obtain⟨k,hk,rfl,hall,hb,k0⟩:=hrel;have hk1:(0:Int)≤(k:Int):=Int.natCast_nonneg _;by_cases hlt:k<l.length
  ·have hi2:(k:Int)<(l.length:Int):=(by omega);obtain⟨b,off,rfl,_,d0,d1,d2⟩:=(h.out.below hb).at_ hlt;have hh:=hide (fun g=>hhit.out k hlt g hall.out);have hst:Hid (decide (l[k]=⟨xk,xa,xb⟩)=false→∀j (hj:j<l.length),j<k+1→decide (l[j]=⟨xk,xa,xb⟩)=false):=fun g j hj hjk=>by
    by_cases e:j=k
    ·subst e;exact g
    ·exact hall.out j hj (by omega)
   have c0:=Blk.n0 k0;have c1:=Blk.n1 k0;have c2:=Blk.n2 k0;clear hall;generalize l[k]=x at*;obtain⟨yk,ya,yb⟩:=x;dsimp only at*;rw[Ns]at hh hst;dsimp only at hh hst;by_cases q0:xk=yk
   ·have q0b:(xk==yk)=true:=(by simpa using q0);by_cases q1:xa=ya
    ·have q1b:(xa==ya)=true:=(by simpa using q1);by_cases q2:xb=yb
     ·have q2b:(xb==yb)=true:=(by simpa using q2);have hr:=hide (hh.out (by simp[q0,q1,q2]));clear q0 q1 q2 hh hst;go_wp2;go_quiet (fail);go_wp2;go_ret;exact⟨dA hr.out.symm,hb.trans ⟨rfl,rfl,rfl,Nat.le_refl _,fun _ _=>rfl⟩⟩
     ·have q2b:(xb==yb)=false:=(by simpa using q2);have hr:=hide (hst.out (by simp[q0,q1,Ne.symm q2]));clear q0 q1 q2;clear hh hst;go_wp2;go_quiet (fail);go_wp2;go_roundw;case rel=>exact⟨k+1,by omega,by go_num,hr,hb.trans ⟨rfl,rfl,rfl,Nat.le_refl _,fun _ _=>rfl⟩,k0⟩
      case measure=>simp[intOf];omega
    ·have q1b:(xa==ya)=false:=(by simpa using q1);have hr:=hide (hst.out (by simp[Ne.symm q1]));clear q0 q1;clear hh hst;go_wp2;go_quiet (fail);go_wp2;go_roundw;case rel=>exact⟨k+1,by omega,by go_num,hr,hb.trans ⟨rfl,rfl,rfl,Nat.le_refl _,fun _ _=>rfl⟩,k0⟩
     case measure=>simp[intOf];omega
   ·have q0b:(xk==yk)=false:=(by simpa using q0);have hr:=hide (hst.out (by simp[Ne.symm q0]));clear q0;clear hh hst;go_wp2;go_quiet (fail);go_wp2;go_roundw;case rel=>exact⟨k+1,by omega,by go_num,hr,hb.trans ⟨rfl,rfl,rfl,Nat.le_refl _,fun _ _=>rfl⟩,k0⟩
    case measure=>simp[intOf];omega
  ·have hr:=hide (hnone.out fun j hj=>hall.out j hj (by omega));go_wp2;go_ret;exact⟨dA hr.out.symm,hb⟩
theorem ze(A:Option Addr)(c:Nat)(l:List Cho)(xk xa xb:Int)(w:World)(h:bC w (Old w) (.slice A l.length c) l)(hl:l.length≤1000000000):
 Calls Tryz.prog 304 #[.slice A l.length c,.agg #[.int .i64 xk,.int .i64 xa,.int .i64 xb]] w fun e w'=>e= .returned (.bool (l.any fun x=>decide (x=⟨xk,xa,xb⟩)))∧Below w.heap.size w w':=by
 have hd:=hide (jq (fun x:Cho=>decide (x=⟨xk,xa,xb⟩)) l);obtain⟨W0,hW0⟩:∃W0,w.alloc (.cells #[.int .i64 xk,.int .i64 xa,.int .i64 xb] 102)=W0:=⟨_,rfl⟩;have hB:=ah (Below.refl w.heap.size w) hW0 (Nat.le_refl _);have h0:=h.below hB;have hcall:=hide (EG A c l xk xa xb W0 h0 hl);have k0:=Blk.newEq hW0;clear h h0;have c0:=Blk.n0 k0;have c1:=Blk.n1 k0;have c2:=Blk.n2 k0;go_enter Tryz.func304,Tryz.ntmps304;go_wp2_with fail;clear hW0 c0 c1 c2;refine hcall.out.mono ?_;rintro e w1 ⟨rfl,hb⟩;clear hcall;go_wp2;go_ret;exact⟨by rw[←hd.out];rfl,hB.trans (hb.mono hB.size)⟩
theorem EH(A:Option Addr)(c:Nat)(l:List Cho)(xk xa xb:Int)(w:World)(h:bC w (Old w) (.slice A l.length c) l)(hl:l.length≤1000000000):
 Calls Tryz.prog 117 #[.slice A l.length c,.agg #[.int .i64 xk,.int .i64 xa,.int .i64 xb]] w fun e w'=>e= .returned (.int .i64 (ug (fun x:Cho=>decide (x=⟨xk,xa,xb⟩)) l))∧Below w.heap.size w w':=by
 have hhit:=hide (fun k=>jo (p:=fun x:Cho=>decide (x=⟨xk,xa,xb⟩)) (l:=l) (k:=k));have hnone:=hide (iD (p:=fun x:Cho=>decide (x=⟨xk,xa,xb⟩)) (l:=l));obtain⟨W0,hW0⟩:∃W0,w.alloc (.cells #[.int .i64 xk,.int .i64 xa,.int .i64 xb] 102)=W0:=⟨_,rfl⟩;have hB:=ah (Below.refl w.heap.size w) hW0 (Nat.le_refl _);have k0:=Blk.newEq hW0;replace h:=hide h;go_enter Tryz.func117,Tryz.ntmps117;go_wp2_with fail;clear hW0;go_loopw [8] (fun s8 wr=>∃k:Nat,k≤l.length∧s8= .int .i64 k∧Hid (∀j (hj:j<l.length),j<k→decide (l[j]=⟨xk,xa,xb⟩)=false)∧Below w.heap.size w wr∧Blk wr w.heap.size 102 #[.int .i64 xk,.int .i64 xa,.int .i64 xb]) (fun s8 _=>l.length-(intOf s8).toNat);case atStart=>exact⟨0,Nat.zero_le _,by go_num,fun j hj h=>absurd h (by omega),hB,k0⟩
 case round=>
  clear k0 hB;obtain⟨k,hk,rfl,hall,hb,k0⟩:=hrel;have hk1:(0:Int)≤(k:Int):=Int.natCast_nonneg _;by_cases hlt:k<l.length
  ·have hi2:(k:Int)<(l.length:Int):=(by omega);obtain⟨b,off,rfl,_,d0,d1,d2⟩:=(h.out.below hb).at_ hlt;have hh:=hide (fun g=>hhit.out k hlt g hall.out);have hst:Hid (decide (l[k]=⟨xk,xa,xb⟩)=false→∀j (hj:j<l.length),j<k+1→decide (l[j]=⟨xk,xa,xb⟩)=false):=fun g j hj hjk=>by
    by_cases e:j=k
    ·subst e;exact g
    ·exact hall.out j hj (by omega)
   have c0:=Blk.n0 k0;have c1:=Blk.n1 k0;have c2:=Blk.n2 k0;clear hall;generalize l[k]=x at*;obtain⟨yk,ya,yb⟩:=x;dsimp only at*;rw[Ns]at hh hst;dsimp only at hh hst;by_cases q0:xk=yk
   ·have q0b:(xk==yk)=true:=(by simpa using q0);by_cases q1:xa=ya
    ·have q1b:(xa==ya)=true:=(by simpa using q1);by_cases q2:xb=yb
     ·have q2b:(xb==yb)=true:=(by simpa using q2);have hr:=hide (hh.out (by simp[q0,q1,q2]));clear q0 q1 q2 hh hst;go_wp2;go_quiet (fail);go_wp2;go_ret;exact⟨dA hr.out.symm,hb.trans ⟨rfl,rfl,rfl,Nat.le_refl _,fun _ _=>rfl⟩⟩
     ·have q2b:(xb==yb)=false:=(by simpa using q2);have hr:=hide (hst.out (by simp[q0,q1,Ne.symm q2]));clear q0 q1 q2;clear hh hst;go_wp2;go_quiet (fail);go_wp2;go_roundw;case rel=>exact⟨k+1,by omega,by go_num,hr,hb.trans ⟨rfl,rfl,rfl,Nat.le_refl _,fun _ _=>rfl⟩,k0⟩
      case measure=>simp[intOf];omega
    ·have q1b:(xa==ya)=false:=(by simpa using q1);have hr:=hide (hst.out (by simp[Ne.symm q1]));clear q0 q1;clear hh hst;go_wp2;go_quiet (fail);go_wp2;go_roundw;case rel=>exact⟨k+1,by omega,by go_num,hr,hb.trans ⟨rfl,rfl,rfl,Nat.le_refl _,fun _ _=>rfl⟩,k0⟩
     case measure=>simp[intOf];omega
   ·have q0b:(xk==yk)=false:=(by simpa using q0);have hr:=hide (hst.out (by simp[Ne.symm q0]));clear q0;clear hh hst;go_wp2;go_quiet (fail);go_wp2;go_roundw;case rel=>exact⟨k+1,by omega,by go_num,hr,hb.trans ⟨rfl,rfl,rfl,Nat.le_refl _,fun _ _=>rfl⟩,k0⟩
    case measure=>simp[intOf];omega
  ·have hr:=hide (hnone.out fun j hj=>hall.out j hj (by omega));go_wp2;go_ret;exact⟨dA hr.out.symm,hb⟩
theorem zf(A:Option Addr)(c:Nat)(l:List Cho)(xk xa xb:Int)(w:World)(h:bC w (Old w) (.slice A l.length c) l)(hl:l.length≤1000000000):
 Calls Tryz.prog 55 #[.slice A l.length c,.agg #[.int .i64 xk,.int .i64 xa,.int .i64 xb]] w fun e w'=>e= .returned (.bool (l.any fun x=>decide (x=⟨xk,xa,xb⟩)))∧Below w.heap.size w w':=by
 have hd:=hide (jq (fun x:Cho=>decide (x=⟨xk,xa,xb⟩)) l);obtain⟨W0,hW0⟩:∃W0,w.alloc (.cells #[.int .i64 xk,.int .i64 xa,.int .i64 xb] 102)=W0:=⟨_,rfl⟩;have hB:=ah (Below.refl w.heap.size w) hW0 (Nat.le_refl _);have h0:=h.below hB;have hcall:=hide (EH A c l xk xa xb W0 h0 hl);have k0:=Blk.newEq hW0;clear h h0;have c0:=Blk.n0 k0;have c1:=Blk.n1 k0;have c2:=Blk.n2 k0;go_enter Tryz.func55,Tryz.ntmps55;go_wp2_with fail;clear hW0 c0 c1 c2;refine hcall.out.mono ?_;rintro e w1 ⟨rfl,hb⟩;clear hcall;go_wp2;go_ret;exact⟨by rw[←hd.out];rfl,hB.trans (hb.mono hB.size)⟩
end Go.Proofs.YtfhnamomiaekdaaGreatDoor
