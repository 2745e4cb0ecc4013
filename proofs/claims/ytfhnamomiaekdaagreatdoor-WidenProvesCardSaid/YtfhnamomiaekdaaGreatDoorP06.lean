/-
  Walks: layer 9: who writes a key, all keys.
-/
import Derived.Lib.OwnBridge
import Derived.Test.YtfhnamomiaekdaaGreatDoorP01
import Derived.Test.YtfhnamomiaekdaaGreatDoorP05
import Derived.Test.YtfhnamomiaekdaaGreatDoorP02
set_option linter.unusedVariables false
set_option linter.unusedSimpArgs false
namespace Go.Proofs.YtfhnamomiaekdaaGreatDoor
open Go.RowKit Go.Inq
set_option maxHeartbeats 4000000
attribute [local go_sem↓] Go.wp_at_zero Go.wp_at_succ
theorem nJ(l:List Int):(l.map Go.Inq.encI).flatten=l.map (Value.int .i64):=by
 induction l with
 |nil=>rfl
 |cons x r ih=>rw[List.map_cons,List.flatten_cons,ih];rfl
theorem below_grow(w:World)(os:Array Obj):Below w.heap.size w (Go.Sort.grow w os):=
 ⟨rfl,rfl,rfl,by simp[Go.Sort.grow],fun k hk=>by simp[Go.Sort.grow,Array.getElem?_append,hk]⟩
theorem xM(base:Nat)(A:Option Addr)(c:Nat)(l:List Int)(w:World)(h:bE w base (.slice A l.length c) l)(hl:l.length<4611686018427387904):
 Calls Tryz.prog 159 #[.slice A l.length c] w fun e w'=>e= .returned (.tuple #[])∧bE w' base (.slice A l.length c) (l.mergeSort fun x y=>decide (x≤y))∧Below base w w':=by
 unfold bE at h⊢;rw[nJ]at h⊢;by_cases hv:(Value.slice A l.length c)= .slice none 0 0
 ·injection hv with h1 h2 h3
  subst h1 h3;have:l=[]:=List.eq_nil_of_length_eq_zero h2;subst this;refine(Go.Proofs.Tryz.slices_Sort_int_none none 0 w).mono ?_;rintro e w' ⟨rfl,rfl⟩;exact⟨rfl,by rw[List.mergeSort_nil];exact World.ownsRow_nil _ _ _ _,Below.refl _ _⟩
 ·obtain⟨g,cap,hv',hbg,hgl,hn,hm,_,hH⟩:=Go.Lib.holds_of_ownsRow h hv;injection hv' with h1 h2 h3
  subst h1 h3;refine(Go.Proofs.Tryz.slices_Sort_int g 0 c l w hH hgl hl).mono ?_;rintro e w' ⟨rfl,n,os,rfl⟩;have hlen:(l.mergeSort fun x y=>decide (x≤y)).length=l.length:=List.length_mergeSort l;have hr:=Go.Lib.ownsRow_putRow (q:=n) (k:=l.length) h hlen (Nat.le_refl _);rw[List.take_of_length_le (by rw[hlen];exact Nat.le_refl _)]at hr;rw[hlen];have hb2:=Go.Lib.below_putRow (enc:=Value.int .i64) (q:=n) (d:=(l.mergeSort fun x y=>decide (x≤y)).toArray) (Below.refl base w) hbg;have hz:=(hr.lt g rfl).2;exact⟨rfl,own_below hr (below_grow _ os) (Nat.le_refl _),hb2.trans ((below_grow _ os).mono (by omega))⟩
theorem yV(base:Nat)(A:Option Addr)(c:Nat)(l:List Int)(w:World)(h:bE w base (.slice A l.length c) l)(hl:l.length≤1000000000):
 Calls Tryz.prog 184 #[.slice A l.length c] w fun e w'=>∃v,e= .returned v∧bE w' base v (Go.Lib.compact l)∧Below base w w':=by
 unfold bE at h⊢;rw[nJ]at h⊢;by_cases hv:(Value.slice A l.length c)= .slice none 0 0
 ·injection hv with h1 h2 h3
  subst h1 h3;have:l=[]:=List.eq_nil_of_length_eq_zero h2;subst this;refine(Go.Proofs.Tryz.slices_Compact_int_empty none 0 w).mono ?_;rintro e w' ⟨rfl,rfl⟩;exact⟨_,rfl,World.ownsRow_nil _ _ _ _,Below.refl _ _⟩
 ·obtain⟨g,cap,hv',hbg,hgl,hn,hm,_,hH⟩:=Go.Lib.holds_of_ownsRow h hv;injection hv' with h1 h2 h3
  subst h1 h3;refine(Go.Proofs.Tryz.slices_Compact_int g 0 c l w hH (by omega) hn).mono ?_;rintro e w' ⟨rfl,q,rfl⟩;have hk:(Go.Lib.compact l).length≤l.length:=Go.Lib.compact_length_le l;have hlen:(Go.Lib.compact l++List.replicate (l.length-(Go.Lib.compact l).length) 0).length=l.length:=(by simp;omega);have hr:=Go.Lib.ownsRow_putRow (q:=q) (k:=(Go.Lib.compact l).length) h hlen hk;rw[List.take_append_of_le_length (Nat.le_refl _),List.take_length]at hr;exact⟨_,rfl,hr,Go.Lib.below_putRow (enc:=Value.int .i64) (Below.refl base w) hbg⟩
set_option maxRecDepth 100000 in
theorem pR(A:Option Addr)(c:Nat)(H:List Txn)(key:Int)(w:World)(h:aA w (Old w) (.slice A H.length c) H)(hn:aG H)(hr:ay H=true):
 Calls Tryz.prog 115 #[.agg #[.slice A H.length c],.int .i64 key] w (uj w (aO (bg H key))):=by
 obtain⟨ii,hii,hi1,hi2,hi3⟩:=info_parts dO;obtain⟨W0,hW0⟩:∃W0,w.alloc (.cells #[.slice A H.length c] 24)=W0:=⟨_,rfl⟩;have hB:=ah (Below.refl w.heap.size w) hW0 (Nat.le_refl _);have k0:=Blk.newEq hW0;have h0:=hide (h.below hB);have hlen:=hn.1;have hwl:=hide (fun i (hi:i<H.length)=>(hn.2 _ (List.getElem_mem hi)).1);replace hn:=hide hn;replace hr:=hide hr;replace h:=hide h;have c0:=Blk.n0 k0;go_enter Tryz.func115,Tryz.ntmps115;go_wp2_with fail;clear hW0 c0;refine(dn A c H _ h0.out hn.out).mono ?_;rintro e w1 ⟨rfl,hb1⟩;rw[hr.out];replace k0:=k0.below hb1 k0.lt;have hb:=hB.trans (hb1.mono hB.size);clear hb1 hB h0;have c0:=Blk.n0 k0;go_wp2_with fail;clear c0 k0;go_loopw [5,14] (fun s5 s14 wr=>∃k:Nat,k≤H.length∧s14= .int .i64 k∧bE wr w.heap.size s5 (aO (dU H key k))∧Below w.heap.size w wr) (fun _ s14 _=>H.length-(intOf s14).toNat);case atStart=>exact⟨0,Nat.zero_le _,by go_num,bE.nil _ _,hb⟩
 case round=>
  clear hb;obtain⟨k,hk,rfl,hown,hb⟩:=hrel;have CP:(0:Int)≤(k:Int):=Int.natCast_nonneg _;by_cases hlt:k<H.length
  ·have CQ:(k:Int)<(H.length:Int):=(by omega);obtain⟨b,off,Aw,cw,Ar,cr,rfl,_,d0,d1,d2,hws,_⟩:=aA.at_ (h.out.below hb) hlt;have hwk:=hwl.out k hlt;have hst:=hide (tX H key k);rw[aH hlt]at hst;have hcnt:(dU H key k).length≤k:=Nat.le_trans (List.length_filter_le _ _) (by simp);have wD:=hb.size;obtain⟨Av,cv,rfl⟩:=hown.form;generalize H[k]=t at*;obtain⟨ts,ws,rs⟩:=t;dsimp only at*;have Ja:=hide (hws.keep (w':=wr.alloc (.cells #[.int .i64 ts,.slice Aw ws.length cw,.slice Ar rs.length cr] 109)) (Agree.alloc (fun b hb=>hb) _) (fun b h=>h));have hb2:=hb.alloc wD (.cells #[.int .i64 ts,.slice Aw ws.length cw,.slice Ar rs.length cr] 109);have hown2:=hown.alloc (.cells #[.int .i64 ts,.slice Aw ws.length cw,.slice Ar rs.length cr] 109);clear hws;replace hown2:=hide hown2;have hlq:=hide (aI (dU H key k));have hsn:=hide (fM (dU H key k) k);go_wp2_with fail;clear d0 d1 d2;refine(bZ Aw cw ws key _ _ Ja.out (by unfold maxLen;omega)).mono ?_;rintro e w3 ⟨rfl,rfl⟩;have hsz2:=hb2.size;cases hc:ws.contains key with
   |true=>
    have CS:Hid (dU H key (k+1)=dU H key k++[k]):=hide (by rw[hst.out,hc];rfl);clear hc hst;generalize wr.alloc (.cells #[.int .i64 ts,.slice Aw ws.length cw,.slice Ar rs.length cr] 109)=Wx at*;go_wp2_with (at_builtin;refine aY (enc:=Go.Inq.encI) rfl (.tmp 23) (.tmp 25) 33 rfl w.heap.size 3 ii _ 1 8 Tryz.underlying33 hii hi1 hi2 hi3 rfl (by decide) (.slice Av (aO (dU H key k)).length cv) (aO (dU H key k)) rfl hown2.out (fun _=>rfl) (k:Int) _ rfl rfl Go.Inq.eG (by rw[hlq.out];simp[maxLen];omega) (by rw[hlq.out];omega) hsz2 w w.heap.size (Nat.le_refl _) hb2 ?_;intro v1 w6 hown1 hg1 hb1 l5);go_roundw;case rel=>exact⟨k+1,by omega,by go_num,by unfold bE;rw[CS.out,hsn.out];exact hown1,hb1⟩
    case measure=>simp[intOf];omega
   |false=>
    have CS:Hid (dU H key (k+1)=dU H key k):=hide (by rw[hst.out,hc];simp);clear hc hst;go_wp2;go_roundw;case rel=>exact⟨k+1,by omega,by go_num,by unfold bE;rw[CS.out];exact hown2.out,hb2⟩
    case measure=>simp[intOf];omega
  ·obtain rfl:k=H.length:=(by omega);go_wp2;go_ret;exact⟨_,rfl,hown,hb⟩
def sP(H:List Txn)(k:Nat):List Int:=((H.take k).map (·.writes)).flatten
theorem xO{H:List Txn}{k:Nat}(h:k<H.length):sP H (k+1)=sP H k++H[k].writes:=by
 unfold sP;rw[List.take_succ_eq_append_getElem h,List.map_append,List.flatten_append];simp
theorem zT{H:List Txn}(h:∀i (hi:i<H.length),H[i].writes.length≤1000000):∀k,k≤H.length→(sP H k).length≤k*1000000
 |0,_=>by simp[sP]
 |k+1,hk=>by
  rw[xO (by omega),List.length_append];have:=zT h k (by omega);have:=h k (by omega);omega
set_option maxRecDepth 100000 in
theorem xQ(A:Option Addr)(c:Nat)(H:List Txn)(w:World)(h:aA w (Old w) (.slice A H.length c) H)(hn:aG H)(hr:ay H=true):
 Calls Tryz.prog 114 #[.agg #[.slice A H.length c]] w (uj w (bO H)):=by
 obtain⟨ii,hii,hi1,hi2,hi3⟩:=info_parts dO;obtain⟨W0,hW0⟩:∃W0,w.alloc (.cells #[.slice A H.length c] 24)=W0:=⟨_,rfl⟩;have hB:=ah (Below.refl w.heap.size w) hW0 (Nat.le_refl _);have k0:=Blk.newEq hW0;have h0:=hide (h.below hB);have h32:H.length≤32:=((aC H).1 hr).1;have hwl:=hide (fun i (hi:i<H.length)=>(hn.2 _ (List.getElem_mem hi)).1);have hal:=hide (zT hwl.out);have hkl:Hid (bO H=Go.Lib.compact ((sP H H.length).mergeSort fun x y=>decide (x≤y))):=hide (by unfold bO sP;rw[List.take_length]);replace hn:=hide hn;replace hr:=hide hr;replace h:=hide h;have c0:=Blk.n0 k0;go_enter Tryz.func114,Tryz.ntmps114;go_wp2_with fail;clear hW0 c0;refine(dn A c H _ h0.out hn.out).mono ?_;rintro e w1 ⟨rfl,hb1⟩;rw[hr.out];replace k0:=k0.below hb1 k0.lt;have hb:=hB.trans (hb1.mono hB.size);clear hb1 hB h0;have c0:=Blk.n0 k0;go_wp2_with fail;clear c0 k0;go_loopw [3,12] (fun s3 s12 wr=>∃k:Nat,k≤H.length∧s12= .int .i64 k∧bE wr w.heap.size s3 (sP H k)∧Below w.heap.size w wr) (fun _ s12 _=>H.length-(intOf s12).toNat);case atStart=>exact⟨0,Nat.zero_le _,by go_num,bE.nil _ _,hb⟩
 case round=>
  clear hb;obtain⟨k,hk,rfl,hown,hb⟩:=hrel;have CP:(0:Int)≤(k:Int):=Int.natCast_nonneg _;by_cases hlt:k<H.length
  ·have CQ:(k:Int)<(H.length:Int):=(by omega);obtain⟨b,off,Aw,cw,Ar,cr,rfl,_,d0,d1,d2,hws,_⟩:=aA.at_ (h.out.below hb) hlt;have hwk:=hwl.out k hlt;have hst:=hide (xO hlt);have hcnt:=hal.out k hk;have wD:=hb.size;obtain⟨Av,cv,rfl⟩:=hown.form;generalize H[k]=t at*;obtain⟨ts,ws,rs⟩:=t;dsimp only at*;have Ja:=hide (hws.keep (w':=wr.alloc (.cells #[.int .i64 ts,.slice Aw ws.length cw,.slice Ar rs.length cr] 109)) (Agree.alloc (fun b hb=>hb) _) (fun b h=>h));have hb2:=hb.alloc wD (.cells #[.int .i64 ts,.slice Aw ws.length cw,.slice Ar rs.length cr] 109);have hown2:=hown.alloc (.cells #[.int .i64 ts,.slice Aw ws.length cw,.slice Ar rs.length cr] 109);have hlo:=hide (fun b hb=>(hown.lt b hb).1);clear hws;replace hown2:=hide hown2;generalize sP H k=M at*;go_wp2_with (at_builtin;refine cB (enc:=Go.Inq.encI) rfl (.tmp 16) (.tmp 18) 33 rfl w.heap.size 3 ii _ 1 8 Tryz.underlying33 hii hi1 hi2 hi3 rfl (by decide) (.slice Av M.length cv) (Old wr) M rfl hown2.out (fun _=>rfl) (.slice Aw ws.length cw) ws rfl Ja.out Go.Inq.eG (by simp[maxLen];omega) (by omega) (by simp;omega) ?_;intro v1 w6 hown1 hg1 l5);have hb3:=below_grown hb2 hg1 (by simp;omega) (fun k hk=>hlo.out k hk);go_wp2;go_roundw;case rel=>exact⟨k+1,by omega,by go_num,by unfold bE;rw[hst.out];exact hown1,hb3⟩
   case measure=>simp[intOf];omega
  ·obtain rfl:k=H.length:=(by omega);have hcnt:=hal.out _ hk;obtain⟨Av,cv,rfl⟩:=hown.form;have hMl:(sP H H.length).length<4611686018427387904:=(by omega);have O4:(sP H H.length).length≤1000000000:=(by omega);clear hcnt;generalize sP H H.length=M at*;have zU:=List.length_mergeSort (le:=fun x y:Int=>decide (x≤y)) M;replace zU:=hide zU;have wD:=hb.size;go_wp2_with fail;refine(xM w.heap.size Av cv M _ hown hMl).mono ?_;rintro e w2 ⟨rfl,hown2,hb2⟩;replace hb:=hb.trans hb2;have hs2:Hid (bE w2 w.heap.size (.slice Av (M.mergeSort fun x y=>decide (x≤y)).length cv) (M.mergeSort fun x y=>decide (x≤y))):=hide (by rw[zU.out];exact hown2);clear hown hown2 hb2;go_wp2_with fail;rw[←zU.out];have O5:(M.mergeSort fun x y=>decide (x≤y)).length≤1000000000:=(by rw[zU.out];exact O4);refine(yV w.heap.size Av cv _ _ hs2.out O5).mono ?_;rintro e w3 ⟨v,rfl,hown3,hb3⟩;replace hb:=hb.trans hb3;go_wp2;go_ret;exact⟨_,rfl,by rw[hkl.out];exact hown3,hb⟩
end Go.Proofs.YtfhnamomiaekdaaGreatDoor
