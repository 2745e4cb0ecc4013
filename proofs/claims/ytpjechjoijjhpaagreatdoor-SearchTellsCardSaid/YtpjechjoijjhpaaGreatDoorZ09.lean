/-
  Walks: event.Right, and the references of layers 1 and 3 that tell whether an event may be.
-/
import Derived.Test.YtpjechjoijjhpaaGreatDoorProg
import Derived.Lib.OwnBridge
import Derived.Laws.EntriesVeiled
import Derived.Deep.OwnRows
import Derived.Test.YtpjechjoijjhpaaGreatDoorZ01
import Derived.Test.YtpjechjoijjhpaaGreatDoorZ07
import Derived.Test.YtpjechjoijjhpaaGreatDoorZ08
import Derived.Test.YtpjechjoijjhpaaGreatDoorZ06
import Derived.Test.YtpjechjoijjhpaaGreatDoorZ02
import Derived.Test.YtpjechjoijjhpaaGreatDoorZ03
import Derived.Test.YtpjechjoijjhpaaGreatDoorZ05
set_option linter.unusedVariables false
set_option linter.unusedSimpArgs false
namespace Go.Proofs.YtpjechjoijjhpaaGreatDoor
open Go.RowKit Go.Inq
set_option maxHeartbeats 400000
end Go.Proofs.YtpjechjoijjhpaaGreatDoor
namespace Go.Proofs.YtpjechjoijjhpaaGreatDoor
open Go.RowKit Go.Inq
set_option maxHeartbeats 1000000
attribute [local go_sem↓] Go.wp_at_zero Go.wp_at_succ
theorem NP(A A':Option Addr)(c c':Nat)(l l':List Int)(w:World)(h:aM w (Old w) (.slice A l.length c) l)(h':aM w (Old w) (.slice A' l'.length c') l')(hn:l.length≤1000000)(hn':l'.length≤1000000):
 Calls Tryz.prog 34 #[.slice A l.length c,.slice A' l'.length c'] w fun e w'=>e= .returned (.bool (decide (l=l')))∧Below w.heap.size w w':=by
 rcases Nat.decEq l.length l'.length with hlen|hlen;rotate_left
 ·rw[←hlen]at h'⊢;have ug:=hide hlen;clear hn' hlen;go_enter Tryz.func34,Tryz.ntmps34;go_wp2;go_loopw [5] (fun s5 wr=>∃i:Nat,i≤l.length∧s5= .int .i64 i∧Hid (∀j (hj:j<l.length) (hj':j<l'.length),j<i→l[j]=l'[j])∧Below w.heap.size w wr) (fun s5 _=>l.length-(intOf s5).toNat);case atStart=>exact⟨0,Nat.zero_le _,by go_num,fun j _ _ h=>absurd h (by omega),Below.refl _ _⟩
  case round=>
   obtain⟨i,hi,rfl,hall,hb⟩:=hrel;by_cases hlt:i<l.length
   ·have hlt':i<l'.length:=(by have:=ug.out;omega);have hw:=aM.below h hb;have hw':=aM.below h' hb;obtain⟨b,off,rfl,hbK,c0⟩:=aM.at_ hw hlt;obtain⟨b',off',rfl,NQ,d0⟩:=aM.at_ hw' hlt';have hi1:(0:Int)≤(i:Int):=Int.natCast_nonneg _;have hi2:(i:Int)<(l.length:Int):=(by omega);by_cases he:l[i]=l'[i]
    ·have hstep:Hid (∀j (hj:j<l.length) (hj':j<l'.length),j<i+1→l[j]=l'[j]):=fun j hj hj' hji=>by
      by_cases hje:j=i
      ·subst hje;exact he
      ·exact hall.out j hj hj' (by omega)
     rw[←he]at d0;clear he;generalize l[i]=x at*;go_wp2;go_quiet (fail);go_wp2;go_roundw;case rel=>exact⟨i+1,by omega,by go_num,hstep,⟨hb.os,hb.tape,hb.output,hb.size,hb.block⟩⟩
     case measure=>simp[intOf];omega
    ·have hf:l≠l':=fun e=>he (by subst e;rfl);replace hf:=hide hf;have hne:(l[i] !=l'[i])=true:=(by simpa using he);clear he;generalize l[i]=x at*;generalize l'[i]=x' at*;go_wp2;go_quiet (fail);go_wp2;go_ret;exact⟨by simp[hf.out],⟨hb.os,hb.tape,hb.output,hb.size,hb.block⟩⟩
   ·have he:l=l':=List.ext_getElem ug.out (fun j h1 h2=>hall.out j h1 h2 (by omega));have:i=l.length:=(by omega);subst this;go_wp2;go_ret;exact⟨by simp[he],hb⟩
 ·have hf:l≠l':=fun e=>hlen (by rw[e]);go_enter Tryz.func34,Tryz.ntmps34;go_wp2;go_ret;exact⟨by simp[hf],Below.refl _ _⟩
def aA(l:List Txn):Prop:=l.length≤1000000∧∀t∈l,t.writes.length≤1000000∧t.reads.length≤1000000
end Go.Proofs.YtpjechjoijjhpaaGreatDoor
namespace Go.Proofs.YtpjechjoijjhpaaGreatDoor
open Go.RowKit Go.Inq Go.Shelf
set_option maxHeartbeats 4000000
attribute [local go_sem] Oper.semAt_some
attribute [local go_sem↓] Go.wp_at_zero Go.wp_at_succ
theorem EA(v:Value)(w:World):Calls Tryz.prog 116 #[.agg #[v]] w fun e w'=>e= .returned (.func (.func 151) #[] #[.pointer (some ⟨w.heap.size,0,none⟩)])∧w'=w.alloc (.cells #[v] 24):=by
 go_enter Tryz.func116,Tryz.ntmps116;go_wp2;go_ret;exact⟨rfl,rfl⟩
theorem AZ(Bh n₀ c:Nat)(A:Option Addr)(H:List Txn)(hn:aA H)(w:World)(hBn:Bh<n₀)(hnW:n₀≤w.heap.size)(hc:w.cell? ⟨Bh,0,none⟩=some (.slice A H.length c))(hT:aC w (fun b=>b<n₀) (.slice A H.length c) H):
 SeqStopsK Fence.wide (3-1) Tryz.prog 151 #[.pointer (some ⟨Bh,0,none⟩)] (fun x:Bool=>#[Value.bool x]) (dU n₀) (fun ys=>ys=fB H) (fun pre=>pre<+:fB H) (fB H).length w:=fun l J Jx W hW hJ _ hY h0=>
 G8 (3-1) (by omega) l Bh n₀ c A H hn.1 hn.2 J Jx W hJ hY ((hW.cell (p:=⟨Bh,0,none⟩) (by show Bh<_;omega)).trans hc) hBn (Nat.le_trans hnW hW.size) (aC.keep hT (Agree.below hW fun b h=>by omega) (fun b h=>h)) h0
set_option maxRecDepth 100000 in
theorem gL(A:Option Addr)(c:Nat)(H:List Txn)(w:World)(h:aC w (Old w) (.slice A H.length c) H)(hn:aA H):
 Calls Tryz.prog 76 #[.agg #[.slice A H.length c]] w fun e w'=>e= .returned (.bool (aG H))∧Below w.heap.size w w':=by
 refine(callsIn_wide (n:=3)).1 ?_;have hro:Fence.wide.round=none:=rfl;refine callsIn_of_wp_marks Tryz.func76 rfl trivial ?_ hro;simp only[Tryz.ntmps76,List.size_toArray,List.length_cons,List.length_nil,Nat.reduceAdd,Nat.reduceSub,Array.replicate_succ,Array.replicate_zero,List.push_toArray,List.append_toArray,List.nil_append,List.cons_append]
 gi_wp2_with fail
 refine⟨trivial,?_⟩;refine(callsIn_wide.2 (EA _ _)).mono ?_;rintro e w1 ⟨rfl,rfl⟩;dsimp only
 gi_wp2
 obtain⟨W0,hW0⟩:∃W0,((w.alloc (.cells #[.slice A H.length c] 24)).alloc (.cells #[.bool false] 4)).alloc (.cells #[.slice A H.length c] 24)=W0:=⟨_,rfl⟩;have hs0:W0.heap.size=w.heap.size+3:=(by rw[←hW0];simp);have hBW:Below w.heap.size w W0:=(by rw[←hW0];exact(((Below.refl _ w).alloc (Nat.le_refl _) _).alloc (by simp) _).alloc (by simp;omega) _);have k1:Blk W0 (w.heap.size+1) 4 #[.bool false]:=by
  rw[←hW0];have:=Blk.new (w.alloc (.cells #[.slice A H.length c] 24)) 4 #[.bool false];simp only[World.size_alloc]at this;exact this.alloc _
 have k2:Blk W0 (w.heap.size+2) 24 #[.slice A H.length c]:=by
  rw[←hW0];have:=Blk.new ((w.alloc (.cells #[.slice A H.length c] 24)).alloc (.cells #[.bool false] 4)) 24 #[.slice A H.length c];simp only[World.size_alloc]at this;exact this
 simp only[World.size_alloc];rw[hW0];have h2:aC W0 (fun b=>b<w.heap.size) (.slice A H.length c) H:=aC.keep h (Agree.below hBW fun b h=>h) (fun b h=>h);have c2:=Blk.n0 k2;have c1:=Blk.n0 k1;have f1:=k1.frozen 0;clear hW0;refine wpIn_rangeFunc_ownF hro (by omega) (gf:=151) (lb:=#[.pointer (some ⟨w.heap.size+2,0,none⟩)]) rfl trivial (enters_of Tryz.func151 (by kernel_rfl) rfl)
  (AZ (w.heap.size+2) (w.heap.size+3) c A H hn W0 (by omega) (by omega) c2 (aC.fit h2 (fun b h=>by omega))) dU.t (dU.b (by omega)) (Below.refl _ _) (fun _=>rfl)
  (fun pre W=>((pre.all id=true)∧W.cell? ⟨w.heap.size+1,0,none⟩=some (.bool false)∧W.frozen? ⟨w.heap.size+1,0,none⟩=false)∧Below w.heap.size w W)
  (fun cc pre W=>(cc= .ret∧false∈pre∧W.cell? ⟨w.heap.size+1,0,none⟩=some (.bool false))∧Below w.heap.size w W)
  (OwnFrom.and (Own.from (fun s A B row hs hg hr=>⟨hs.1,cell_kept hs.2.1 hg hr,(frozen_kept hs.2.1 hg hr).trans hs.2.2⟩) _) (ownFrom_below (Nat.le_refl _) (by omega)))
  (fun cc=>OwnFrom.and (Own.from (fun s A B row hs hg hr=>⟨hs.1,hs.2.1,cell_kept hs.2.2 hg hr⟩) _) (ownFrom_below (Nat.le_refl _) (by omega)))
  ⟨⟨rfl,c1,f1⟩,hBW⟩
  (fun x=>{tmps:=#[.agg #[.slice A H.length c],.pointer (some ⟨w.heap.size,0,none⟩),.pointer (some ⟨w.heap.size+1,0,none⟩),.bool x,.agg #[.slice A H.length c],.func (.func 151) #[] #[.pointer (some ⟨w.heap.size+2,0,none⟩)],.bool x,undef,undef],defers:=[]}) ?assign ?body ?done ?stop
 case assign=>
  intro l x W K hK
  gi_wp2
  exact hK
 case body=>
  rintro l pre x W ⟨⟨hp,hcr,hfr⟩,hB⟩ _;cases x with
  |false=>
   gi_wp2
   exact⟨KeepsOthers.setCell _ _ _,⟨rfl,by simp,World.cell?_setCell_same' _ _ _ (by rw[hcr];rfl)⟩,hB.setCell (p:=⟨w.heap.size+1,0,none⟩) (by simp) _⟩
  |true=>
   gi_wp2
   exact⟨KeepsOthers.refl _,dU.refl _ _,⟨by rw[List.all_append,hp];rfl,hcr,hfr⟩,hB⟩
 case done=>
  rintro D xs W hD rfl ⟨⟨hall,hcr,hfr⟩,hB⟩ hK;have hall:=hide hall
  gi_wp2
  have hK':=(KeepsOthers.setCell W ⟨w.heap.size+1,0,none⟩ (.bool true)).same D _ hK rfl;refine⟨by simp,.inl ⟨_,_,rfl,run_takeDeferred hK',?_⟩⟩;have hc5:=cell_kept (World.cell?_setCell_same' W ⟨w.heap.size+1,0,none⟩ (.bool true) (by rw[hcr];rfl)) (grownBy_putObj' _ D (.deferred none)) (fun r e=>by cases e;exact⟨_,hK',rfl⟩);refine⟨.bool true,?_,by unfold aG;rw[hall.out],(hB.setCell (p:=⟨w.heap.size+1,0,none⟩) (by simp) _).trans (belowK_b (w:=w) (Nat.le_refl _) _ D _ _ (by omega) hK' rfl rfl)⟩;simp[results,Tryz.f76,go_sem,hc5]
 case stop=>
  rintro D cc pre W hD hpre ⟨⟨rfl,hin,hcr⟩,hB⟩ hK;have hf:=hide (qG hpre hin)
  gi_wp2
  refine⟨by simp,.inl ⟨_,_,rfl,run_takeDeferred hK,?_⟩⟩;have hc5:=cell_kept hcr (grownBy_putObj' _ D (.deferred none)) (fun r e=>by cases e;exact⟨_,hK,rfl⟩);refine⟨.bool false,?_,by unfold aG;rw[hf.out],hB.trans (belowK_b (w:=w) (Nat.le_refl _) W D _ _ (by omega) hK rfl rfl)⟩;simp[results,Tryz.f76,go_sem,hc5]
end Go.Proofs.YtpjechjoijjhpaaGreatDoor
namespace Go.Proofs.YtpjechjoijjhpaaGreatDoor
open Go.RowKit Go.Inq
set_option maxHeartbeats 4000000
attribute [local go_sem↓] Go.wp_at_zero Go.wp_at_succ
theorem Cj(l:List Int):(l.map Go.Inq.encI).flatten=l.map (Value.int .i64):=by
 induction l with
 |nil=>rfl
 |cons x r ih=>rw[List.map_cons,List.flatten_cons,ih];rfl
theorem below_grow(w:World)(os:Array Obj):Below w.heap.size w (Go.Sort.grow w os):=
 ⟨rfl,rfl,rfl,by simp[Go.Sort.grow],fun k hk=>by simp[Go.Sort.grow,Array.getElem?_append,hk]⟩
theorem KO(base:Nat)(A:Option Addr)(c:Nat)(l:List Int)(w:World)(h:bA w base (.slice A l.length c) l)(hl:l.length<4611686018427387904):
 Calls Tryz.prog 141 #[.slice A l.length c] w fun e w'=>e= .returned (.tuple #[])∧bA w' base (.slice A l.length c) (l.mergeSort fun x y=>decide (x≤y))∧Below base w w':=by
 unfold bA at h⊢;rw[Cj]at h⊢;by_cases hv:(Value.slice A l.length c)= .slice none 0 0
 ·injection hv with h1 h2 h3
  subst h1 h3;have:l=[]:=List.eq_nil_of_length_eq_zero h2;subst this;refine(Go.Proofs.Tryz.slices_Sort_int_none none 0 w).mono ?_;rintro e w' ⟨rfl,rfl⟩;exact⟨rfl,by rw[List.mergeSort_nil];exact World.ownsRow_nil _ _ _ _,Below.refl _ _⟩
 ·obtain⟨g,cap,hv',hbg,hgl,hn,hm,_,hH⟩:=Go.Lib.holds_of_ownsRow h hv;injection hv' with h1 h2 h3
  subst h1 h3;refine(Go.Proofs.Tryz.slices_Sort_int g 0 c l w hH hgl hl).mono ?_;rintro e w' ⟨rfl,n,os,rfl⟩;have hlen:(l.mergeSort fun x y=>decide (x≤y)).length=l.length:=List.length_mergeSort l;have hr:=Go.Lib.ownsRow_putRow (q:=n) (k:=l.length) h hlen (Nat.le_refl _);rw[List.take_of_length_le (by rw[hlen];exact Nat.le_refl _)]at hr;rw[hlen];have hb2:=Go.Lib.below_putRow (enc:=Value.int .i64) (q:=n) (d:=(l.mergeSort fun x y=>decide (x≤y)).toArray) (Below.refl base w) hbg;have hz:=(hr.lt g rfl).2;exact⟨rfl,own_below hr (below_grow _ os) (Nat.le_refl _),hb2.trans ((below_grow _ os).mono (by omega))⟩
theorem Dt(base:Nat)(A:Option Addr)(c:Nat)(l:List Int)(w:World)(h:bA w base (.slice A l.length c) l)(hl:l.length≤1000000000):
 Calls Tryz.prog 142 #[.slice A l.length c] w fun e w'=>∃v,e= .returned v∧bA w' base v (Go.Lib.compact l)∧Below base w w':=by
 unfold bA at h⊢;rw[Cj]at h⊢;by_cases hv:(Value.slice A l.length c)= .slice none 0 0
 ·injection hv with h1 h2 h3
  subst h1 h3;have:l=[]:=List.eq_nil_of_length_eq_zero h2;subst this;refine(Go.Proofs.Tryz.slices_Compact_int_empty none 0 w).mono ?_;rintro e w' ⟨rfl,rfl⟩;exact⟨_,rfl,World.ownsRow_nil _ _ _ _,Below.refl _ _⟩
 ·obtain⟨g,cap,hv',hbg,hgl,hn,hm,_,hH⟩:=Go.Lib.holds_of_ownsRow h hv;injection hv' with h1 h2 h3
  subst h1 h3;refine(Go.Proofs.Tryz.slices_Compact_int g 0 c l w hH (by omega) hn).mono ?_;rintro e w' ⟨rfl,q,rfl⟩;have hk:(Go.Lib.compact l).length≤l.length:=Go.Lib.compact_length_le l;have hlen:(Go.Lib.compact l++List.replicate (l.length-(Go.Lib.compact l).length) 0).length=l.length:=(by simp;omega);have hr:=Go.Lib.ownsRow_putRow (q:=q) (k:=(Go.Lib.compact l).length) h hlen hk;rw[List.take_append_of_le_length (Nat.le_refl _),List.take_length]at hr;exact⟨_,rfl,hr,Go.Lib.below_putRow (enc:=Value.int .i64) (Below.refl base w) hbg⟩
set_option maxRecDepth 100000 in
theorem uh(A:Option Addr)(c:Nat)(H:List Txn)(key:Int)(w:World)(h:aC w (Old w) (.slice A H.length c) H)(hn:aA H)(hr:aG H=true):
 Calls Tryz.prog 102 #[.agg #[.slice A H.length c],.int .i64 key] w (AO w (au (fJ H key))):=by
 obtain⟨ii,hii,hi1,hi2,hi3⟩:=info_parts gU;obtain⟨W0,hW0⟩:∃W0,w.alloc (.cells #[.slice A H.length c] 24)=W0:=⟨_,rfl⟩;have hB:=ah (Below.refl w.heap.size w) hW0 (Nat.le_refl _);have k0:=Blk.newEq hW0;have h0:=hide (h.below hB);have hlen:=hn.1;have hwl:=hide (fun i (hi:i<H.length)=>(hn.2 _ (List.getElem_mem hi)).1);replace hn:=hide hn;replace hr:=hide hr;replace h:=hide h;have c0:=Blk.n0 k0;go_enter Tryz.func102,Tryz.ntmps102;go_wp2_with fail;clear hW0 c0;refine(gL A c H _ h0.out hn.out).mono ?_;rintro e w1 ⟨rfl,hb1⟩;rw[hr.out];replace k0:=k0.below hb1 k0.lt;have hb:=hB.trans (hb1.mono hB.size);clear hb1 hB h0;have c0:=Blk.n0 k0;go_wp2_with fail;clear c0 k0;go_loopw [5,14] (fun s5 s14 wr=>∃k:Nat,k≤H.length∧s14= .int .i64 k∧bA wr w.heap.size s5 (au (fV H key k))∧Below w.heap.size w wr) (fun _ s14 _=>H.length-(intOf s14).toNat);case atStart=>exact⟨0,Nat.zero_le _,by go_num,bA.nil _ _,hb⟩
 case round=>
  clear hb;obtain⟨k,hk,rfl,hown,hb⟩:=hrel;have yY:(0:Int)≤(k:Int):=Int.natCast_nonneg _;by_cases hlt:k<H.length
  ·have yZ:(k:Int)<(H.length:Int):=(by omega);obtain⟨b,off,Aw,cw,Ar,cr,rfl,_,d0,d1,d2,hws,_⟩:=aC.at_ (h.out.below hb) hlt;have hwk:=hwl.out k hlt;have hst:=hide (yI H key k);rw[aQ hlt]at hst;have hcnt:(fV H key k).length≤k:=Nat.le_trans (List.length_filter_le _ _) (by simp);have oL:=hb.size;obtain⟨Av,cv,rfl⟩:=hown.form;generalize H[k]=t at*;obtain⟨ts,ws,rs⟩:=t;dsimp only at*;have RQ:=hide (hws.keep (w':=wr.alloc (.cells #[.int .i64 ts,.slice Aw ws.length cw,.slice Ar rs.length cr] 60)) (Agree.alloc (fun b hb=>hb) _) (fun b h=>h));have hb2:=hb.alloc oL (.cells #[.int .i64 ts,.slice Aw ws.length cw,.slice Ar rs.length cr] 60);have hown2:=hown.alloc (.cells #[.int .i64 ts,.slice Aw ws.length cw,.slice Ar rs.length cr] 60);clear hws;replace hown2:=hide hown2;have hlq:=hide (aR (fV H key k));have hsn:=hide (iy (fV H key k) k);go_wp2_with fail;clear d0 d1 d2;refine(fO Aw cw ws key _ _ RQ.out (by unfold maxLen;omega)).mono ?_;rintro e w3 ⟨rfl,rfl⟩;have hsz2:=hb2.size;cases hc:ws.contains key with
   |true=>
    have oK:Hid (fV H key (k+1)=fV H key k++[k]):=hide (by rw[hst.out,hc];rfl);clear hc hst;generalize wr.alloc (.cells #[.int .i64 ts,.slice Aw ws.length cw,.slice Ar rs.length cr] 60)=Wx at*;go_wp2_with (at_builtin;refine aN (enc:=Go.Inq.encI) rfl (.tmp 23) (.tmp 25) 35 rfl w.heap.size 3 ii _ 1 8 Tryz.underlying35 hii hi1 hi2 hi3 rfl (by decide) (.slice Av (au (fV H key k)).length cv) (au (fV H key k)) rfl hown2.out (fun _=>rfl) (k:Int) _ rfl rfl Go.Inq.fD (by rw[hlq.out];simp[maxLen];omega) (by rw[hlq.out];omega) hsz2 w w.heap.size (Nat.le_refl _) hb2 ?_;intro v1 w6 hown1 hg1 hb1 jN);go_roundw;case rel=>exact⟨k+1,by omega,by go_num,by unfold bA;rw[oK.out,hsn.out];exact hown1,hb1⟩
    case measure=>simp[intOf];omega
   |false=>
    have oK:Hid (fV H key (k+1)=fV H key k):=hide (by rw[hst.out,hc];simp);clear hc hst;go_wp2;go_roundw;case rel=>exact⟨k+1,by omega,by go_num,by unfold bA;rw[oK.out];exact hown2.out,hb2⟩
    case measure=>simp[intOf];omega
  ·obtain rfl:k=H.length:=(by omega);go_wp2;go_ret;exact⟨_,rfl,hown,hb⟩
def xY(H:List Txn)(k:Nat):List Int:=((H.take k).map (·.writes)).flatten
theorem Ck{H:List Txn}{k:Nat}(h:k<H.length):xY H (k+1)=xY H k++H[k].writes:=by
 unfold xY;rw[List.take_succ_eq_append_getElem h,List.map_append,List.flatten_append];simp
theorem EB{H:List Txn}(h:∀i (hi:i<H.length),H[i].writes.length≤1000000):∀k,k≤H.length→(xY H k).length≤k*1000000
 |0,_=>by simp[xY]
 |k+1,hk=>by
  rw[Ck (by omega),List.length_append];have:=EB h k (by omega);have:=h k (by omega);omega
set_option maxRecDepth 100000 in
theorem Cm(A:Option Addr)(c:Nat)(H:List Txn)(w:World)(h:aC w (Old w) (.slice A H.length c) H)(hn:aA H)(hr:aG H=true):
 Calls Tryz.prog 101 #[.agg #[.slice A H.length c]] w (AO w (dY H)):=by
 obtain⟨ii,hii,hi1,hi2,hi3⟩:=info_parts gU;obtain⟨W0,hW0⟩:∃W0,w.alloc (.cells #[.slice A H.length c] 24)=W0:=⟨_,rfl⟩;have hB:=ah (Below.refl w.heap.size w) hW0 (Nat.le_refl _);have k0:=Blk.newEq hW0;have h0:=hide (h.below hB);have h32:H.length≤32:=((aD H).1 hr).1;have hwl:=hide (fun i (hi:i<H.length)=>(hn.2 _ (List.getElem_mem hi)).1);have hal:=hide (EB hwl.out);have hkl:Hid (dY H=Go.Lib.compact ((xY H H.length).mergeSort fun x y=>decide (x≤y))):=hide (by unfold dY xY;rw[List.take_length]);replace hn:=hide hn;replace hr:=hide hr;replace h:=hide h;have c0:=Blk.n0 k0;go_enter Tryz.func101,Tryz.ntmps101;go_wp2_with fail;clear hW0 c0;refine(gL A c H _ h0.out hn.out).mono ?_;rintro e w1 ⟨rfl,hb1⟩;rw[hr.out];replace k0:=k0.below hb1 k0.lt;have hb:=hB.trans (hb1.mono hB.size);clear hb1 hB h0;have c0:=Blk.n0 k0;go_wp2_with fail;clear c0 k0;go_loopw [3,12] (fun s3 s12 wr=>∃k:Nat,k≤H.length∧s12= .int .i64 k∧bA wr w.heap.size s3 (xY H k)∧Below w.heap.size w wr) (fun _ s12 _=>H.length-(intOf s12).toNat);case atStart=>exact⟨0,Nat.zero_le _,by go_num,bA.nil _ _,hb⟩
 case round=>
  clear hb;obtain⟨k,hk,rfl,hown,hb⟩:=hrel;have yY:(0:Int)≤(k:Int):=Int.natCast_nonneg _;by_cases hlt:k<H.length
  ·have yZ:(k:Int)<(H.length:Int):=(by omega);obtain⟨b,off,Aw,cw,Ar,cr,rfl,_,d0,d1,d2,hws,_⟩:=aC.at_ (h.out.below hb) hlt;have hwk:=hwl.out k hlt;have hst:=hide (Ck hlt);have hcnt:=hal.out k hk;have oL:=hb.size;obtain⟨Av,cv,rfl⟩:=hown.form;generalize H[k]=t at*;obtain⟨ts,ws,rs⟩:=t;dsimp only at*;have RQ:=hide (hws.keep (w':=wr.alloc (.cells #[.int .i64 ts,.slice Aw ws.length cw,.slice Ar rs.length cr] 60)) (Agree.alloc (fun b hb=>hb) _) (fun b h=>h));have hb2:=hb.alloc oL (.cells #[.int .i64 ts,.slice Aw ws.length cw,.slice Ar rs.length cr] 60);have hown2:=hown.alloc (.cells #[.int .i64 ts,.slice Aw ws.length cw,.slice Ar rs.length cr] 60);have hlo:=hide (fun b hb=>(hown.lt b hb).1);clear hws;replace hown2:=hide hown2;generalize xY H k=M at*;go_wp2_with (at_builtin;refine bg (enc:=Go.Inq.encI) rfl (.tmp 16) (.tmp 18) 35 rfl w.heap.size 3 ii _ 1 8 Tryz.underlying35 hii hi1 hi2 hi3 rfl (by decide) (.slice Av M.length cv) (Old wr) M rfl hown2.out (fun _=>rfl) (.slice Aw ws.length cw) ws rfl RQ.out Go.Inq.fD (by simp[maxLen];omega) (by omega) (by simp;omega) ?_;intro v1 w6 hown1 hg1 jN);have hb3:=below_grown hb2 hg1 (by simp;omega) (fun k hk=>hlo.out k hk);go_wp2;go_roundw;case rel=>exact⟨k+1,by omega,by go_num,by unfold bA;rw[hst.out];exact hown1,hb3⟩
   case measure=>simp[intOf];omega
  ·obtain rfl:k=H.length:=(by omega);have hcnt:=hal.out _ hk;obtain⟨Av,cv,rfl⟩:=hown.form;have hMl:(xY H H.length).length<4611686018427387904:=(by omega);have Vp:(xY H H.length).length≤1000000000:=(by omega);clear hcnt;generalize xY H H.length=M at*;have EC:=List.length_mergeSort (le:=fun x y:Int=>decide (x≤y)) M;replace EC:=hide EC;have oL:=hb.size;go_wp2_with fail;refine(KO w.heap.size Av cv M _ hown hMl).mono ?_;rintro e w2 ⟨rfl,hown2,hb2⟩;replace hb:=hb.trans hb2;have hs2:Hid (bA w2 w.heap.size (.slice Av (M.mergeSort fun x y=>decide (x≤y)).length cv) (M.mergeSort fun x y=>decide (x≤y))):=hide (by rw[EC.out];exact hown2);clear hown hown2 hb2;go_wp2_with fail;rw[←EC.out];have Vq:(M.mergeSort fun x y=>decide (x≤y)).length≤1000000000:=(by rw[EC.out];exact Vp);refine(Dt w.heap.size Av cv _ _ hs2.out Vq).mono ?_;rintro e w3 ⟨v,rfl,hown3,hb3⟩;replace hb:=hb.trans hb3;go_wp2;go_ret;exact⟨_,rfl,by rw[hkl.out];exact hown3,hb⟩
def dX(x:Cho):List Value:=[.int .i64 x.key,.int .i64 x.a,.int .i64 x.b]
theorem bR:∀(x:Cho),∀u∈dX x,u.oneCell'=true:=by
 intro x u hu;simp[dX]at hu;rcases hu with rfl|rfl|rfl<;>rfl
theorem gY:(Tryz.prog.info? 62).map (fun i=>(i.zero,i.size,i.bytes))=some (some (.agg #[.int .i64 0,.int .i64 0,.int .i64 0]),3,24):=by kernel_rfl
def aV(w:World)(K:Nat→Prop)(v:Value)(l:List Cho):Prop:=SlR 3 (Flat dX) w K v l
section
variable{w w':World}{K K':Nat→Prop}{v:Value}{l:List Cho}
theorem aV.keep(h:aV w K v l)(ha:Agree K w w')(hk:∀b,K b→K' b):aV w' K' v l:=SlR.keep (Flat.aS _) h ha hk
theorem aV.below(h:aV w (Old w) v l)(hb:Below w.heap.size w w'):aV w' (Old w') v l:=SlR.below (Flat.aS _) h hb
theorem aV.fit(h:aV w K v l)(hk:∀b,K b→K' b):aV w K' v l:=SlR.fit (Flat.aS _) h hk
theorem aV.nil(w:World)(K:Nat→Prop)(A:Option Addr)(c:Nat):aV w K (.slice A 0 c) []:=SlR.nil _ _ _ _ _ _
theorem aV.at_{A:Option Addr}{n c:Nat}(h:aV w K (.slice A n c) l){i:Nat}(hi:i<l.length):
 ∃b off,A=some ⟨b,off,none⟩∧K b∧w.cell? ⟨b,off+i*3,none⟩=some (.int .i64 l[i].key)∧w.cell? ⟨b,off+i*3+1,none⟩=some (.int .i64 l[i].a)∧w.cell? ⟨b,off+i*3+2,none⟩=some (.int .i64 l[i].b):=by
 obtain⟨b,off,cs,hA,hK,_,hR,hc⟩:=SlR.at_ h hi;unfold Flat at hR;subst hR;exact⟨b,off,hA,hK,hc 0 _ rfl,hc 1 _ rfl,hc 2 _ rfl⟩
end
def bG(w:World)(base:Nat)(v:Value)(l:List Cho):Prop:=w.ownsRow base 62 3 v l.length (l.map dX).flatten
def ED(w:World)(l:List Cho)(e:Ending)(w':World):Prop:=∃v,e= .returned v∧bG w' w.heap.size v l∧Below w.heap.size w w'
theorem bG.form{w:World}{base:Nat}{v:Value}{l:List Cho}(h:bG w base v l):∃A c,v= .slice A l.length c:=aW h
theorem bG.sl{w:World}{base:Nat}{v:Value}{l:List Cho}(h:bG w base v l){K:Nat→Prop}(hK:∀g,base≤g→g<w.heap.size→K g):aV w K v l:=SlR.of_flat h rfl (fun _=>rfl) hK
theorem bG.nil(w:World)(base:Nat):bG w base (.slice none 0 0) []:=World.ownsRow_nil _ _ _ _
set_option maxRecDepth 100000 in
theorem G9(A:Option Addr)(c:Nat)(H:List Txn)(w:World)(h:aC w (Old w) (.slice A H.length c) H)(hn:aA H)(hr:aG H=true):
 Calls Tryz.prog 57 #[.agg #[.slice A H.length c]] w (ED w (dD H)):=by
 obtain⟨ic,hic,hi1,hi2,hi3⟩:=info_parts gY;obtain⟨W0,hW0⟩:∃W0,w.alloc (.cells #[.slice A H.length c] 24)=W0:=⟨_,rfl⟩;have hB:=ah (Below.refl w.heap.size w) hW0 (Nat.le_refl _);have k0:=Blk.newEq hW0;have h0:=hide (h.below hB);have h32:H.length≤32:=((aD H).1 hr).1;have Vr:=pG hr;have hpt:=hide (pI h32);have hstep:=hide (fun k (hk:k<(dY H).length)=>tC hk);have hall:=hide (wQ H);have hs0:=aB hW0;replace hn:=hide hn;replace hr:=hide hr;replace h:=hide h;have c0:=Blk.n0 k0;replace hs0:=hide hs0;go_enter Tryz.func57,Tryz.ntmps57;go_wp2_with fail;clear hW0 c0;refine(Cm A c H _ h0.out hn.out hr.out).mono ?_;rintro e wk ⟨vk,rfl,hKO,hbk⟩;obtain⟨Ak,ck,rfl⟩:=hKO.form;have hwW:w.heap.size<W0.heap.size:=(by have:=hs0.out;omega);have hKS:=hide (hKO.sl (K:=fun b=>W0.heap.size≤b∧b<wk.heap.size) (fun g h1 h2=>⟨h1,h2⟩));replace k0:=k0.below hbk k0.lt;have hb:=hB.trans (hbk.mono hB.size);have Vs:=hbk.size;clear hbk hB h0 hKO;generalize hKL:dY H=KL at*;go_wp2_with fail;go_loopw [3,14] (fun s3 s14 wr=>∃k:Nat,k≤KL.length∧s14= .int .i64 k∧bG wr w.heap.size s3 (dZ H k)∧Below w.heap.size w wr∧Agree (fun b=>w.heap.size≤b∧b<wk.heap.size) wk wr∧wk.heap.size≤wr.heap.size∧Hid (∀g,s3.ownBlock=some g→wk.heap.size≤g)) (fun _ s14 _=>KL.length-(intOf s14).toNat);case atStart=>exact⟨0,Nat.zero_le _,by go_num,bG.nil _ _,hb,Agree.refl _ _,Nat.le_refl _,hide fun g hg=>by simp[Value.ownBlock]at hg⟩
 case round=>
  clear hb;obtain⟨Wo,rfl⟩:∃Wo,Wo=wr:=⟨_,rfl⟩;obtain⟨k,hk,rfl,hown,hb,hag,RS,jE⟩:=hrel;have yY:(0:Int)≤(k:Int):=Int.natCast_nonneg _;by_cases hlt:k<KL.length
  ·have yZ:(k:Int)<(KL.length:Int):=(by omega);obtain⟨bk,ok,rfl,_,hck⟩:=(hKS.out.keep (hag.mono fun b hb=>⟨by omega,hb.2⟩) (fun b h=>h)).at_ hlt;have m0:=k0.agree hag ⟨Nat.le_refl _,k0.lt⟩;have hst:=hide (hstep.out k hlt);have hlen:=hpt.out k hk;have c0:=Blk.n0 m0;generalize KL[k]=key at*;go_wp2_with fail;clear c0 hck;refine(uh A c H key _ (h.out.below hb) hn.out hr.out).mono ?_;rintro e wl ⟨vl,rfl,hLO,hbl⟩;have hLn:=pF H key;have hpa:=hide (rP key (fJ H key));have hpi:=hide (fun i (hi:i<(fJ H key).length)=>wM key (fJ H key) hi);have hpl:=hide (rR key (fJ H key));generalize fJ H key=L at*;obtain⟨Al,cl,hv⟩:=hLO.form;rw[aR]at hv;subst hv;have hLS:=hide (hLO.sl (K:=fun b=>Wo.heap.size≤b∧b<wl.heap.size) (fun g h1 h2=>⟨h1,h2⟩));have hb2:=hb.trans (hbl.mono hb.size);have RU:=hbl.size;have Qg:Agree (fun b=>w.heap.size≤b∧b<wk.heap.size) wk wl:=hag.trans (Agree.below hbl fun b hb=>by omega);have hown2:bG wl w.heap.size _ (dZ H k):=own_below hown hbl (Nat.le_refl _);have hlt2:=hide (fun g hg=>(hown.lt g hg).2);clear hLO hbl hb hag hown m0;go_wp2_with fail;go_loopw [3,23] (fun s3 s23 wq=>∃i:Nat,i≤L.length∧s23= .int .i64 i∧bG wq w.heap.size s3 (dZ H k++bI key L i)∧Below w.heap.size w wq∧Agree (fun b=>w.heap.size≤b∧b<wk.heap.size) wk wq∧Agree (fun b=>Wo.heap.size≤b∧b<wl.heap.size) wl wq∧wl.heap.size≤wq.heap.size∧Hid (∀g,s3.ownBlock=some g→wk.heap.size≤g∧(g<Wo.heap.size∨wl.heap.size≤g))) (fun _ s23 _=>L.length-(intOf s23).toNat);case atStart=>exact⟨0,Nat.zero_le _,by go_num,by simpa[bI]using hown2,hb2,Qg,Agree.refl _ _,Nat.le_refl _,hide fun g hg=>⟨jE.out g hg,.inl (hlt2.out g hg)⟩⟩
   case round=>
    clear hown2 hb2 Qg hlt2 jE;obtain⟨Wp,rfl⟩:∃Wp,Wp=wr:=⟨_,rfl⟩;obtain⟨i,hi,rfl,hown,hb,hag,EF,Du,jE⟩:=hrel;have hj1:(0:Int)≤(i:Int):=Int.natCast_nonneg _;by_cases hil:i<L.length
    ·have hj2:(i:Int)<(L.length:Int):=(by omega);obtain⟨bl,ol,rfl,_,hcl⟩:=(hLS.out.keep EF (fun b h=>h)).at_ (i:=i) (by rw[aR];exact hil);rw[iM hil]at hcl;have Qh:=hide (hpi.out i hil);have hdl:(L.drop (i+1)).length=L.length-(i+1):=List.length_drop;have ug:=hpl.out i;have hlen3:i*L.length≤32*32:=Nat.mul_le_mul (by omega) (by omega);generalize L[i]=a at*;have hle:i+1≤L.length:=(by omega);have hle3:(i:Int)+1≤(L.length:Int):=(by omega);have Vt:L.length≤cl:=by
      obtain⟨_,_,e,h2⟩:=SlR.len hLS.out;injection e with e1 e2 e3
      rw[aR]at h2;omega
     by_cases hcap:cl=i+1
     ·have hLi:L.length=i+1:=(by omega);have hd0:L.drop (i+1)=[]:=List.drop_of_length_le (by omega);have hown3:Hid (bG Wp w.heap.size u3 (dZ H k++bI key L (i+1))):=hide (by rw[Qh.out,hd0,List.map_nil,List.append_nil];exact hown);have hz0:L.length-(i+1)=0:=(by omega);clear hd0 Vt;replace hown:=hide hown;subst hcap;go_wp2_with fail
      go_loop [3,33] (fun s3 s33=>s33= .int .i64 0∧bG Wp w.heap.size s3 (dZ H k++bI key L (i+1))∧Hid (∀g,s3.ownBlock=some g→wk.heap.size≤g∧(g<Wo.heap.size∨wl.heap.size≤g))) (fun _ _=>0)
      case atStart=>exact⟨rfl,hown3.out,jE⟩
      case round=>
       clear hown3 jE;obtain⟨rfl,hown3,jE⟩:=hrel;go_wp2;go_roundw;case rel=>exact⟨i+1,by omega,by go_num,hown3,hb,hag,EF,Du,jE⟩
       case measure=>simp[intOf];omega
     ·go_wp2_with fail;have hdo:=hide (fun j (hj:j<L.length-(i+1))=>(show i+1+j<L.length by omega));go_loopw [3,33] (fun s3 s33 wq=>∃j:Nat,j≤L.length-(i+1)∧s33= .int .i64 j∧bG wq w.heap.size s3 (dZ H k++bI key L i++((L.drop (i+1)).take j).map fun(b:Nat)=>(⟨key,(a:Nat),b⟩:Cho))∧Below w.heap.size w wq∧Agree (fun b=>w.heap.size≤b∧b<wk.heap.size) wk wq∧Agree (fun b=>Wo.heap.size≤b∧b<wl.heap.size) wl wq∧wl.heap.size≤wq.heap.size∧Hid (∀g,s3.ownBlock=some g→wk.heap.size≤g∧(g<Wo.heap.size∨wl.heap.size≤g))) (fun _ s33 _=>(L.length-(i+1))-(intOf s33).toNat);case atStart=>exact⟨0,Nat.zero_le _,by go_num,by simpa using hown,hb,hag,EF,Du,jE⟩
      case round=>
       clear hown hb hag EF Du jE hcl;obtain⟨j,hj,rfl,hown,hb,hag,EF,Du,jE⟩:=hrel;have hjj:(0:Int)≤(j:Int):=Int.natCast_nonneg _;by_cases hjl:j<L.length-(i+1)
       ·have hj3:(j:Int)<((L.length-(i+1):Nat):Int):=(by omega);have hix:=hdo.out j hjl;obtain⟨_,_,e,_,hcj⟩:=(hLS.out.keep EF (fun b h=>h)).at_ (i:=i+1+j) (by rw[aR];exact hix);injection e with e
        injection e with e1 e2
        subst e1 e2;rw[iM hix,←Nat.add_assoc]at hcj;have hdj:Hid (((L.drop (i+1)).take (j+1))=(L.drop (i+1)).take j++[L[i+1+j]]):=hide (by rw[take_snoc' (by rw[hdl];exact hjl),List.getElem_drop]);have hjn:((L.drop (i+1)).take j).length≤32:=(by rw[List.length_take,hdl];omega);have Ua:(dZ H k).length≤16384:=(by omega);have Xg:(dZ H k++bI key L i++((L.drop (i+1)).take j).map fun(b:Nat)=>(⟨key,(a:Nat),b⟩:Cho)).length≤20000:=by
         rw[List.length_append,List.length_append,List.length_map];omega
        obtain⟨Av,cv,rfl⟩:=hown.form;generalize hM:(dZ H k++bI key L i++((L.drop (i+1)).take j).map fun(b:Nat)=>(⟨key,(a:Nat),b⟩:Cho))=M at*;generalize L[i+1+j]=y at*;have hM2:Hid ((dZ H k++bI key L i++((L.drop (i+1)).take (j+1)).map fun(b:Nat)=>(⟨key,(a:Nat),b⟩:Cho))=M++[⟨key,a,y⟩]):=hide (by rw[hdj.out,List.map_append,←List.append_assoc,hM];rfl);have oL:=hb.size;clear hM hjn Ua hdj;replace hown:=hide hown;go_wp2_with (at_builtin;refine aN (enc:=dX) rfl (.tmp 37) (.tmp 42) 52 rfl w.heap.size 62 ic _ 3 24 Tryz.underlying52 hic hi1 hi2 hi3 rfl (by decide) (.slice Av M.length cv) M rfl hown.out (fun _=>rfl) (⟨key,a,y⟩:Cho) _ rfl rfl bR (by simp[maxLen];omega) (by omega) oL w w.heap.size (Nat.le_refl _) hb ?_;intro v1 w6 hown1 hg1 hb1 jN);have hg6:=hg1.size;simp only[World.size_alloc]at hg6;have hA1:Agree (fun b=>w.heap.size≤b∧b<wk.heap.size) wk w6:=(hag.trans (Agree.alloc (fun b hb=>by omega) _)).trans (Agree.grown hg1 fun b hb=>⟨by simp;omega,fun e=>by have:=(jE.out b e.symm).1;omega⟩);have hA2:Agree (fun b=>Wo.heap.size≤b∧b<wl.heap.size) wl w6:=(EF.trans (Agree.alloc (fun b hb=>by omega) _)).trans (Agree.grown hg1 fun b hb=>⟨by simp;omega,fun e=>by have:=(jE.out b e.symm).2;omega⟩);go_wp2;go_roundw;case rel=>exact⟨j+1,by omega,by go_num,by rw[hM2.out];exact hown1,hb1,hA1,hA2,by omega,hide fun g hg=>by
         rcases jN with e|e
         ·rw[e]at hg;exact jE.out g hg
         ·rw[e]at hg;injection hg with hg;omega⟩
        case measure=>simp[intOf];omega
       ·obtain rfl:j=L.length-(i+1):=(by omega);rw[List.take_of_length_le (by rw[hdl];exact Nat.le_refl _),List.append_assoc,←Qh.out]at hown;go_wp2;go_roundw;case rel=>exact⟨i+1,by omega,by go_num,hown,hb,hag,EF,Du,jE⟩
        case measure=>simp[intOf];omega
    ·obtain rfl:i=L.length:=(by omega);rw[hpa.out,←hst.out]at hown;go_wp2;go_roundw;case rel=>exact⟨k+1,by omega,by go_num,hown,hb,hag,by omega,hide fun g hg=>(jE.out g hg).1⟩
     case measure=>simp[intOf];omega
  ·obtain rfl:k=KL.length:=(by omega);rw[hall.out]at hown;go_wp2;go_ret;exact⟨_,rfl,hown,hb⟩
end Go.Proofs.YtpjechjoijjhpaaGreatDoor
namespace Go.Proofs.YtpjechjoijjhpaaGreatDoor
open Go.RowKit Go.Inq
set_option maxHeartbeats 1000000
def qc(w:World)(base:Nat)(v:Value)(l:List Fct):Prop:=aJ 7 vH w (TyK base [3] w) base 67 v l
theorem qc.s{w:World}{base:Nat}{v:Value}{l:List Fct}(h:qc w base v l):bM w (Old w) v l:=aJ.Ny vH.aS h
theorem qc.below{w w':World}{base:Nat}{v:Value}{l:List Fct}(h:qc w base v l)(hb:Below w.heap.size w w'):qc w' base v l:=aJ.GN vH.aS h hb (Nat.le_refl _)
theorem qc.base{w:World}{base base':Nat}{v:Value}{l:List Fct}(h:qc w base v l)(hb:base'≤base):qc w base' v l:=aJ.Nz vH.aS h hb
theorem qc.nil(w:World)(base:Nat):qc w base (.slice none 0 0) []:=aJ.nil _ _ _ _ _ _
theorem NR{α:Type}{size:Nat}{R:World→(Nat→Prop)→List Value→α→Prop}{w:World}{K:Nat→Prop}{base g:Nat}{t:TypeId}{cs:Array Value}{x:α}(h:Blk w g t cs)(hg:base≤g)(hl:cs.size=size)(hR:R w K cs.toList x):aJ size R w K base t (.slice (some ⟨g,0,none⟩) 1 1) [x]:=by
 refine⟨[cs.toList],⟨by simp[hl],.inr ⟨g,1,cs,rfl,hg,h,Nat.le_refl _,by decide,by simp[hl],?_⟩⟩,rfl,fun i ds y h1 h2=> ?_⟩
 ·rw[List.flatten_cons,List.flatten_nil,List.append_nil];exact List.take_of_length_le (by simp[hl])
 ·cases i with
  |zero=>simp at h1 h2;subst h1 h2;exact⟨by simpa using hl,hR⟩
  |succ i=>simp at h1
theorem NS{w:World}{base g:Nat}{u:Value}{x:Cho}{l:List Int}(h:Blk w g 69 #[.int .i64 x.key,.int .i64 x.a,.int .i64 x.b,u])(hg:base≤g)(hu:bA w base u l):dH w base (.slice (some ⟨g,0,none⟩) 1 1) [⟨x,l⟩]:=
 NR h hg rfl (tQ hu)
def vN(w:World)(base:Nat)(v:Value)(o:Say):Prop:=∃vo vt vf,v= .agg #[.int .i64 o.said,vo,vt,vf]∧bA w base vo (au o.order)∧dH w base vt o.tree∧qc w base vf o.facts
theorem vN.below{w w':World}{base:Nat}{v:Value}{o:Say}(h:vN w base v o)(hb:Below w.heap.size w w'):vN w' base v o:=by
 obtain⟨vo,vt,vf,h1,h2,h3,h4⟩:=h;exact⟨vo,vt,vf,h1,own_below h2 hb (Nat.le_refl _),h3.below hb,h4.below hb⟩
theorem vN.base{w:World}{base base':Nat}{v:Value}{o:Say}(h:vN w base v o)(hb:base'≤base):vN w base' v o:=by
 obtain⟨vo,vt,vf,h1,h2,h3,h4⟩:=h;exact⟨vo,vt,vf,h1,bO h2 hb,h3.base hb,h4.base hb⟩
def fA(W:World)(g:Nat)(a b c d:Value):World:=(((W.setCell ⟨g,0,none⟩ a).setCell ⟨g,1,none⟩ b).setCell ⟨g,2,none⟩ c).setCell ⟨g,3,none⟩ d
section
variable{W:World}{g:Nat}{a b c d x y z u:Value}
theorem mI(h:Blk W g 38 #[x,y,z,u]):Blk (fA W g a b c d) g 38 #[a,b,c,d]:=(((h.aH 0 a).aH 1 b).aH 2 c).aH 3 d
theorem dI{B:Nat}{w:World}(h:Below B w W)(hg:B≤g):Below B w (fA W g a b c d):=(((h.setCell (p:=⟨g,0,none⟩) hg a).setCell (p:=⟨g,1,none⟩) hg b).setCell (p:=⟨g,2,none⟩) hg c).setCell (p:=⟨g,3,none⟩) hg d
theorem nP{n0:Nat}(h:Blk W g 38 #[x,y,z,u])(hg:n0≤g):TyW n0 [38] W (fA W g a b c d):=
 (((TyW.put h hg (by simp) a).trans (TyW.put (h.aH 0 a) hg (by simp) b)).trans (TyW.put ((h.aH 0 a).aH 1 b) hg (by simp) c)).trans (TyW.put (((h.aH 0 a).aH 1 b).aH 2 c) hg (by simp) d)
theorem vN.fA{base n0:Nat}{v:Value}{o:Say}(k:vN W base v o)(h:Blk W g 38 #[x,y,z,u])(hg:n0≤g):vN (fA W g a b c d) base v o:=by
 obtain⟨vo,vt,vf,h1,h2,h3,h4⟩:=k;have hT:=nP (a:=a) (b:=b) (c:=c) (d:=d) h hg;exact⟨vo,vt,vf,h1,hT.own h2 (by decide),hT.AV fu.aS h3 (by decide),hT.AV vH.aS h4 (by decide)⟩
end
end Go.Proofs.YtpjechjoijjhpaaGreatDoor
namespace Go.Proofs.YtpjechjoijjhpaaGreatDoor
open Go.RowKit Go.Inq
set_option maxHeartbeats 2000000
attribute [local go_sem↓] Go.wp_at_zero Go.wp_at_succ
def vO{α:Type}(p:α→Bool)(l:List α):Int:=match l.findIdx? p with|some k=>k|none=> -1
theorem kQ{α:Type}{p:α→Bool}{l:List α}{k:Nat}(hk:k<l.length)(h:p l[k]=true)(h0:∀j (hj:j<l.length),j<k→p l[j]=false):vO p l=k:=by
 unfold vO;have:l.findIdx? p=some k:=by
  rw[List.findIdx?_eq_some_iff_getElem];exact⟨hk,h,fun j hj=>by rw[h0 j (by omega) hj];simp⟩
 rw[this]
theorem jq{α:Type}{p:α→Bool}{l:List α}(h0:∀j (hj:j<l.length),p l[j]=false):vO p l= -1:=by
 unfold vO;have:l.findIdx? p=none:=by
  rw[List.findIdx?_eq_none_iff];intro y hy;obtain⟨j,hj,rfl⟩:=List.getElem_of_mem hy;exact h0 j hj
 rw[this]
theorem kS{α:Type}(p:α→Bool)(l:List α):decide (0≤vO p l)=l.any p:=by
 unfold vO;cases hf:l.findIdx? p with
 |none=>
  rw[List.findIdx?_eq_none_iff]at hf;have:l.any p=false:=(by rw[List.any_eq_false];intro x hx;rw[hf x hx];simp);rw[this];rfl
 |some k=>
  rw[List.findIdx?_eq_some_iff_getElem]at hf;obtain⟨h1,h2,_⟩:=hf;have:l.any p=true:=List.any_eq_true.2 ⟨_,List.getElem_mem h1,h2⟩;rw[this];simp
set_option maxRecDepth 100000 in
theorem He (f:Nat) (hf:∀args w,(callFunc f args).run Tryz.prog w= .ok (.enter f args) w) (lb:Array Value) (p:Cho→Bool) (A:Option Addr) (c:Nat) (l:List Cho) (w:World) (h:aV w (Old w) (.slice A l.length c) l) (hl:l.length≤1000000000)
 (hp:∀W,Below w.heap.size w W→∀x∈l,Calls Tryz.prog f (#[.agg #[.int .i64 x.key,.int .i64 x.a,.int .i64 x.b]]++lb) W fun e W'=>e= .returned (.bool (p x))∧Below W.heap.size W W'):
 Calls Tryz.prog 118 #[.slice A l.length c,.func (.func f) #[] lb] w fun e w'=>e= .returned (.int .i64 (vO p l))∧Below w.heap.size w w':=by
 have hhit:=hide (fun k=>kQ (p:=p) (l:=l) (k:=k));have hnone:=hide (jq (p:=p) (l:=l));replace h:=hide h;replace hp:=hide hp;go_enter Tryz.func118,Tryz.ntmps118;go_wp2_with fail;go_loopw [8] (fun s8 wr=>∃k:Nat,k≤l.length∧s8= .int .i64 k∧Hid (∀j (hj:j<l.length),j<k→p l[j]=false)∧Below w.heap.size w wr) (fun s8 _=>l.length-(intOf s8).toNat);case atStart=>exact⟨0,Nat.zero_le _,by go_num,fun j hj h=>absurd h (by omega),Below.refl _ _⟩
 case round=>
  obtain⟨k,hk,rfl,hall,hb⟩:=hrel;have hk1:(0:Int)≤(k:Int):=Int.natCast_nonneg _;by_cases hlt:k<l.length
  ·have hi2:(k:Int)<(l.length:Int):=(by omega);obtain⟨b,off,rfl,_,d0,d1,d2⟩:=(h.out.below hb).at_ hlt;have hcall:=hide (hp.out _ hb _ (List.getElem_mem hlt));have hh:=hide (fun g=>hhit.out k hlt g hall.out);have hst:Hid (p l[k]=false→∀j (hj:j<l.length),j<k+1→p l[j]=false):=fun g j hj hjk=>by
    by_cases e:j=k
    ·subst e;exact g
    ·exact hall.out j hj (by omega)
   clear hall;generalize l[k]=x at*;go_wp2_with fail;refine hcall.out.mono ?_;rintro e W2 ⟨rfl,hb2⟩;have hb3:=hb.trans (hb2.mono hb.size);cases hpx:p x with
   |true=>
    have hr:=hide (hh.out hpx);clear hpx hh hst hcall;go_wp2;go_ret;exact⟨dV hr.out.symm,hb3⟩
   |false=>
    have hr:=hide (hst.out hpx);clear hpx hh hst hcall;go_wp2;go_roundw;case rel=>exact⟨k+1,by omega,by go_num,hr,hb3⟩
    case measure=>simp[intOf];omega
  ·have hr:=hide (hnone.out fun j hj=>hall.out j hj (by omega));go_wp2;go_ret;exact⟨dV hr.out.symm,hb⟩
theorem Ba (f:Nat) (hf:∀args w,(callFunc f args).run Tryz.prog w= .ok (.enter f args) w) (lb:Array Value) (p:Cho→Bool) (A:Option Addr) (c:Nat) (l:List Cho) (w:World) (h:aV w (Old w) (.slice A l.length c) l) (hl:l.length≤1000000000)
 (hp:∀W,Below w.heap.size w W→∀x∈l,Calls Tryz.prog f (#[.agg #[.int .i64 x.key,.int .i64 x.a,.int .i64 x.b]]++lb) W fun e W'=>e= .returned (.bool (p x))∧Below W.heap.size W W'):
 Calls Tryz.prog 79 #[.slice A l.length c,.func (.func f) #[] lb] w fun e w'=>e= .returned (.bool (l.any p))∧Below w.heap.size w w':=by
 have hd:=hide (kS p l);have hcall:=hide (He f hf lb p A c l w h hl hp);clear hp hf h;go_enter Tryz.func79,Tryz.ntmps79;go_wp2_with fail;refine hcall.out.mono ?_;rintro e w1 ⟨rfl,hb⟩;clear hcall;go_wp2;go_ret;exact⟨by rw[←hd.out];rfl,hb⟩
theorem Hf(A:Option Addr)(c:Nat)(l:List It)(xa xb:Int)(w:World)(h:ItS w (Old w) (.slice A l.length c) l)(hl:l.length≤1000000000):
 Calls Tryz.prog 139 #[.slice A l.length c,.agg #[.int .i64 xa,.int .i64 xb]] w fun e w'=>e= .returned (.int .i64 (vO (fun x:It=>decide (x.a=xa)&&decide (x.b=xb)) l))∧Below w.heap.size w w':=by
 have hhit:=hide (fun k=>kQ (p:=fun x:It=>decide (x.a=xa)&&decide (x.b=xb)) (l:=l) (k:=k));have hnone:=hide (jq (p:=fun x:It=>decide (x.a=xa)&&decide (x.b=xb)) (l:=l));obtain⟨W0,hW0⟩:∃W0,w.alloc (.cells #[.int .i64 xa,.int .i64 xb] 57)=W0:=⟨_,rfl⟩;have hB:=ah (Below.refl w.heap.size w) hW0 (Nat.le_refl _);have k0:=Blk.newEq hW0;replace h:=hide h;go_enter Tryz.func139,Tryz.ntmps139;go_wp2_with fail;clear hW0;go_loopw [8] (fun s8 wr=>∃k:Nat,k≤l.length∧s8= .int .i64 k∧Hid (∀j (hj:j<l.length),j<k→(decide (l[j].a=xa)&&decide (l[j].b=xb))=false)∧Below w.heap.size w wr∧Blk wr w.heap.size 57 #[.int .i64 xa,.int .i64 xb]) (fun s8 _=>l.length-(intOf s8).toNat);case atStart=>exact⟨0,Nat.zero_le _,by go_num,fun j hj h=>absurd h (by omega),hB,k0⟩
 case round=>
  clear k0 hB;obtain⟨k,hk,rfl,hall,hb,k0⟩:=hrel;have hk1:(0:Int)≤(k:Int):=Int.natCast_nonneg _;by_cases hlt:k<l.length
  ·have hi2:(k:Int)<(l.length:Int):=(by omega);obtain⟨b,off,rfl,_,d0,d1⟩:=(h.out.below hb).at_ hlt;have hh:=hide (fun g=>hhit.out k hlt g hall.out);have hst:Hid ((decide (l[k].a=xa)&&decide (l[k].b=xb))=false→∀j (hj:j<l.length),j<k+1→(decide (l[j].a=xa)&&decide (l[j].b=xb))=false):=fun g j hj hjk=>by
    by_cases e:j=k
    ·subst e;exact g
    ·exact hall.out j hj (by omega)
   have c0:=Blk.n0 k0;have c1:=Blk.n1 k0;clear hall;generalize l[k]=x at*;obtain⟨ya,yb⟩:=x;dsimp only at*;by_cases q1:xa=ya
   ·by_cases q2:xb=yb
    ·have q1b:(xa==ya)=true:=(by simpa using q1);have q2b:(xb==yb)=true:=(by simpa using q2);have hr:=hide (hh.out (by simp[q1,q2]));clear q1 q2 hh hst;go_wp2;go_quiet (fail);go_wp2;go_ret;exact⟨dV hr.out.symm,hb.trans ⟨rfl,rfl,rfl,Nat.le_refl _,fun _ _=>rfl⟩⟩
    ·have q1b:(xa==ya)=true:=(by simpa using q1);have q2b:(xb==yb)=false:=(by simpa using q2);have hr:=hide (hst.out (by simp;intro _ e;exact q2 e.symm));clear q1 q2 hh hst;go_wp2;go_quiet (fail);go_wp2;go_roundw;case rel=>exact⟨k+1,by omega,by go_num,hr,hb.trans ⟨rfl,rfl,rfl,Nat.le_refl _,fun _ _=>rfl⟩,k0⟩
     case measure=>simp[intOf];omega
   ·have q1b:(xa==ya)=false:=(by simpa using q1);have hr:=hide (hst.out (by simp;intro e;exact absurd e.symm q1));clear q1 hh hst;go_wp2;go_quiet (fail);go_wp2;go_roundw;case rel=>exact⟨k+1,by omega,by go_num,hr,hb.trans ⟨rfl,rfl,rfl,Nat.le_refl _,fun _ _=>rfl⟩,k0⟩
    case measure=>simp[intOf];omega
  ·have hr:=hide (hnone.out fun j hj=>hall.out j hj (by omega));go_wp2;go_ret;exact⟨dV hr.out.symm,hb⟩
theorem ru(A:Option Addr)(c:Nat)(l:List It)(xa xb:Int)(w:World)(h:ItS w (Old w) (.slice A l.length c) l)(hl:l.length≤1000000000):
 Calls Tryz.prog 94 #[.slice A l.length c,.agg #[.int .i64 xa,.int .i64 xb]] w fun e w'=>e= .returned (.bool (l.any fun x=>decide (x.a=xa)&&decide (x.b=xb)))∧Below w.heap.size w w':=by
 have hd:=hide (kS (fun x:It=>decide (x.a=xa)&&decide (x.b=xb)) l);obtain⟨W0,hW0⟩:∃W0,w.alloc (.cells #[.int .i64 xa,.int .i64 xb] 57)=W0:=⟨_,rfl⟩;have hB:=ah (Below.refl w.heap.size w) hW0 (Nat.le_refl _);have h0:=h.below hB;have hcall:=hide (Hf A c l xa xb W0 h0 hl);have k0:=Blk.newEq hW0;clear h h0;have c0:=Blk.n0 k0;have c1:=Blk.n1 k0;go_enter Tryz.func94,Tryz.ntmps94;go_wp2_with fail;clear hW0;refine hcall.out.mono ?_;rintro e w1 ⟨rfl,hb⟩;have hb2:=hB.trans (hb.mono hB.size);clear hcall;go_wp2;go_ret;exact⟨by rw[←hd.out];rfl,hb2⟩
def xZ(w:World)(K:Nat→Prop)(v:Value)(l:List (Value×Bool)):Prop:=SlR 1 (Flat fun x:Value×Bool=>[x.1]) w K v l
theorem xZ.below{w w':World}{v:Value}{l:List (Value×Bool)}(h:xZ w (Old w) v l)(hb:Below w.heap.size w w'):xZ w' (Old w') v l:=SlR.below (Flat.aS _) h hb
theorem xZ.at_{w:World}{K:Nat→Prop}{A:Option Addr}{n c:Nat}{l:List (Value×Bool)}(h:xZ w K (.slice A n c) l){i:Nat}(hi:i<l.length):
 ∃b off,A=some ⟨b,off,none⟩∧K b∧w.cell? ⟨b,off+i,none⟩=some l[i].1:=by
 obtain⟨b,off,cs,hA,hK,_,hR,hc⟩:=SlR.at_ h hi;unfold Flat at hR;subst hR;have:=hc 0 _ rfl;rw[Nat.mul_one,Nat.add_zero]at this;exact⟨b,off,hA,hK,this⟩
set_option maxRecDepth 100000 in
theorem EG (f:Nat) (hf:∀args w,(callFunc f args).run Tryz.prog w= .ok (.enter f args) w) (lb:Array Value) (p:It→Bool) (A:Option Addr) (c:Nat) (l:List (It)) (w:World) (h:ItS w (Old w) (.slice A l.length c) l) (hl:l.length≤1000000000)
 (hp:∀W,Below w.heap.size w W→∀x∈l,Calls Tryz.prog f (#[.agg #[.int .i64 x.a,.int .i64 x.b]]++lb) W fun e W'=>e= .returned (.bool (p x))∧Below W.heap.size W W'):
 Calls Tryz.prog 208 #[.slice A l.length c,.func (.func f) #[] lb] w fun e w'=>e= .returned (.int .i64 (vO p l))∧Below w.heap.size w w':=by
 have hhit:=hide (fun k=>kQ (p:=p) (l:=l) (k:=k));have hnone:=hide (jq (p:=p) (l:=l));replace h:=hide h;replace hp:=hide hp;go_enter Tryz.func208,Tryz.ntmps208;go_wp2_with fail;go_loopw [8] (fun s8 wr=>∃k:Nat,k≤l.length∧s8= .int .i64 k∧Hid (∀j (hj:j<l.length),j<k→p l[j]=false)∧Below w.heap.size w wr) (fun s8 _=>l.length-(intOf s8).toNat);case atStart=>exact⟨0,Nat.zero_le _,by go_num,fun j hj h=>absurd h (by omega),Below.refl _ _⟩
 case round=>
  obtain⟨k,hk,rfl,hall,hb⟩:=hrel;have hk1:(0:Int)≤(k:Int):=Int.natCast_nonneg _;by_cases hlt:k<l.length
  ·have hi2:(k:Int)<(l.length:Int):=(by omega);obtain⟨b,off,rfl,_,d0,d1⟩:=(h.out.below hb).at_ hlt;have hcall:=hide (hp.out _ hb _ (List.getElem_mem hlt));have hh:=hide (fun g=>hhit.out k hlt g hall.out);have hst:Hid (p l[k]=false→∀j (hj:j<l.length),j<k+1→p l[j]=false):=fun g j hj hjk=>by
    by_cases e:j=k
    ·subst e;exact g
    ·exact hall.out j hj (by omega)
   clear hall;generalize l[k]=x at*;go_wp2_with fail;refine hcall.out.mono ?_;rintro e W2 ⟨rfl,hb2⟩;have hb3:=hb.trans (hb2.mono hb.size);cases hpx:p x with
   |true=>
    have hr:=hide (hh.out hpx);clear hpx hh hst hcall;go_wp2;go_ret;exact⟨dV hr.out.symm,hb3⟩
   |false=>
    have hr:=hide (hst.out hpx);clear hpx hh hst hcall;go_wp2;go_roundw;case rel=>exact⟨k+1,by omega,by go_num,hr,hb3⟩
    case measure=>simp[intOf];omega
  ·have hr:=hide (hnone.out fun j hj=>hall.out j hj (by omega));go_wp2;go_ret;exact⟨dV hr.out.symm,hb⟩
theorem qd (f:Nat) (hf:∀args w,(callFunc f args).run Tryz.prog w= .ok (.enter f args) w) (lb:Array Value) (p:It→Bool) (A:Option Addr) (c:Nat) (l:List (It)) (w:World) (h:ItS w (Old w) (.slice A l.length c) l) (hl:l.length≤1000000000)
 (hp:∀W,Below w.heap.size w W→∀x∈l,Calls Tryz.prog f (#[.agg #[.int .i64 x.a,.int .i64 x.b]]++lb) W fun e W'=>e= .returned (.bool (p x))∧Below W.heap.size W W'):
 Calls Tryz.prog 206 #[.slice A l.length c,.func (.func f) #[] lb] w fun e w'=>e= .returned (.bool (l.any p))∧Below w.heap.size w w':=by
 have hd:=hide (kS p l);have hcall:=hide (EG f hf lb p A c l w h hl hp);clear hp hf h;go_enter Tryz.func206,Tryz.ntmps206;go_wp2_with fail;refine hcall.out.mono ?_;rintro e w1 ⟨rfl,hb⟩;clear hcall;go_wp2;go_ret;exact⟨by rw[←hd.out];rfl,hb⟩
set_option maxRecDepth 100000 in
theorem EH (f:Nat) (hf:∀args w,(callFunc f args).run Tryz.prog w= .ok (.enter f args) w) (lb:Array Value) (p:Cho→Bool) (A:Option Addr) (c:Nat) (l:List (Cho)) (w:World) (h:aV w (Old w) (.slice A l.length c) l) (hl:l.length≤1000000000)
 (hp:∀W,Below w.heap.size w W→∀x∈l,Calls Tryz.prog f (#[.agg #[.int .i64 x.key,.int .i64 x.a,.int .i64 x.b]]++lb) W fun e W'=>e= .returned (.bool (p x))∧Below W.heap.size W W'):
 Calls Tryz.prog 213 #[.slice A l.length c,.func (.func f) #[] lb] w fun e w'=>e= .returned (.int .i64 (vO p l))∧Below w.heap.size w w':=by
 have hhit:=hide (fun k=>kQ (p:=p) (l:=l) (k:=k));have hnone:=hide (jq (p:=p) (l:=l));replace h:=hide h;replace hp:=hide hp;go_enter Tryz.func213,Tryz.ntmps213;go_wp2_with fail;go_loopw [8] (fun s8 wr=>∃k:Nat,k≤l.length∧s8= .int .i64 k∧Hid (∀j (hj:j<l.length),j<k→p l[j]=false)∧Below w.heap.size w wr) (fun s8 _=>l.length-(intOf s8).toNat);case atStart=>exact⟨0,Nat.zero_le _,by go_num,fun j hj h=>absurd h (by omega),Below.refl _ _⟩
 case round=>
  obtain⟨k,hk,rfl,hall,hb⟩:=hrel;have hk1:(0:Int)≤(k:Int):=Int.natCast_nonneg _;by_cases hlt:k<l.length
  ·have hi2:(k:Int)<(l.length:Int):=(by omega);obtain⟨b,off,rfl,_,d0,d1,d2⟩:=(h.out.below hb).at_ hlt;have hcall:=hide (hp.out _ hb _ (List.getElem_mem hlt));have hh:=hide (fun g=>hhit.out k hlt g hall.out);have hst:Hid (p l[k]=false→∀j (hj:j<l.length),j<k+1→p l[j]=false):=fun g j hj hjk=>by
    by_cases e:j=k
    ·subst e;exact g
    ·exact hall.out j hj (by omega)
   clear hall;generalize l[k]=x at*;go_wp2_with fail;refine hcall.out.mono ?_;rintro e W2 ⟨rfl,hb2⟩;have hb3:=hb.trans (hb2.mono hb.size);cases hpx:p x with
   |true=>
    have hr:=hide (hh.out hpx);clear hpx hh hst hcall;go_wp2;go_ret;exact⟨dV hr.out.symm,hb3⟩
   |false=>
    have hr:=hide (hst.out hpx);clear hpx hh hst hcall;go_wp2;go_roundw;case rel=>exact⟨k+1,by omega,by go_num,hr,hb3⟩
    case measure=>simp[intOf];omega
  ·have hr:=hide (hnone.out fun j hj=>hall.out j hj (by omega));go_wp2;go_ret;exact⟨dV hr.out.symm,hb⟩
theorem y5 (f:Nat) (hf:∀args w,(callFunc f args).run Tryz.prog w= .ok (.enter f args) w) (lb:Array Value) (p:Cho→Bool) (A:Option Addr) (c:Nat) (l:List (Cho)) (w:World) (h:aV w (Old w) (.slice A l.length c) l) (hl:l.length≤1000000000)
 (hp:∀W,Below w.heap.size w W→∀x∈l,Calls Tryz.prog f (#[.agg #[.int .i64 x.key,.int .i64 x.a,.int .i64 x.b]]++lb) W fun e W'=>e= .returned (.bool (p x))∧Below W.heap.size W W'):
 Calls Tryz.prog 210 #[.slice A l.length c,.func (.func f) #[] lb] w fun e w'=>e= .returned (.bool (l.any p))∧Below w.heap.size w w':=by
 have hd:=hide (kS p l);have hcall:=hide (EH f hf lb p A c l w h hl hp);clear hp hf h;go_enter Tryz.func210,Tryz.ntmps210;go_wp2_with fail;refine hcall.out.mono ?_;rintro e w1 ⟨rfl,hb⟩;clear hcall;go_wp2;go_ret;exact⟨by rw[←hd.out];rfl,hb⟩
set_option maxRecDepth 100000 in
theorem EI (f:Nat) (hf:∀args w,(callFunc f args).run Tryz.prog w= .ok (.enter f args) w) (lb:Array Value) (p:Value×Bool→Bool) (A:Option Addr) (c:Nat) (l:List (Value×Bool)) (w:World) (h:xZ w (Old w) (.slice A l.length c) l) (hl:l.length≤1000000000)
 (hp:∀W,Below w.heap.size w W→∀x∈l,Calls Tryz.prog f (#[x.1]++lb) W fun e W'=>e= .returned (.bool (p x))∧Below W.heap.size W W'):
 Calls Tryz.prog 187 #[.slice A l.length c,.func (.func f) #[] lb] w fun e w'=>e= .returned (.int .i64 (vO p l))∧Below w.heap.size w w':=by
 have hhit:=hide (fun k=>kQ (p:=p) (l:=l) (k:=k));have hnone:=hide (jq (p:=p) (l:=l));replace h:=hide h;replace hp:=hide hp;go_enter Tryz.func187,Tryz.ntmps187;go_wp2_with fail;go_loopw [8] (fun s8 wr=>∃k:Nat,k≤l.length∧s8= .int .i64 k∧Hid (∀j (hj:j<l.length),j<k→p l[j]=false)∧Below w.heap.size w wr) (fun s8 _=>l.length-(intOf s8).toNat);case atStart=>exact⟨0,Nat.zero_le _,by go_num,fun j hj h=>absurd h (by omega),Below.refl _ _⟩
 case round=>
  obtain⟨k,hk,rfl,hall,hb⟩:=hrel;have hk1:(0:Int)≤(k:Int):=Int.natCast_nonneg _;by_cases hlt:k<l.length
  ·have hi2:(k:Int)<(l.length:Int):=(by omega);obtain⟨b,off,rfl,_,d0⟩:=(h.out.below hb).at_ hlt;have hcall:=hide (hp.out _ hb _ (List.getElem_mem hlt));have hh:=hide (fun g=>hhit.out k hlt g hall.out);have hst:Hid (p l[k]=false→∀j (hj:j<l.length),j<k+1→p l[j]=false):=fun g j hj hjk=>by
    by_cases e:j=k
    ·subst e;exact g
    ·exact hall.out j hj (by omega)
   clear hall;generalize l[k]=x at*;go_wp2_with fail;refine hcall.out.mono ?_;rintro e W2 ⟨rfl,hb2⟩;have hb3:=hb.trans (hb2.mono hb.size);cases hpx:p x with
   |true=>
    have hr:=hide (hh.out hpx);clear hpx hh hst hcall;go_wp2;go_ret;exact⟨dV hr.out.symm,hb3⟩
   |false=>
    have hr:=hide (hst.out hpx);clear hpx hh hst hcall;go_wp2;go_roundw;case rel=>exact⟨k+1,by omega,by go_num,hr,hb3⟩
    case measure=>simp[intOf];omega
  ·have hr:=hide (hnone.out fun j hj=>hall.out j hj (by omega));go_wp2;go_ret;exact⟨dV hr.out.symm,hb⟩
theorem y7 (f:Nat) (hf:∀args w,(callFunc f args).run Tryz.prog w= .ok (.enter f args) w) (lb:Array Value) (p:Value×Bool→Bool) (A:Option Addr) (c:Nat) (l:List (Value×Bool)) (w:World) (h:xZ w (Old w) (.slice A l.length c) l) (hl:l.length≤1000000000)
 (hp:∀W,Below w.heap.size w W→∀x∈l,Calls Tryz.prog f (#[x.1]++lb) W fun e W'=>e= .returned (.bool (p x))∧Below W.heap.size W W'):
 Calls Tryz.prog 184 #[.slice A l.length c,.func (.func f) #[] lb] w fun e w'=>e= .returned (.bool (l.any p))∧Below w.heap.size w w':=by
 have hd:=hide (kS p l);have hcall:=hide (EI f hf lb p A c l w h hl hp);clear hp hf h;go_enter Tryz.func184,Tryz.ntmps184;go_wp2_with fail;refine hcall.out.mono ?_;rintro e w1 ⟨rfl,hb⟩;clear hcall;go_wp2;go_ret;exact⟨by rw[←hd.out];rfl,hb⟩
set_option maxHeartbeats 4000000
theorem uj(A:Option Addr)(c:Nat)(H:List Txn)(hn:aA H)(t key:Int)(Bh:Nat)(w:World)(h:aC w (Old w) (.slice A H.length c) H)(hBh:w.cell? ⟨Bh,0,none⟩=some (.slice A H.length c)):
 Calls Tryz.prog 77 #[.int .i64 t,.int .i64 key,.pointer (some ⟨Bh,0,none⟩)] w fun e w'=>e= .returned (.bool (wrB H t key))∧w=w':=by
 have hlen:=hn.1;by_cases h0:0≤t
 ·have h0b:decide (t≥0)=true:=(by simpa using h0);by_cases h1:t<(H.length:Int)
  ·obtain⟨m,rfl⟩:∃m:Nat,t=m:=⟨t.toNat,by omega⟩;have hm:m<H.length:=(by omega);have hr:=hide (mZ (key:=key) hm);rw[aQ hm]at hr;obtain⟨b,off,Aw,cw,Ar,cr,rfl,_,d0,d1,d2,hws,_⟩:=aC.at_ h hm;have hwl:=(hn.2 _ (List.getElem_mem hm)).1;generalize H[m]=x at*;obtain⟨ts,ws,rs⟩:=x;dsimp only at*;have hm1:decide (m<H.length)=true:=(by simpa using hm);have hm2:(0:Int)≤(m:Int):=Int.natCast_nonneg _;replace hn:=hide hn;clear h h0;go_enter Tryz.func77,Tryz.ntmps77;go_wp2_with fail;refine(fO Aw cw ws key _ _ hws (by unfold maxLen;omega)).mono ?_;rintro e w3 ⟨rfl,rfl⟩;generalize ws.contains key=cb at*;go_wp2;go_ret;exact⟨by rw[hr.out];rfl,rfl⟩
  ·have hr:wrB H t key=false:=(by unfold wrB;simp;intro _ e;exact absurd e h1);have h1b:decide (t<(H.length:Int))=false:=(by simpa using h1);rw[hr];replace hn:=hide hn;clear h h0 h1 hr;go_enter Tryz.func77,Tryz.ntmps77;go_wp2;go_ret;exact⟨rfl,rfl⟩
 ·have hr:wrB H t key=false:=(by unfold wrB;simp;intro e;exact absurd e h0);have h0b:decide (t≥0)=false:=(by simpa using h0);rw[hr];replace hn:=hide hn;clear h h0 hr;go_enter Tryz.func77,Tryz.ntmps77;go_wp2;go_ret;exact⟨rfl,rfl⟩
theorem KP(A:Option Addr)(c:Nat)(H:List Txn)(hn:aA H)(x:Cho)(Bh Bf:Nat)(w:World)(h:aC w (Old w) (.slice A H.length c) H)(hBh:w.cell? ⟨Bh,0,none⟩=some (.slice A H.length c))(hBf:w.cell? ⟨Bf,0,none⟩=some (.func (.func 77) #[] #[.pointer (some ⟨Bh,0,none⟩)])):
 Calls Tryz.prog 80 #[.agg #[.int .i64 x.key,.int .i64 x.a,.int .i64 x.b],.pointer (some ⟨Bf,0,none⟩)] w fun e w'=>e= .returned (.bool (!dh H x))∧Below w.heap.size w w':=by
 obtain⟨key,a,b⟩:=x;dsimp only;obtain⟨W0,hW0⟩:∃W0,w.alloc (.cells #[.int .i64 key,.int .i64 a,.int .i64 b] 62)=W0:=⟨_,rfl⟩;have hB:=ah (Below.refl w.heap.size w) hW0 (Nat.le_refl _);have k0:=Blk.newEq hW0;have Ub:=(hB.cell (p:=⟨Bh,0,none⟩) (block_lt_of_cell hBh)).trans hBh;have Xl:=(hB.cell (p:=⟨Bf,0,none⟩) (block_lt_of_cell hBf)).trans hBf;have h2:=hide (h.below hB);have c0:=Blk.n0 k0;have c1:=Blk.n1 k0;have c2:=Blk.n2 k0;replace hn:=hide hn;clear h hBh hBf;by_cases h0:a=b
 ·have hr:dh H ⟨key,a,b⟩=false:=(by unfold dh;simp[h0]);have h0b:(a==b)=true:=(by simpa using h0);rw[hr];clear h0 hr;go_enter Tryz.func80,Tryz.ntmps80;go_wp2;go_ret;exact⟨rfl,hB⟩
 ·have hr:dh H ⟨key,a,b⟩=(wrB H a key&&wrB H b key):=(by unfold dh;simp[h0]);have h0b:(a==b)=false:=(by simpa using h0);rw[hr];clear h0 hr;go_enter Tryz.func80,Tryz.ntmps80;go_wp2_with fail;clear hW0;refine(uj A c H hn.out a key Bh _ h2.out Ub).mono ?_;rintro e w1 ⟨rfl,rfl⟩;cases hw:wrB H a key with
  |false=>
   replace hw:=hide hw;go_wp2;go_ret;exact⟨by rw[hw.out];rfl,hB⟩
  |true=>
   replace hw:=hide hw;go_wp2_with fail;refine(uj A c H hn.out b key Bh _ h2.out Ub).mono ?_;rintro e w1 ⟨rfl,rfl⟩;go_wp2;go_ret;exact⟨by rw[hw.out];rfl,hB⟩
set_option maxRecDepth 100000 in
theorem jF(A:Option Addr)(c:Nat)(H:List Txn)(Al:Option Addr)(cl:Nat)(l:List Cho)(w:World)(h:aC w (Old w) (.slice A H.length c) H)(hn:aA H)(hl:aV w (Old w) (.slice Al l.length cl) l)(hln:l.length≤1000000000):
 Calls Tryz.prog 37 #[.agg #[.slice A H.length c],.slice Al l.length cl] w fun e w'=>e= .returned (.bool (dR H l))∧Below w.heap.size w w':=by
 obtain⟨W0,hW0⟩:∃W0,w.alloc (.cells #[.slice A H.length c] 24)=W0:=⟨_,rfl⟩;have hB:=ah (Below.refl w.heap.size w) hW0 (Nat.le_refl _);have k0:=Blk.newEq hW0;have h2:=hide (h.below hB);have hl2:=hide (hl.below hB);have c0:=Blk.n0 k0;replace hn:=hide hn;have hs0:=aB hW0;replace hs0:=hide hs0;have hrc:Hid (dR H l=(aG H&&decide (l.length≤20000)&&l.all (dh H))):=hide rfl;have hal:Hid (l.all (dh H)= !(l.any fun x=> !dh H x)):=hide (by rw[Bool.eq_iff_iff];simp);clear h hl;go_enter Tryz.func37,Tryz.ntmps37;go_wp2_with fail;clear hW0 c0;refine(gL A c H _ h2.out hn.out).mono ?_;rintro e w1 ⟨rfl,hb1⟩;replace k0:=k0.below hb1 k0.lt;have hT1:=hide (h2.out.below hb1);have hC1:=hide (hl2.out.below hb1);have hb:=hB.trans (hb1.mono hB.size);clear hb1 hB h2 hl2;cases hr:aG H with
 |false=>
  rw[hr]at hrc;clear hr;go_wp2;go_ret;exact⟨by rw[hrc.out];rfl,hb⟩
 |true=>
  rw[hr]at hrc;clear hr;by_cases hm:l.length≤20000
  ·have hm1:decide ((l.length:Int)>20000)=false:=(by simp;omega);have hm2:decide (l.length≤20000)=true:=(by simpa using hm);rw[hm2]at hrc;obtain⟨W2,hW2⟩:∃W2,w1.alloc (.cells #[.func (.func 77) #[] #[.pointer (some ⟨w.heap.size,0,none⟩)]] 138)=W2:=⟨_,rfl⟩;have hB2:=ah (Below.refl w1.heap.size w1) hW2 (Nat.le_refl _);have kF:=Blk.newEq hW2;have hT2:=hT1.out.below hB2;have hC2:=hC1.out.below hB2;have k02:=k0.av hW2;have hb2:=hb.trans (hB2.mono hb.size);have hcall:=hide (Ba 80 (enters_of Tryz.func80 (by kernel_rfl) rfl) #[.pointer (some ⟨w1.heap.size,0,none⟩)] (fun x=> !dh H x) Al cl l W2 hC2 (by omega) (fun W hbW x _=>
    KP A c H hn.out x w.heap.size w1.heap.size W (hT2.below hbW) (by have:=(k02.below hbW k02.lt).cell 0;simpa using this) (by have:=(kF.below hbW kF.lt).cell 0;simpa using this)))
   clear hm hm2 hB2 kF hT1 hC1 hT2 hC2 k0 k02;go_wp2_with fail;clear hW2;refine hcall.out.mono ?_;rintro e w3 ⟨rfl,hb3⟩;have hb4:=hb2.trans (hb3.mono hb2.size);clear hcall;go_wp2;go_ret;exact⟨by rw[hrc.out,hal.out];simp,hb4⟩
  ·have hm1:decide ((l.length:Int)>20000)=true:=(by simp;omega);have hm2:decide (l.length≤20000)=false:=(by simpa using hm);rw[hm2]at hrc;clear hm hm2;go_wp2;go_ret;exact⟨by rw[hrc.out];rfl,hb⟩
set_option maxHeartbeats 1000000
theorem EJ(s i:Nat):decide (s/2^i%2=1)=s.testBit i:=by
 rw[Nat.testBit_eq_decide_div_mod_eq]
theorem RV{i:Nat}(h:i≤63):2^i≤9223372036854775808:=by
 have:=Nat.pow_le_pow_right (n:=2) (by decide) h;simpa using this
theorem NT{s i:Nat}(hs:s<18446744073709551616)(hi:i≤63)(h:s.testBit i=false):s+2^i=s|||2^i:=by
 have hp:=RV hi;have hand:BitVec.ofNat 65 s&&&BitVec.ofNat 65 (2^i)=0#65:=by
  refine BitVec.eq_of_toNat_eq ?_;rw[BitVec.toNat_and,BitVec.toNat_ofNat,BitVec.toNat_ofNat,Nat.mod_eq_of_lt (by omega),Nat.mod_eq_of_lt (by omega)];refine Nat.eq_of_testBit_eq fun j=> ?_;rw[Nat.testBit_and,Nat.testBit_two_pow];by_cases e:i=j
  ·subst e;simp[h]
  ·simp[e]
 have h1:=congrArg BitVec.toNat (BitVec.add_eq_or_of_and_eq_zero _ _ hand);have e1:(BitVec.ofNat 65 s).toNat=s:=(by rw[BitVec.toNat_ofNat];exact Nat.mod_eq_of_lt (by omega));have e2:(BitVec.ofNat 65 (2^i)).toNat=2^i:=(by rw[BitVec.toNat_ofNat];exact Nat.mod_eq_of_lt (by omega));rw[BitVec.toNat_add,BitVec.toNat_or,e1,e2,Nat.mod_eq_of_lt (by omega)]at h1;exact h1
def pow2(n:Nat):Nat:=2^n
theorem qN(i:Int)(w:World):Calls Tryz.prog 143 #[.int .i64 i] w fun e w'=>e= .returned (.bool (decide (0≤i)&&decide (i≤63)))∧w=w':=by
 by_cases h0:0≤i
 ·have h1:decide (i≥0)=true:=(by simpa using h0);have h2:decide (0≤i)=true:=(by simpa using h0);go_enter Tryz.func143,Tryz.ntmps143;go_wp2;go_ret;exact⟨by simp[h2],rfl⟩
 ·have h1:decide (i≥0)=false:=(by simpa using h0);have h2:decide (0≤i)=false:=(by simpa using h0);clear h0;go_enter Tryz.func143,Tryz.ntmps143;go_wp2;go_ret;exact⟨by simp[h2],rfl⟩
theorem y8(n:Nat)(hn:n≤63)(w:World):Calls Tryz.prog 144 #[.int .i64 (n:Int)] w fun e w'=>e= .returned (.int .u64 (pow2 n:Nat))∧w=w':=by
 go_enter Tryz.func144,Tryz.ntmps144;go_wp2
 go_loop [3,4] (fun s3 s4=>∃k:Nat,k≤n∧s4= .int .i64 k∧∃x:Nat,s3= .int .u64 x∧Hid (x=pow2 k)) (fun _ s4=>n-(intOf s4).toNat)
 case atStart=>exact⟨0,Nat.zero_le _,by go_num,1,by go_num,hide rfl⟩
 case round=>
  obtain⟨k,hk,rfl,x,rfl,hx⟩:=hrel;have hk1:(0:Int)≤(k:Int):=Int.natCast_nonneg _;by_cases hlt:k<n
  ·have hx2:x≤9223372036854775807:=by
    rw[hx.out];unfold pow2;have:=Nat.pow_lt_pow_right (a:=2) (by decide) (show k<63 by omega);have h63:(2:Nat)^63=9223372036854775808:=(by decide);omega
   have hxs:Hid (x+x=pow2 (k+1)):=hide (by rw[hx.out];unfold pow2;rw[Nat.pow_succ];omega);replace hx:=hide hx;have hwr:IntKind.u64.wrap ((x:Int)+(x:Int))=((x+x:Nat):Int):=(by rw[IntKind.wrap_u64];omega);go_wp2
   go_round
   case rel=>exact⟨k+1,by omega,by go_num,x+x,by go_num,hxs⟩
   case measure=>simp[intOf];omega
  ·obtain rfl:k=n:=(by omega);go_wp2;go_ret;exact⟨by rw[hx.out];rfl,rfl⟩
theorem nQ(s:Nat)(hs:s<18446744073709551616)(i:Int)(w:World):Calls Tryz.prog 111 #[.int .u64 s,.int .i64 i] w fun e w'=>e= .returned (.bool (Go.Inq.hasB s i))∧w=w':=by
 by_cases hi:0≤i∧i≤63
 ·obtain⟨n,rfl⟩:∃n:Nat,i=n:=⟨i.toNat,by omega⟩;have hn:n≤63:=(by omega);have hb:(decide ((0:Int)≤(n:Int))&&decide ((n:Int)≤63))=true:=(by simp;omega);have hr:=hide (pQ s n);have hq:=hide (EJ s n);clear hi;go_enter Tryz.func111,Tryz.ntmps111;go_wp2_with fail;refine(qN (n:Int) _).mono ?_;rw[hb];rintro e w1 ⟨rfl,rfl⟩;go_wp2_with fail;refine(y8 n hn _).mono ?_;rintro e w1 ⟨rfl,rfl⟩;have hp:Hid (pow2 n=2^n):=hide rfl;have hp0:0<pow2 n:=Nat.two_pow_pos n;generalize pow2 n=p at*;have hp1:((p:Int)==0)=false:=(by rw[beq_eq_false_iff_ne];omega);have hw:Hid (IntKind.u64.wrap ((s:Int)/(p:Int))=((s/p:Nat):Int)):=hide (by
   have h1:s/p≤s:=Nat.div_le_self _ _;have e:(s:Int)/(p:Int)=((s/p:Nat):Int):=(Int.natCast_ediv s p).symm;rw[e];generalize s/p=q at*;rw[IntKind.wrap_u64];omega)
  go_wp2;go_ret;refine⟨bE ?_,rfl⟩;rw[hr.out,←hq.out,←hp.out,hw.out];generalize s/p=q;rw[Int.tmod_eq_emod_of_nonneg (Int.natCast_nonneg _),Bool.eq_iff_iff];simp;omega
 ·have hb:(decide (0≤i)&&decide (i≤63))=false:=by
   rw[Bool.and_eq_false_iff];simp;omega
  have hr:Hid (Go.Inq.hasB s i=false):=hide (by
   unfold Go.Inq.hasB;by_cases h0:0≤i
   ·rw[Nat.testBit_lt_two_pow (Nat.lt_of_lt_of_le hs (by
     have:(2:Nat)^64≤2^i.toNat:=Nat.pow_le_pow_right (by decide) (by omega);omega))]
    simp
   ·simp[h0])
  clear hi;go_enter Tryz.func111,Tryz.ntmps111;go_wp2_with fail;refine(qN i _).mono ?_;rw[hb];rintro e w1 ⟨rfl,rfl⟩;go_wp2;go_ret;exact⟨by rw[hr.out];rfl,rfl⟩
theorem eD(s:Nat)(hs:s<18446744073709551616)(i:Int)(w:World):Calls Tryz.prog 106 #[.int .u64 s,.int .i64 i] w fun e w'=>e= .returned (.int .u64 (eZ s i:Nat))∧w=w':=by
 cases hh:Go.Inq.hasB s i with
 |true=>
  have hr:Hid (eZ s i=s):=hide (by
   unfold Go.Inq.hasB at hh;rw[Bool.and_eq_true,decide_eq_true_eq]at hh;unfold eZ qR;by_cases h:i<64
   ·rw[if_pos ⟨hh.1,h⟩];refine Nat.eq_of_testBit_eq fun j=> ?_;rw[Nat.testBit_or,Nat.testBit_two_pow];by_cases e:i.toNat=j
    ·subst e;simp[hh.2]
    ·simp[e]
   ·rw[if_neg (by omega),Nat.or_zero])
  have hc:=hide (nQ s hs i);rw[hh]at hc;replace hh:=hide hh;go_enter Tryz.func106,Tryz.ntmps106;go_wp2_with fail;refine(hc.out _).mono ?_;rintro e w1 ⟨rfl,rfl⟩;go_wp2;go_ret;exact⟨by rw[hr.out];rfl,rfl⟩
 |false=>
  have hc:=hide (nQ s hs i);rw[hh]at hc;by_cases hi:0≤i∧i≤63
  ·obtain⟨n,rfl⟩:∃n:Nat,i=n:=⟨i.toNat,by omega⟩;have hn:n≤63:=(by omega);have hb:(decide ((0:Int)≤(n:Int))&&decide ((n:Int)≤63))=true:=(by simp;omega);have hbit:s.testBit n=false:=(by rw[←pQ];exact hh);have hadd:=NT hs hn hbit;have hr:Hid (eZ s (n:Int)=s+pow2 n):=hide (by unfold eZ;rw[Dh (by omega) (by omega),Int.toNat_natCast,←hadd];rfl);have hlt:s+pow2 n<18446744073709551616:=(by rw[←hr.out];exact Nn hs _);replace hadd:=hide hadd;clear hi hh hbit;go_enter Tryz.func106,Tryz.ntmps106;go_wp2_with fail;refine(hc.out _).mono ?_;rintro e w1 ⟨rfl,rfl⟩;go_wp2_with fail;refine(qN (n:Int) _).mono ?_;rw[hb];rintro e w1 ⟨rfl,rfl⟩;go_wp2_with fail;refine(y8 n hn _).mono ?_;rintro e w1 ⟨rfl,rfl⟩;generalize pow2 n=p at*;have hw:IntKind.u64.wrap ((s:Int)+(p:Int))=((s+p:Nat):Int):=(by rw[IntKind.wrap_u64];omega);go_wp2;go_ret;exact⟨by rw[hr.out];first|rfl|simp,rfl⟩
  ·have hb:(decide (0≤i)&&decide (i≤63))=false:=by
    rw[Bool.and_eq_false_iff];simp;omega
   have hr:Hid (eZ s i=s):=hide (by unfold eZ qR;rw[if_neg (by omega),Nat.or_zero]);clear hi hh;go_enter Tryz.func106,Tryz.ntmps106;go_wp2_with fail;refine(hc.out _).mono ?_;rintro e w1 ⟨rfl,rfl⟩;go_wp2_with fail;refine(qN i _).mono ?_;rw[hb];rintro e w1 ⟨rfl,rfl⟩;go_wp2;go_ret;exact⟨by rw[hr.out];rfl,rfl⟩
set_option maxHeartbeats 2000000
theorem JJ:(Tryz.prog.info? 116).map (fun i=>(i.zero,i.size,i.bytes))=some (some (.int .u64 0),1,8):=by kernel_rfl
abbrev KQ:=Nr 116
theorem j4(n:Nat)(hn:n≤64)(w:World):Calls Tryz.prog 91 #[.int .i64 n] w (KQ w n noE):=by
 have hmk:∀W:World,(Instr.makeSlice 76 (.int .i64 (n:Int)) (.int .i64 (n:Int))).run Tryz.prog W= .ok (.slice (some ⟨W.heap.size,0,none⟩) n n) (W.alloc (.cells (madeCells #[.int .u64 0] n) 116)):=
  fun W=>run_make_row' (P:=Tryz.prog) 76 116 (.int .u64 0) 8 Tryz.underlying76 JJ rfl .i64 .i64 n (by omega) (by omega) W
 have h1:decide ((n:Int)<0)=false:=(by simp);have h2:decide ((n:Int)>64)=false:=(by simp;omega);have hno:=hide (Nq n);go_enter Tryz.func91,Tryz.ntmps91;go_wp2;refine bodyPost_ret (v:= .tuple #[.agg #[.int .i64 n,.slice (some ⟨w.heap.size+1,0,none⟩) n n],.int .i64 0]) (by simp[results,Tryz.results91,go_sem]) rfl ?_;refine⟨w.heap.size+1,by omega,rfl,?_,?_⟩
 ·rw[hno.out];have:=Blk.new (w.alloc (.cells #[.int .i64 n,.slice (some ⟨w.heap.size+1,0,none⟩) n n] 78)) 116 (madeCells #[.int .u64 0] n);simpa using this
 ·exact((Below.refl _ _).alloc (Nat.le_refl _) _).alloc (by simp) _
theorem jG(n:Nat)(A:Option Addr)(c:Nat)(E:aj)(K:Nat→Prop)(w:World)(h:GrS w K n A c E)(hK:∀b,K b→b<w.heap.size):
 Calls Tryz.prog 97 #[.agg #[.int .i64 n,.slice A n c]] w fun e w'=>e= .returned (.bool true)∧Below w.heap.size w w':=by
 have h1:decide ((n:Int)≥0)=true:=(by simp);have h2:decide ((n:Int)≤64)=true:=(by have:=h.n64;simp;omega);have hB:Below w.heap.size w (w.alloc (.cells #[.int .i64 n,.slice A n c] 78)):=(Below.refl _ _).alloc (Nat.le_refl _) _;have k0:Blk (w.alloc (.cells #[.int .i64 n,.slice A n c] 78)) w.heap.size 78 #[.int .i64 n,.slice A n c]:=Blk.new _ _ _;have hs:=h.sl.keep (Agree.below hB hK) (fun b hb=>hb);have hx:∀x∈dL n E,x<18446744073709551616:=fun x hx=>Nat.lt_of_lt_of_le (Ea hx) (iF h.n64);have hsub:=hide (Kv h.n64 (l:=dL n E) fun x hx=>Ea hx);have hjl:=hide (yN (l:=dL n E) (n:=64) hx);have hpl:=hide (show 2^n-1<18446744073709551616 by have:=iF h.n64;have:=Nat.two_pow_pos n;omega);have hnn:=hide h.n64;replace hx:=hide hx;replace hs:=hide hs;clear h hK;go_enter Tryz.func97,Tryz.ntmps97;go_wp2;generalize w.alloc (.cells #[.int .i64 n,.slice A n c] 78)=W at*;have c0:=Blk.n0 k0;have c1:=Blk.n1 k0;go_quiet ((first|(go_at_call 96;exact Calls.quiet_of_same ((gI A n c (dL n E) K _ (aU n E) (hs.out.keep (Agree.drewN _ _ _) (fun _ h=>h)) hx.out (by have:=hnn.out;omega)).mono fun _ _ h=>⟨h.1,h.2.symm⟩))|(go_at_call 140;exact Calls.quiet_of_same ((Eo n hnn.out _).mono fun _ _ h=>⟨h.1,h.2.symm⟩))|(go_at_call 60;exact Calls.quiet_of_same ((Ce _ _ hjl.out hpl.out _).mono fun _ _ h=>⟨h.1,h.2.symm⟩))));rw[hsub.out];go_wp2;go_ret;exact⟨rfl,hB.trans ⟨rfl,rfl,rfl,Nat.le_refl _,fun _ _=>rfl⟩⟩
theorem Hg{w:World}{o:Obj}:Below w.heap.size w (w.alloc o):=(Below.refl _ _).alloc (Nat.le_refl _) _
theorem y9(n:Nat)(A A':Option Addr)(c c':Nat)(E E':aj)(K:Nat→Prop)(w:World)(h:GrS w K n A c E)(h':GrS w K n A' c' E')(hK:∀b,K b→b<w.heap.size):
 Calls Tryz.prog 95 #[.agg #[.int .i64 n,.slice A n c],.agg #[.int .i64 n,.slice A' n c']] w fun e w'=>e= .returned (.bool true)∧Below w.heap.size w w':=by
 have hB:Below w.heap.size w ((w.alloc (.cells #[.int .i64 n,.slice A n c] 78)).alloc (.cells #[.int .i64 n,.slice A' n c'] 78)):=Hg.alloc (by simp) _;have k0:Blk ((w.alloc (.cells #[.int .i64 n,.slice A n c] 78)).alloc (.cells #[.int .i64 n,.slice A' n c'] 78)) w.heap.size 78 #[.int .i64 n,.slice A n c]:=(Blk.new _ _ _).alloc _;have k1:Blk ((w.alloc (.cells #[.int .i64 n,.slice A n c] 78)).alloc (.cells #[.int .i64 n,.slice A' n c'] 78)) (w.heap.size+1) 78 #[.int .i64 n,.slice A' n c']:=by
  have:=Blk.new (w.alloc (.cells #[.int .i64 n,.slice A n c] 78)) 78 #[.int .i64 n,.slice A' n c'];simpa using this
 have hg:=hide (h.keep (Agree.below hB hK) (fun b hb=>hb));have hg':=hide (h'.keep (Agree.below hB hK) (fun b hb=>hb));have hK2:∀b,K b→b<((w.alloc (.cells #[.int .i64 n,.slice A n c] 78)).alloc (.cells #[.int .i64 n,.slice A' n c'] 78)).heap.size:=fun b hb=>(by have:=hK b hb;simp;omega);clear h h';replace hK:=hide hK;go_enter Tryz.func95,Tryz.ntmps95;go_wp2_with fail;refine(jG n _ c E K _ hg.out hK2).mono ?_;rintro e w1 ⟨rfl,hb1⟩;have hg2:=hide (hg'.out.keep (Agree.below hb1 hK2) (fun b hb=>hb));have hK3:∀b,K b→b<w1.heap.size:=fun b hb=>Nat.lt_of_lt_of_le (hK2 b hb) hb1.size;replace k0:=k0.below hb1 k0.lt;replace k1:=k1.below hb1 k1.lt;have hb2:=hB.trans (hb1.mono hB.size);have c0:=Blk.n0 k0;have c1:=Blk.n1 k0;have d0:=Blk.n0 k1;have d1:=Blk.n1 k1;clear hg hg' hb1 hB;replace hK2:=hide hK2;go_wp2_with fail;refine(jG n _ c' E' K _ hg2.out hK3).mono ?_;rintro e w3 ⟨rfl,hb3⟩;replace k0:=k0.below hb3 k0.lt;replace k1:=k1.below hb3 k1.lt;have hb4:=hb2.trans (hb3.mono hb2.size);clear c0 c1 d0 d1;have c0:=Blk.n0 k0;have d0:=Blk.n0 k1;clear hb3 hb2;replace hK3:=hide hK3;go_wp2;go_ret;exact⟨rfl,hb4⟩
end Go.Proofs.YtpjechjoijjhpaaGreatDoor
namespace Go.Proofs.YtpjechjoijjhpaaGreatDoor
open Go.RowKit Go.Inq
set_option maxHeartbeats 1000000
theorem own_base'{w:World}{base base':Nat}{e:TypeId}{size n:Nat}{v:Value}{xs:List Value}(h:w.ownsRow base e size v n xs)(hb:base'≤base):w.ownsRow base' e size v n xs:=by
 refine⟨h.1,?_⟩;rcases h.2 with h2|⟨g,cap,cur,hv,hg,r⟩
 ·exact .inl h2
 ·exact .inr ⟨g,cap,cur,hv,Nat.le_trans hb hg,r⟩
end Go.Proofs.YtpjechjoijjhpaaGreatDoor
namespace Go.Proofs.YtpjechjoijjhpaaGreatDoor
open Go.RowKit Go.Inq
set_option maxHeartbeats 4000000
attribute [local go_sem↓] Go.wp_at_zero Go.wp_at_succ
def Hl(w:World)(base:Nat)(v:Value)(l:List Nat):Prop:=w.ownsRow base 116 1 v l.length (l.map xX).flatten
theorem Ho(x:Nat):∀u∈xX x,u.oneCell'=true:=by intro u hu;simp[xX]at hu;subst hu;rfl
theorem Hl.form{w:World}{base:Nat}{v:Value}{l:List Nat}(h:Hl w base v l):∃A c,v= .slice A l.length c:=aW h
def RG(W:World)(base n:Nat)(E:aj)(v:Value):Prop:=
 (n=0∧v= .slice none 0 0)∨∃g cap cur,v= .slice (some ⟨g,0,none⟩) n cap∧base≤g∧Blk W g 116 cur∧n≤cap∧cap≤maxLen∧cur.size=cap∧∀i,i<n→cur[i]?=some (.int .u64 (aX (E i) n:Nat))
theorem RG.mX{W:World}{base n:Nat}{E:aj}{v:Value}(h:Hl W base v (dL n E)):RG W base n E v:=by
 obtain⟨h1,h2⟩:=h;rw[aU]at h2;rcases h2 with⟨h3,h4⟩|⟨g,cap,cur,h3,h4,h5,h6,h7,h8,h9⟩
 ·exact .inl ⟨h4,h3⟩
 ·refine .inr ⟨g,cap,cur,h3,h4,h5,h6,h7,by rw[h8];simp,fun i hi=> ?_⟩;have h10:(cur.toList.take (n*1))[i]?=some (.int .u64 (aX (E i) n:Nat)):=by
   rw[h9];have:∀l:List Nat,(l.map xX).flatten=l.map fun x:Nat=>Value.int .u64 x:=fun l=>by
    induction l with
    |nil=>rfl
    |cons a l ih=>simp[xX]at ih⊢;exact ih
   rw[this,List.getElem?_map,List.getElem?_eq_getElem (by rw[aU];exact hi),gG hi];rfl
  rw[List.getElem?_take]at h10;split at h10
  ·simpa using h10
  ·cases h10
theorem yO(n:Nat):dL n noE=List.replicate n 0:=by
 unfold dL;rw[List.eq_replicate_iff];refine⟨by simp,fun x hx=> ?_⟩;obtain⟨a,_,rfl⟩:=List.mem_map.1 hx;refine Nat.eq_of_testBit_eq fun j=> ?_;rw[aT];simp[noE]
def za(w:World)(n:Nat)(E:aj)(e:Ending)(w':World):Prop:=∃v,e= .returned (.agg #[.int .i64 n,v])∧RG w' w.heap.size n E v∧Below w.heap.size w w'
set_option maxRecDepth 100000 in
theorem jr(n:Nat)(hn:n≤64)(w:World):Calls Tryz.prog 105 #[.int .i64 (n:Int)] w (za w n noE):=by
 obtain⟨iu,hiu,hi1,hi2,hi3⟩:=info_parts JJ;go_enter Tryz.func105,Tryz.ntmps105;go_upto_region 2 with fail;obtain⟨W0,hW0⟩:∃W0,(w.alloc (.cells #[.int .i64 0,.slice none 0 0] 89)).alloc (.cells #[.int .i64 n,.slice none 0 0] 89)=W0:=⟨_,rfl⟩;have hb:=aF hW0;have k1:=Blk.fG hW0;have k2:=Blk.eP hW0;have s0:=size_two hW0;rw[hW0];clear hW0;replace s0:=hide s0;go_wp2_with fail;go_loopw [4] (fun s4 wr=>∃k:Nat,k≤n∧s4= .int .i64 k∧∃v,Blk wr w.heap.size 89 #[.int .i64 0,.slice none 0 0]∧Blk wr (w.heap.size+1) 89 #[.int .i64 n,v]∧Hl wr (w.heap.size+2) v (List.replicate k 0)∧Below w.heap.size w wr) (fun s4 _=>n-(intOf s4).toNat);case atStart=>exact⟨0,Nat.zero_le _,by go_num,_,k1,k2,World.ownsRow_nil _ _ _ _,hb⟩
 case round=>
  obtain⟨k,hk,rfl,v,m1,m2,hown,hbr⟩:=hrel;obtain⟨Wr,rfl⟩:∃Wr,Wr=wr:=⟨_,rfl⟩;have hk1:(0:Int)≤(k:Int):=Int.natCast_nonneg _;obtain⟨A,c,rfl⟩:=Hl.form hown;have c0:=m2.cell 0;have c1:=m2.cell 1;have f1:=m2.frozen 1;have m2l:=m2.lt;simp only[gA,gZ,gS]at c0 c1;by_cases hlt:k<n
  ·have hki:(k:Int)<(n:Int):=(by omega);have hll:(List.replicate k 0).length=k:=List.length_replicate;have hkD:(List.replicate k (0:Nat)).length+1≤maxLen:=(by unfold maxLen;simp;omega);have hkb:((List.replicate k (0:Nat)).length+1)*8≤140737488355328:=(by simp;omega);have hsn:Hid (List.replicate k (0:Nat)++[0]=List.replicate (k+1) 0):=hide (by rw[List.replicate_succ']);clear hll;generalize List.replicate k (0:Nat)=D at*;have hsz:w.heap.size+2≤Wr.heap.size:=(by omega);have jE:∀g,(Value.slice A D.length c).ownBlock=some g→w.heap.size+2≤g:=fun g hg=>(hown.lt g hg).1;replace hown:=hide hown;replace jE:=hide jE;go_upto_region 5 with fail;go_wp2_with (at_builtin;go_loud (refine aN (enc:=xX) rfl (.tmp 13) (.tmp 14) 76 rfl (w.heap.size+2) 116 iu _ 1 8 Tryz.underlying76 hiu hi1 hi2 hi3 rfl (by decide) (.slice A D.length c) D rfl hown.out (fun _=>rfl) 0 _ rfl rfl Ho hkD hkb hsz w w.heap.size (by omega) hbr ?_);intro v1 w6 hown1 hg1 hb1 jN;have j1:=(m1.alloc (.cells #[.int .u64 0] 116)).grown hg1 (fun e=>by have:=jE.out _ e.symm;omega);have j2:=(m2.alloc (.cells #[.int .u64 0] 116)).grown hg1 (fun e=>by have:=jE.out _ e.symm;omega);have d1:=j2.cell 1;have g1:=j2.frozen 1;simp only[gA,gZ,gS]at d1;obtain⟨A6,c6,rfl⟩:=Hl.form hown1);go_roundw;case rel=>
    refine⟨k+1,by omega,by go_num,.slice A6 (D++[0]).length c6,j1.far (p:=⟨w.heap.size+1,1,none⟩) (show w.heap.size≠w.heap.size+1 by omega) _,?_,?_,hb1.setCell (p:=⟨w.heap.size+1,1,none⟩) (by simp) _⟩
    ·have:=j2.aH 1 (.slice A6 (D++[0]).length c6);simpa using this
    ·rw[←hsn.out];exact oQ hown1 (p:=⟨w.heap.size+1,1,none⟩) (fun e=>by have h:=(World.ownsRow.lt hown1 (w.heap.size+1) e).1;omega) _
   case measure=>simp[intOf];omega
  ·obtain rfl:k=n:=(by omega);have d0:=Blk.n0 m1;have d1:=Blk.n1 m1;have g0:=m1.frozen 0;have g1:=m1.frozen 1;rw[List.length_replicate]at hown;have hlr:(List.replicate k (0:Nat)).length=k:=List.length_replicate;have hq:=(m1.aH 0 (.int .i64 k)).aH 1 (.slice A k c);simp only[sA,sZ,sS]at hq;have y0:=Blk.n0 hq;have y1:=Blk.n1 hq;have hO:Hid (Hl Wr (w.heap.size+2) (.slice A k c) (dL k noE)):=hide (by rw[yO];exact hown);replace hlr:=hide hlr;go_wp2_with fail;refine bodyPost_ret (v:= .agg #[.int .i64 k,.slice A k c]) (by simp[results,Tryz.results105,go_sem,y0,y1]) rfl ⟨_,rfl,RG.mX ?_,(hbr.setCell (p:=⟨w.heap.size,0,none⟩) (by simp) _).setCell (p:=⟨w.heap.size,1,none⟩) (by simp) _⟩;have h1:=oQ (oQ hO.out (p:=⟨w.heap.size,0,none⟩) (fun e=>by have h:=(hO.out.lt _ e).1;dsimp only at h;omega) (.int .i64 k)) (p:=⟨w.heap.size,1,none⟩) (fun e=>by have h:=(hO.out.lt _ e).1;dsimp only at h;omega) (.slice A k c);exact own_base' h1 (by omega)
theorem KR{p:Nat→Bool}{n b:Nat}(hb:b<n):Go.Inq.hasB (aX p n) (b:Int)=p b:=by
 rw[pQ,aT];simp[hb]
theorem RG.gr{W:World}{base n:Nat}{E:aj}{v:Value}(h:RG W base n E v)(hn:n≤64){K:Nat→Prop}(hK:∀g,base≤g→g<W.heap.size→K g):∃A c,v= .slice A n c∧GrS W K n A c E:=by
 rcases h with⟨h1,rfl⟩|⟨g,cap,cur,rfl,h2,h3,h4,h5,h6,h7⟩
 ·subst h1;exact⟨none,0,rfl,GrS.zero _ _ _ _ _⟩
 ·refine⟨_,cap,rfl,⟨?_,hn⟩⟩;refine⟨some ⟨g,0,none⟩,cap,(dL n E).map xX,by rw[aU],by rw[aU];exact h4,by simp,fun i cs x g1 g2=> ?_,fun _=>⟨g,0,rfl,hK g h2 h3.lt,fun i j cs u g1 g2=> ?_⟩⟩
  ·rw[List.getElem?_map,g2]at g1;injection g1 with g1
   exact⟨by rw[←g1];rfl,g1.symm⟩
  ·rw[List.getElem?_map]at g1;cases hx:(dL n E)[i]? with
   |none=>rw[hx]at g1;cases g1
   |some x=>
    rw[hx]at g1;injection g1 with g1
    subst g1;obtain⟨hi,he⟩:=List.getElem?_eq_some_iff.1 hx;have hi':i<n:=(by rw[aU]at hi;exact hi);rw[gG hi']at he;cases j with
    |succ j=>simp[xX]at g2
    |zero=>
     simp[xX]at g2;subst g2;have:=(h3.cell i).trans (h7 i hi');rw[he]at this;simpa using this
theorem RG.add{W:World}{base n:Nat}{E:aj}{g cap:Nat}(h:RG W base n E (.slice (some ⟨g,0,none⟩) n cap)){x y:Nat}(hx:x<n)(hy:y<n)(hn:n≤64):
 RG (W.setCell ⟨g,x,none⟩ (.int .u64 (eZ (aX (E x) n) (y:Int):Nat))) base n (orE E (gT x y)) (.slice (some ⟨g,0,none⟩) n cap):=by
 rcases h with⟨h1,h2⟩|⟨g',cap',cur,h1,h2,h3,h4,h5,h6,h7⟩
 ·cases h2
 ·simp only[Value.slice.injEq,Option.some.injEq,Addr.mk.injEq,and_true,true_and]at h1;obtain⟨rfl,rfl⟩:=h1;refine .inr ⟨g,cap,_,rfl,h2,h3.aH x _,h4,h5,by simp[h6],fun i hi=> ?_⟩;rw[vI hy hn];by_cases e:i=x
  ·subst e;rw[Array.getElem?_setIfInBounds_self_of_lt (by omega)];congr 3;refine dS fun b hb=> ?_;simp[orE,gT]
  ·rw[Array.getElem?_setIfInBounds_ne (by omega),h7 i hi];congr 3;refine dS fun b hb=> ?_;simp[orE,gT,e]
set_option maxRecDepth 100000 in
theorem gM(n:Nat)(A:Option Addr)(c:Nat)(E:aj)(a b:Nat)(K:Nat→Prop)(w:World)(h:GrS w K n A c E)(hK:∀b,K b→b<w.heap.size)(ha:a<n)(hb:b<n):
 Calls Tryz.prog 69 #[.agg #[.int .i64 n,.slice A n c],.int .i64 (a:Int),.int .i64 (b:Int)] w fun e w'=>e= .returned (.bool (E a b))∧Below w.heap.size w w':=by
 have dK:=h.n64;obtain⟨g,off,rfl,hg,hc⟩:=h.at_ ha;have hgl:=hK _ hg;have hB:Below w.heap.size w (w.alloc (.cells #[.int .i64 n,.slice (some ⟨g,off,none⟩) n c] 89)):=(Below.refl _ _).alloc (Nat.le_refl _) _;have hc2:=(hB.cell (p:=⟨g,off+a,none⟩) hgl).trans hc;have hai:(a:Int)<(n:Int):=(by omega);have ha0:(0:Int)≤(a:Int):=Int.natCast_nonneg _;have hr:=hide (KR (p:=E a) hb);have hs:=fC (p:=E a) dK;generalize aX (E a) n=x at*;clear h;replace hB:=hide hB;go_enter Tryz.func69,Tryz.ntmps69;go_wp2_with fail;refine(nQ x hs (b:Int) _).mono ?_;rw[hr.out];rintro e w1 ⟨rfl,rfl⟩;go_wp2;go_ret;exact⟨rfl,hB.out⟩
theorem EK{p:Nat→Bool}{n b:Nat}(hb:n≤b):Go.Inq.hasB (aX p n) (b:Int)=false:=by
 rw[pQ,aT];simp;omega
set_option maxRecDepth 100000 in
theorem um(n:Nat)(A:Option Addr)(c:Nat)(E:aj)(K:Nat→Prop)(w:World)(h:GrS w K n A c E)(hK:∀b,K b→b<w.heap.size):
 Calls Tryz.prog 67 #[.agg #[.int .i64 n,.slice A n c]] w fun e w'=>e= .returned (.bool true)∧Below w.heap.size w w':=by
 have dK:=h.n64;have hB:Below w.heap.size w (w.alloc (.cells #[.int .i64 n,.slice A n c] 89)):=(Below.refl _ _).alloc (Nat.le_refl _) _;have kG:=Blk.new w 89 #[.int .i64 n,.slice A n c];have hg:=hide (h.keep (Agree.below hB hK) (fun b hb=>hb));have h0:decide ((n:Int)<0)=false:=(by simp);have h1:decide ((n:Int)>64)=false:=(by simp;omega);clear h;go_enter Tryz.func67,Tryz.ntmps67;go_upto_region 1 with fail;generalize w.alloc (.cells #[.int .i64 n,.slice A n c] 89)=W at*;have c0:=Blk.n0 kG;have c1:=Blk.n1 kG;replace hB:=hide hB;clear kG;go_wp2_with fail
 go_loop [3] (fun s3=>∃i:Nat,i≤n∧s3= .int .i64 i) (fun s3=>n-(intOf s3).toNat)
 case atStart=>exact⟨0,Nat.zero_le _,by go_num⟩
 case round=>
  obtain⟨i,hi,rfl⟩:=hrel;have hi1:(0:Int)≤(i:Int):=Int.natCast_nonneg _;by_cases hlt:i<n
  ·have hi2:(i:Int)<(n:Int):=(by omega);obtain⟨g,off,rfl,hgk,hc⟩:=hg.out.at_ hlt;have hs:=fC (p:=E i) dK;have hbe:=hide (fun b hb=>EK (p:=E i) (n:=n) (b:=b) hb);generalize aX (E i) n=x at*;go_wp2_with fail
   go_loop [4] (fun s4=>∃k:Nat,n≤k∧k≤64∧s4= .int .i64 k) (fun s4=>64-(intOf s4).toNat)
   case atStart=>exact⟨n,Nat.le_refl _,dK,rfl⟩
   case round=>
    obtain⟨k,hk,Xm,rfl⟩:=hrel;have hk1:(0:Int)≤(k:Int):=Int.natCast_nonneg _;by_cases hkl:k<64
    ·have hk2:decide ((k:Int)<64)=true:=(by simp;omega);have hf:=hide (hbe.out k hk);go_wp2_with fail;refine(nQ x hs (k:Int) _).mono ?_;rw[hf.out];rintro e w1 ⟨rfl,rfl⟩;go_wp2
     go_round
     case rel=>exact⟨k+1,by omega,by omega,by go_num⟩
     case measure=>simp[intOf];omega
    ·have hk2:decide ((k:Int)<64)=false:=(by simp;omega);go_wp2
     go_round
     case rel=>exact⟨i+1,by omega,by go_num⟩
     case measure=>simp[intOf];omega
  ·obtain rfl:i=n:=(by omega);go_wp2;go_ret;exact⟨rfl,hB.out⟩
end Go.Proofs.YtpjechjoijjhpaaGreatDoor
namespace Go.Proofs.YtpjechjoijjhpaaGreatDoor
open Go.RowKit Go.Inq
theorem aZ{B:Nat}{w w1:World}(h:Below B w w1):Below B w w1.drew:=h.trans ⟨rfl,rfl,rfl,Nat.le_refl _,fun _ _=>rfl⟩
theorem RG.keep{W W':World}{B n:Nat}{E:aj}{v:Value}(h:RG W B n E v)(hk:∀g,B≤g→g<W.heap.size→W'.heap[g]?=W.heap[g]?):RG W' B n E v:=by
 rcases h with h|⟨g,cap,cur,h1,h2,h3,r⟩
 ·exact .inl h
 ·exact .inr ⟨g,cap,cur,h1,h2,(hk g h2 h3.lt).trans h3,r⟩
theorem RG.below{W W':World}{B B' n:Nat}{E:aj}{v:Value}(h:RG W B n E v)(hb:Below B' W W')(hB:W.heap.size≤B'):RG W' B n E v:=h.keep fun g _ hg=>hb.block g (by omega)
theorem RG.alloc{W:World}{B n:Nat}{E:aj}{v:Value}(h:RG W B n E v)(o:Obj):RG (W.alloc o) B n E v:=h.keep fun g _ hg=>Below.heap_alloc W o g hg
theorem RG.far{W:World}{B n:Nat}{E:aj}{v:Value}(h:RG W B n E v){p:Addr}(hp:p.block<B)(u:Value):RG (W.setCell p u) B n E v:=h.keep fun g hg _=>Below.heap_setCell W p u g (by omega)
theorem RG.drew{W:World}{B n:Nat}{E:aj}{v:Value}(h:RG W B n E v):RG W.drew B n E v:=h.keep fun _ _ _=>rfl
theorem RG.base{W:World}{B B' n:Nat}{E:aj}{v:Value}(h:RG W B n E v)(hB:B'≤B):RG W B' n E v:=by
 rcases h with h|⟨g,cap,cur,h1,h2,r⟩
 ·exact .inl h
 ·exact .inr ⟨g,cap,cur,h1,by omega,r⟩
theorem RG.congr{W:World}{base n:Nat}{E F:aj}{v:Value}(h:RG W base n E v)(hE:∀a b,a<n→b<n→E a b=F a b):RG W base n F v:=by
 rcases h with h|⟨g,cap,cur,h1,h2,h3,h4,h5,h6,h7⟩
 ·exact .inl h
 ·exact .inr ⟨g,cap,cur,h1,h2,h3,h4,h5,h6,fun i hi=>by rw[h7 i hi];congr 3;exact dS fun b hb=>hE i b hi hb⟩
structure RGP(W:World)(B p n:Nat)(E:aj)(A:Option Addr)(c:Nat):Prop where
 box:Blk W p 89 #[.int .i64 n,.slice A n c]
 rg:RG W B n E (.slice A n c)
 lt:∀g,A=some g→g.block<p
 n64:n≤64
section
variable{W W':World}{B p n:Nat}{E F:aj}{A:Option Addr}{c:Nat}
theorem RGP.plt(h:RGP W B p n E A c):p<W.heap.size:=h.box.lt
theorem RGP.c0(h:RGP W B p n E A c):W.cell? ⟨p,0,none⟩=some (.int .i64 n):=by simpa using h.box.cell 0
theorem RGP.c1(h:RGP W B p n E A c):W.cell? ⟨p,1,none⟩=some (.slice A n c):=by simpa using h.box.cell 1
theorem RGP.below(h:RGP W B p n E A c){B':Nat}(hb:Below B' W W')(hB:W.heap.size≤B'):RGP W' B p n E A c:=
 ⟨h.box.below hb (Nat.lt_of_lt_of_le h.plt hB),h.rg.below hb hB,h.lt,h.n64⟩
theorem RGP.alloc(h:RGP W B p n E A c)(o:Obj):RGP (W.alloc o) B p n E A c:=⟨h.box.alloc o,h.rg.alloc o,h.lt,h.n64⟩
theorem RGP.drew(h:RGP W B p n E A c):RGP W.drew B p n E A c:=⟨h.box.drew,h.rg.drew,h.lt,h.n64⟩
theorem RGP.drewN(h:RGP W B p n E A c)(k:Nat):RGP (W.drewN k) B p n E A c:=⟨h.box.drewN k,h.rg.keep fun _ _ _=>rfl,h.lt,h.n64⟩
theorem RGP.congr(h:RGP W B p n E A c)(hE:∀a b,a<n→b<n→E a b=F a b):RGP W B p n F A c:=⟨h.box,h.rg.congr hE,h.lt,h.n64⟩
structure RGX(W:World)(B p n x:Nat)(E:aj)(g c:Nat):Prop where
 box:RGP W B p n E (some ⟨g,0,none⟩) c
 c0:W.cell? ⟨p,0,none⟩=some (.int .i64 n)
 c1:W.cell? ⟨p,1,none⟩=some (.slice (some ⟨g,0,none⟩) n c)
 at_:W.cell? ⟨g,x,none⟩=some (.int .u64 (aX (E x) n:Nat))
 fr:W.frozen? ⟨g,x,none⟩=false
 gp:g<p
 gl:g<W.heap.size
 B:B≤g
 h64:aX (E x) n<18446744073709551616
theorem RGP.at_(h:RGP W B p n E A c){x:Nat}(hx:x<n):∃g,A=some ⟨g,0,none⟩∧RGX W B p n x E g c:=by
 rcases h.rg with⟨h1,_⟩|⟨g,cap,cur,h1,h2,h3,h4,h5,h6,h7⟩
 ·omega
 ·simp only[Value.slice.injEq,true_and]at h1;obtain⟨rfl,rfl⟩:=h1;exact⟨g,rfl,h,h.c0,h.c1,(h3.cell x).trans (h7 x hx),h3.frozen x,h.lt _ rfl,h3.lt,h2,fC h.n64⟩
theorem RGX.add{x:Nat}{g:Nat}(h:RGX W B p n x E g c){y:Nat}(hx:x<n)(hy:y<n):
 RGP (W.setCell ⟨g,x,none⟩ (.int .u64 (eZ (aX (E x) n) (y:Int):Nat))) B p n (orE E (gT x y)) (some ⟨g,0,none⟩) c:=
 ⟨h.box.box.far (p:=⟨g,x,none⟩) (Nat.ne_of_gt h.gp) _,h.box.rg.add hx hy h.box.n64,h.box.lt,h.box.n64⟩
end
def eF(E:aj)(x y:Nat):aj:=fun a b=>E a b&&(decide (a<x)||(decide (a=x)&&decide (b<y)))
theorem ze(E:aj):eF E 0 0=noE:=by
 funext a b;simp[eF,noE]
theorem zf{E:aj}{x y:Nat}(h:E x y=true):eF E x (y+1)=orE (eF E x y) (gT x y):=by
 funext a b;unfold eF orE gT;rw[Bool.eq_iff_iff];simp;constructor
 ·rintro⟨h1,h2|⟨h2,h3⟩⟩
  ·exact .inl ⟨h1,.inl h2⟩
  ·rcases Nat.lt_or_ge b y with g|g
   ·exact .inl ⟨h1,.inr ⟨h2,g⟩⟩
   ·exact .inr ⟨h2,by omega⟩
 ·rintro(⟨h1,h2|⟨h2,h3⟩⟩|⟨rfl,rfl⟩)
  ·exact⟨h1,.inl h2⟩
  ·exact⟨h1,.inr ⟨h2,by omega⟩⟩
  ·exact⟨h,.inr ⟨rfl,by omega⟩⟩
theorem sF{E:aj}{x y:Nat}(h:E x y=false):eF E x (y+1)=eF E x y:=by
 funext a b;unfold eF;rw[Bool.eq_iff_iff];simp;intro h1;constructor
 ·rintro(h2|⟨rfl,h3⟩)
  ·exact .inl h2
  ·rcases Nat.lt_or_ge b y with g|g
   ·exact .inr ⟨rfl,g⟩
   ·obtain rfl:b=y:=(by omega);rw[h]at h1;cases h1
 ·rintro(h2|⟨rfl,h3⟩)
  ·exact .inl h2
  ·exact .inr ⟨rfl,by omega⟩
theorem Cn{E:aj}{x n a b:Nat}(hb:b<n):eF E x n a b=eF E (x+1) 0 a b:=by
 unfold eF;rw[Bool.eq_iff_iff];simp;intro _;omega
theorem Co{E:aj}{n a b:Nat}(ha:a<n):eF E n 0 a b=E a b:=by
 unfold eF;simp[ha]
end Go.Proofs.YtpjechjoijjhpaaGreatDoor
