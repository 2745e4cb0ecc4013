/-
  Walks: layer 9: who writes a key, all keys.
-/
import Derived.Lib.OwnBridge
import Derived.Laws.EntriesVeiled
import Derived.Deep.OwnRows
import Derived.StillTailTactics
import Derived.Test.YtfhnamomiaekdaaGreatDoorQ06
import Derived.Test.YtfhnamomiaekdaaGreatDoorQ04
import Derived.Test.YtfhnamomiaekdaaGreatDoorQ01
set_option linter.unusedVariables false
set_option linter.unusedSimpArgs false
namespace Go.Proofs.YtfhnamomiaekdaaGreatDoor
open Go.RowKit Go.Inq
set_option maxHeartbeats 4000000
attribute [local go_sem↓] Go.wp_at_zero Go.wp_at_succ
theorem nQ(l:List Int):(l.map Go.Inq.encI).flatten=l.map (Value.int .i64):=by
 induction l with
 |nil=>rfl
 |cons x r ih=>rw[List.map_cons,List.flatten_cons,ih];rfl
theorem below_grow(w:World)(os:Array Obj):Below w.heap.size w (Go.Sort.grow w os):=
 ⟨rfl,rfl,rfl,by simp[Go.Sort.grow],fun k hk=>by simp[Go.Sort.grow,Array.getElem?_append,hk]⟩
theorem yR(base:Nat)(A:Option Addr)(c:Nat)(l:List Int)(w:World)(h:aV w base (.slice A l.length c) l)(hl:l.length<4611686018427387904):
 Calls Tryz.prog 159 #[.slice A l.length c] w fun e w'=>e= .returned (.tuple #[])∧aV w' base (.slice A l.length c) (l.mergeSort fun x y=>decide (x≤y))∧Below base w w':=by
 unfold aV at h⊢;rw[nQ]at h⊢;by_cases hv:(Value.slice A l.length c)= .slice none 0 0
 ·injection hv with h1 h2 h3
  subst h1 h3;have:l=[]:=List.eq_nil_of_length_eq_zero h2;subst this;refine(Go.Proofs.Tryz.slices_Sort_int_none none 0 w).mono ?_;rintro e w' ⟨rfl,rfl⟩;exact⟨rfl,by rw[List.mergeSort_nil];exact World.ownsRow_nil _ _ _ _,Below.refl _ _⟩
 ·obtain⟨g,cap,hv',hbg,hgl,hn,hm,_,hH⟩:=Go.Lib.holds_of_ownsRow h hv;injection hv' with h1 h2 h3
  subst h1 h3;refine(Go.Proofs.Tryz.slices_Sort_int g 0 c l w hH hgl hl).mono ?_;rintro e w' ⟨rfl,n,os,rfl⟩;have hlen:(l.mergeSort fun x y=>decide (x≤y)).length=l.length:=List.length_mergeSort l;have hr:=Go.Lib.ownsRow_putRow (q:=n) (k:=l.length) h hlen (Nat.le_refl _);rw[List.take_of_length_le (by rw[hlen];exact Nat.le_refl _)]at hr;rw[hlen];have hb2:=Go.Lib.below_putRow (enc:=Value.int .i64) (q:=n) (d:=(l.mergeSort fun x y=>decide (x≤y)).toArray) (Below.refl base w) hbg;have hz:=(hr.lt g rfl).2;exact⟨rfl,own_below hr (below_grow _ os) (Nat.le_refl _),hb2.trans ((below_grow _ os).mono (by omega))⟩
theorem zO(base:Nat)(A:Option Addr)(c:Nat)(l:List Int)(w:World)(h:aV w base (.slice A l.length c) l)(hl:l.length≤1000000000):
 Calls Tryz.prog 184 #[.slice A l.length c] w fun e w'=>∃v,e= .returned v∧aV w' base v (Go.Lib.compact l)∧Below base w w':=by
 unfold aV at h⊢;rw[nQ]at h⊢;by_cases hv:(Value.slice A l.length c)= .slice none 0 0
 ·injection hv with h1 h2 h3
  subst h1 h3;have:l=[]:=List.eq_nil_of_length_eq_zero h2;subst this;refine(Go.Proofs.Tryz.slices_Compact_int_empty none 0 w).mono ?_;rintro e w' ⟨rfl,rfl⟩;exact⟨_,rfl,World.ownsRow_nil _ _ _ _,Below.refl _ _⟩
 ·obtain⟨g,cap,hv',hbg,hgl,hn,hm,_,hH⟩:=Go.Lib.holds_of_ownsRow h hv;injection hv' with h1 h2 h3
  subst h1 h3;refine(Go.Proofs.Tryz.slices_Compact_int g 0 c l w hH (by omega) hn).mono ?_;rintro e w' ⟨rfl,q,rfl⟩;have hk:(Go.Lib.compact l).length≤l.length:=Go.Lib.compact_length_le l;have hlen:(Go.Lib.compact l++List.replicate (l.length-(Go.Lib.compact l).length) 0).length=l.length:=(by simp;omega);have hr:=Go.Lib.ownsRow_putRow (q:=q) (k:=(Go.Lib.compact l).length) h hlen hk;rw[List.take_append_of_le_length (Nat.le_refl _),List.take_length]at hr;exact⟨_,rfl,hr,Go.Lib.below_putRow (enc:=Value.int .i64) (Below.refl base w) hbg⟩
set_option maxRecDepth 100000 in
theorem qK(A:Option Addr)(c:Nat)(H:List Txn)(key:Int)(w:World)(h:av w (Old w) (.slice A H.length c) H)(hn:aC H)(hr:aA H=true):
 Calls Tryz.prog 115 #[.agg #[.slice A H.length c],.int .i64 key] w (vI w (aB (aY H key))):=by
 obtain⟨ii,hii,hi1,hi2,hi3⟩:=info_parts gD;obtain⟨W0,hW0⟩:∃W0,w.alloc (.cells #[.slice A H.length c] 24)=W0:=⟨_,rfl⟩;have hB:=ah (Below.refl w.heap.size w) hW0 (Nat.le_refl _);have k0:=Blk.newEq hW0;have h0:=hide (h.below hB);have hlen:=hn.1;have hwl:=hide (fun i (hi:i<H.length)=>(hn.2 _ (List.getElem_mem hi)).1);replace hn:=hide hn;replace hr:=hide hr;replace h:=hide h;have c0:=Blk.n0 k0;go_enter Tryz.func115,Tryz.ntmps115;go_wp2_with fail;clear hW0 c0;refine(cK A c H _ h0.out hn.out).mono ?_;rintro e w1 ⟨rfl,hb1⟩;rw[hr.out];replace k0:=k0.below hb1 k0.lt;have hb:=hB.trans (hb1.mono hB.size);clear hb1 hB h0;have c0:=Blk.n0 k0;go_wp2_with fail;clear c0 k0;go_loopw [5,14] (fun s5 s14 wr=>∃k:Nat,k≤H.length∧s14= .int .i64 k∧aV wr w.heap.size s5 (aB (dO H key k))∧Below w.heap.size w wr) (fun _ s14 _=>H.length-(intOf s14).toNat);case atStart=>exact⟨0,Nat.zero_le _,by go_num,aV.nil _ _,hb⟩
 case round=>
  clear hb;obtain⟨k,hk,rfl,hown,hb⟩:=hrel;have Dz:(0:Int)≤(k:Int):=Int.natCast_nonneg _;by_cases hlt:k<H.length
  ·have DC:(k:Int)<(H.length:Int):=(by omega);obtain⟨b,off,Aw,cw,Ar,cr,rfl,_,d0,d1,d2,hws,_⟩:=av.at_ (h.out.below hb) hlt;have hwk:=hwl.out k hlt;have hst:=hide (uW H key k);rw[aH hlt]at hst;have hcnt:(dO H key k).length≤k:=Nat.le_trans (List.length_filter_le _ _) (by simp);have uG:=hb.size;obtain⟨Av,cv,rfl⟩:=hown.form;generalize H[k]=t at*;obtain⟨ts,ws,rs⟩:=t;dsimp only at*;have JE:=hide (hws.keep (w':=wr.alloc (.cells #[.int .i64 ts,.slice Aw ws.length cw,.slice Ar rs.length cr] 109)) (Agree.alloc (fun b hb=>hb) _) (fun b h=>h));have hb2:=hb.alloc uG (.cells #[.int .i64 ts,.slice Aw ws.length cw,.slice Ar rs.length cr] 109);have hown2:=hown.alloc (.cells #[.int .i64 ts,.slice Aw ws.length cw,.slice Ar rs.length cr] 109);clear hws;replace hown2:=hide hown2;have hlq:=hide (aF (dO H key k));have hsn:=hide (dX (dO H key k) k);go_wp2_with fail;clear d0 d1 d2;refine(dD Aw cw ws key _ _ JE.out (by unfold maxLen;omega)).mono ?_;rintro e w3 ⟨rfl,rfl⟩;have hsz2:=hb2.size;cases hc:ws.contains key with
   |true=>
    have DF:Hid (dO H key (k+1)=dO H key k++[k]):=hide (by rw[hst.out,hc];rfl);clear hc hst;generalize wr.alloc (.cells #[.int .i64 ts,.slice Aw ws.length cw,.slice Ar rs.length cr] 109)=Wx at*;go_wp2_with (at_builtin;refine bI (enc:=Go.Inq.encI) rfl (.tmp 23) (.tmp 25) 33 rfl w.heap.size 3 ii _ 1 8 Tryz.underlying33 hii hi1 hi2 hi3 rfl (by decide) (.slice Av (aB (dO H key k)).length cv) (aB (dO H key k)) rfl hown2.out (fun _=>rfl) (k:Int) _ rfl rfl Go.Inq.fU (by rw[hlq.out];simp[maxLen];omega) (by rw[hlq.out];omega) hsz2 w w.heap.size (Nat.le_refl _) hb2 ?_;intro v1 w6 hown1 hg1 hb1 oZ);go_roundw;case rel=>exact⟨k+1,by omega,by go_num,by unfold aV;rw[DF.out,hsn.out];exact hown1,hb1⟩
    case measure=>simp[intOf];omega
   |false=>
    have DF:Hid (dO H key (k+1)=dO H key k):=hide (by rw[hst.out,hc];simp);clear hc hst;go_wp2;go_roundw;case rel=>exact⟨k+1,by omega,by go_num,by unfold aV;rw[DF.out];exact hown2.out,hb2⟩
    case measure=>simp[intOf];omega
  ·obtain rfl:k=H.length:=(by omega);go_wp2;go_ret;exact⟨_,rfl,hown,hb⟩
def uH(H:List Txn)(k:Nat):List Int:=((H.take k).map (·.writes)).flatten
theorem yS{H:List Txn}{k:Nat}(h:k<H.length):uH H (k+1)=uH H k++H[k].writes:=by
 unfold uH;rw[List.take_succ_eq_append_getElem h,List.map_append,List.flatten_append];simp
theorem BG{H:List Txn}(h:∀i (hi:i<H.length),H[i].writes.length≤1000000):∀k,k≤H.length→(uH H k).length≤k*1000000
 |0,_=>by simp[uH]
 |k+1,hk=>by
  rw[yS (by omega),List.length_append];have:=BG h k (by omega);have:=h k (by omega);omega
set_option maxRecDepth 100000 in
theorem yT(A:Option Addr)(c:Nat)(H:List Txn)(w:World)(h:av w (Old w) (.slice A H.length c) H)(hn:aC H)(hr:aA H=true):
 Calls Tryz.prog 114 #[.agg #[.slice A H.length c]] w (vI w (bQ H)):=by
 obtain⟨ii,hii,hi1,hi2,hi3⟩:=info_parts gD;obtain⟨W0,hW0⟩:∃W0,w.alloc (.cells #[.slice A H.length c] 24)=W0:=⟨_,rfl⟩;have hB:=ah (Below.refl w.heap.size w) hW0 (Nat.le_refl _);have k0:=Blk.newEq hW0;have h0:=hide (h.below hB);have h32:H.length≤32:=((aD H).1 hr).1;have hwl:=hide (fun i (hi:i<H.length)=>(hn.2 _ (List.getElem_mem hi)).1);have hal:=hide (BG hwl.out);have hkl:Hid (bQ H=Go.Lib.compact ((uH H H.length).mergeSort fun x y=>decide (x≤y))):=hide (by unfold bQ uH;rw[List.take_length]);replace hn:=hide hn;replace hr:=hide hr;replace h:=hide h;have c0:=Blk.n0 k0;go_enter Tryz.func114,Tryz.ntmps114;go_wp2_with fail;clear hW0 c0;refine(cK A c H _ h0.out hn.out).mono ?_;rintro e w1 ⟨rfl,hb1⟩;rw[hr.out];replace k0:=k0.below hb1 k0.lt;have hb:=hB.trans (hb1.mono hB.size);clear hb1 hB h0;have c0:=Blk.n0 k0;go_wp2_with fail;clear c0 k0;go_loopw [3,12] (fun s3 s12 wr=>∃k:Nat,k≤H.length∧s12= .int .i64 k∧aV wr w.heap.size s3 (uH H k)∧Below w.heap.size w wr) (fun _ s12 _=>H.length-(intOf s12).toNat);case atStart=>exact⟨0,Nat.zero_le _,by go_num,aV.nil _ _,hb⟩
 case round=>
  clear hb;obtain⟨k,hk,rfl,hown,hb⟩:=hrel;have Dz:(0:Int)≤(k:Int):=Int.natCast_nonneg _;by_cases hlt:k<H.length
  ·have DC:(k:Int)<(H.length:Int):=(by omega);obtain⟨b,off,Aw,cw,Ar,cr,rfl,_,d0,d1,d2,hws,_⟩:=av.at_ (h.out.below hb) hlt;have hwk:=hwl.out k hlt;have hst:=hide (yS hlt);have hcnt:=hal.out k hk;have uG:=hb.size;obtain⟨Av,cv,rfl⟩:=hown.form;generalize H[k]=t at*;obtain⟨ts,ws,rs⟩:=t;dsimp only at*;have JE:=hide (hws.keep (w':=wr.alloc (.cells #[.int .i64 ts,.slice Aw ws.length cw,.slice Ar rs.length cr] 109)) (Agree.alloc (fun b hb=>hb) _) (fun b h=>h));have hb2:=hb.alloc uG (.cells #[.int .i64 ts,.slice Aw ws.length cw,.slice Ar rs.length cr] 109);have hown2:=hown.alloc (.cells #[.int .i64 ts,.slice Aw ws.length cw,.slice Ar rs.length cr] 109);have hlo:=hide (fun b hb=>(hown.lt b hb).1);clear hws;replace hown2:=hide hown2;generalize uH H k=M at*;go_wp2_with (at_builtin;refine bY (enc:=Go.Inq.encI) rfl (.tmp 16) (.tmp 18) 33 rfl w.heap.size 3 ii _ 1 8 Tryz.underlying33 hii hi1 hi2 hi3 rfl (by decide) (.slice Av M.length cv) (Old wr) M rfl hown2.out (fun _=>rfl) (.slice Aw ws.length cw) ws rfl JE.out Go.Inq.fU (by simp[maxLen];omega) (by omega) (by simp;omega) ?_;intro v1 w6 hown1 hg1 oZ);have hb3:=below_grown hb2 hg1 (by simp;omega) (fun k hk=>hlo.out k hk);go_wp2;go_roundw;case rel=>exact⟨k+1,by omega,by go_num,by unfold aV;rw[hst.out];exact hown1,hb3⟩
   case measure=>simp[intOf];omega
  ·obtain rfl:k=H.length:=(by omega);have hcnt:=hal.out _ hk;obtain⟨Av,cv,rfl⟩:=hown.form;have hMl:(uH H H.length).length<4611686018427387904:=(by omega);have PU:(uH H H.length).length≤1000000000:=(by omega);clear hcnt;generalize uH H H.length=M at*;have BH:=List.length_mergeSort (le:=fun x y:Int=>decide (x≤y)) M;replace BH:=hide BH;have uG:=hb.size;go_wp2_with fail;refine(yR w.heap.size Av cv M _ hown hMl).mono ?_;rintro e w2 ⟨rfl,hown2,hb2⟩;replace hb:=hb.trans hb2;have hs2:Hid (aV w2 w.heap.size (.slice Av (M.mergeSort fun x y=>decide (x≤y)).length cv) (M.mergeSort fun x y=>decide (x≤y))):=hide (by rw[BH.out];exact hown2);clear hown hown2 hb2;go_wp2_with fail;rw[←BH.out];have PV:(M.mergeSort fun x y=>decide (x≤y)).length≤1000000000:=(by rw[BH.out];exact PU);refine(zO w.heap.size Av cv _ _ hs2.out PV).mono ?_;rintro e w3 ⟨v,rfl,hown3,hb3⟩;replace hb:=hb.trans hb3;go_wp2;go_ret;exact⟨_,rfl,by rw[hkl.out];exact hown3,hb⟩
def jD(x:Cho):List Value:=[.int .i64 x.key,.int .i64 x.a,.int .i64 x.b]
theorem mZ:∀(x:Cho),∀u∈jD x,u.oneCell'=true:=by
 intro x u hu;simp[jD]at hu;rcases hu with rfl|rfl|rfl<;>rfl
theorem zP:(Tryz.prog.info? 102).map (fun i=>(i.zero,i.size,i.bytes))=some (some (.agg #[.int .i64 0,.int .i64 0,.int .i64 0]),3,24):=by kernel_rfl
def bg(w:World)(K:Nat→Prop)(v:Value)(l:List Cho):Prop:=SlR 3 (Flat jD) w K v l
section
variable{w w':World}{K K':Nat→Prop}{v:Value}{l:List Cho}
theorem bg.keep(h:bg w K v l)(ha:Agree K w w')(hk:∀b,K b→K' b):bg w' K' v l:=SlR.keep (Flat.aZ _) h ha hk
theorem bg.below(h:bg w (Old w) v l)(hb:Below w.heap.size w w'):bg w' (Old w') v l:=SlR.below (Flat.aZ _) h hb
theorem bg.fit(h:bg w K v l)(hk:∀b,K b→K' b):bg w K' v l:=SlR.fit (Flat.aZ _) h hk
theorem bg.nil(w:World)(K:Nat→Prop)(A:Option Addr)(c:Nat):bg w K (.slice A 0 c) []:=SlR.nil _ _ _ _ _ _
theorem bg.at_{A:Option Addr}{n c:Nat}(h:bg w K (.slice A n c) l){i:Nat}(hi:i<l.length):
 ∃b off,A=some ⟨b,off,none⟩∧K b∧w.cell? ⟨b,off+i*3,none⟩=some (.int .i64 l[i].key)∧w.cell? ⟨b,off+i*3+1,none⟩=some (.int .i64 l[i].a)∧w.cell? ⟨b,off+i*3+2,none⟩=some (.int .i64 l[i].b):=by
 obtain⟨b,off,cs,hA,hK,_,hR,hc⟩:=SlR.at_ h hi;unfold Flat at hR;subst hR;exact⟨b,off,hA,hK,hc 0 _ rfl,hc 1 _ rfl,hc 2 _ rfl⟩
end
def jU(w:World)(base:Nat)(v:Value)(l:List Cho):Prop:=w.ownsRow base 102 3 v l.length (l.map jD).flatten
def OB(w:World)(l:List Cho)(e:Ending)(w':World):Prop:=∃v,e= .returned v∧jU w' w.heap.size v l∧Below w.heap.size w w'
theorem jU.form{w:World}{base:Nat}{v:Value}{l:List Cho}(h:jU w base v l):∃A c,v= .slice A l.length c:=aM h
theorem jU.sl{w:World}{base:Nat}{v:Value}{l:List Cho}(h:jU w base v l){K:Nat→Prop}(hK:∀g,base≤g→g<w.heap.size→K g):bg w K v l:=SlR.of_flat h rfl (fun _=>rfl) hK
theorem jU.nil(w:World)(base:Nat):jU w base (.slice none 0 0) []:=World.ownsRow_nil _ _ _ _
set_option maxRecDepth 100000 in
theorem vN(A:Option Addr)(c:Nat)(H:List Txn)(w:World)(h:av w (Old w) (.slice A H.length c) H)(hn:aC H)(hr:aA H=true):
 Calls Tryz.prog 52 #[.agg #[.slice A H.length c]] w (OB w (bN H)):=by
 obtain⟨ic,hic,hi1,hi2,hi3⟩:=info_parts zP;obtain⟨W0,hW0⟩:∃W0,w.alloc (.cells #[.slice A H.length c] 24)=W0:=⟨_,rfl⟩;have hB:=ah (Below.refl w.heap.size w) hW0 (Nat.le_refl _);have k0:=Blk.newEq hW0;have h0:=hide (h.below hB);have h32:H.length≤32:=((aD H).1 hr).1;have PW:=jI hr;have hpt:=hide (mQ h32);have hstep:=hide (fun k (hk:k<(bQ H).length)=>qE hk);have hall:=hide (tH H);have hs0:=ay hW0;replace hn:=hide hn;replace hr:=hide hr;replace h:=hide h;have c0:=Blk.n0 k0;replace hs0:=hide hs0;go_enter Tryz.func52,Tryz.ntmps52;go_wp2_with fail;clear hW0 c0;refine(yT A c H _ h0.out hn.out hr.out).mono ?_;rintro e wk ⟨vk,rfl,hKO,hbk⟩;obtain⟨Ak,ck,rfl⟩:=hKO.form;have hwW:w.heap.size<W0.heap.size:=(by have:=hs0.out;omega);have hKS:=hide (hKO.sl (K:=fun b=>W0.heap.size≤b∧b<wk.heap.size) (fun g h1 h2=>⟨h1,h2⟩));replace k0:=k0.below hbk k0.lt;have hb:=hB.trans (hbk.mono hB.size);have PX:=hbk.size;clear hbk hB h0 hKO;generalize hKL:bQ H=KL at*;go_wp2_with fail;go_loopw [3,14] (fun s3 s14 wr=>∃k:Nat,k≤KL.length∧s14= .int .i64 k∧jU wr w.heap.size s3 (dF H k)∧Below w.heap.size w wr∧Agree (fun b=>w.heap.size≤b∧b<wk.heap.size) wk wr∧wk.heap.size≤wr.heap.size∧Hid (∀g,s3.ownBlock=some g→wk.heap.size≤g)) (fun _ s14 _=>KL.length-(intOf s14).toNat);case atStart=>exact⟨0,Nat.zero_le _,by go_num,jU.nil _ _,hb,Agree.refl _ _,Nat.le_refl _,hide fun g hg=>by simp[Value.ownBlock]at hg⟩
 case round=>
  clear hb;obtain⟨Wo,rfl⟩:∃Wo,Wo=wr:=⟨_,rfl⟩;obtain⟨k,hk,rfl,hown,hb,hag,Nq,jV⟩:=hrel;have Dz:(0:Int)≤(k:Int):=Int.natCast_nonneg _;by_cases hlt:k<KL.length
  ·have DC:(k:Int)<(KL.length:Int):=(by omega);obtain⟨bk,ok,rfl,_,hck⟩:=(hKS.out.keep (hag.mono fun b hb=>⟨by omega,hb.2⟩) (fun b h=>h)).at_ hlt;have m0:=k0.agree hag ⟨Nat.le_refl _,k0.lt⟩;have hst:=hide (hstep.out k hlt);have hlen:=hpt.out k hk;have c0:=Blk.n0 m0;generalize KL[k]=key at*;go_wp2_with fail;clear c0 hck;refine(qK A c H key _ (h.out.below hb) hn.out hr.out).mono ?_;rintro e wl ⟨vl,rfl,hLO,hbl⟩;have hLn:=mO H key;have hpa:=hide (vg key (aY H key));have hpi:=hide (fun i (hi:i<(aY H key).length)=>Ba key (aY H key) hi);have hpl:=hide (vB key (aY H key));generalize aY H key=L at*;obtain⟨Al,cl,hv⟩:=hLO.form;rw[aF]at hv;subst hv;have hLS:=hide (hLO.sl (K:=fun b=>Wo.heap.size≤b∧b<wl.heap.size) (fun g h1 h2=>⟨h1,h2⟩));have hb2:=hb.trans (hbl.mono hb.size);have LC:=hbl.size;have LD:Agree (fun b=>w.heap.size≤b∧b<wk.heap.size) wk wl:=hag.trans (Agree.below hbl fun b hb=>by omega);have hown2:jU wl w.heap.size _ (dF H k):=own_below hown hbl (Nat.le_refl _);have hlt2:=hide (fun g hg=>(hown.lt g hg).2);clear hLO hbl hb hag hown m0;go_wp2_with fail;go_loopw [3,23] (fun s3 s23 wq=>∃i:Nat,i≤L.length∧s23= .int .i64 i∧jU wq w.heap.size s3 (dF H k++bO key L i)∧Below w.heap.size w wq∧Agree (fun b=>w.heap.size≤b∧b<wk.heap.size) wk wq∧Agree (fun b=>Wo.heap.size≤b∧b<wl.heap.size) wl wq∧wl.heap.size≤wq.heap.size∧Hid (∀g,s3.ownBlock=some g→wk.heap.size≤g∧(g<Wo.heap.size∨wl.heap.size≤g))) (fun _ s23 _=>L.length-(intOf s23).toNat);case atStart=>exact⟨0,Nat.zero_le _,by go_num,by simpa[bO]using hown2,hb2,LD,Agree.refl _ _,Nat.le_refl _,hide fun g hg=>⟨jV.out g hg,.inl (hlt2.out g hg)⟩⟩
   case round=>
    clear hown2 hb2 LD hlt2 jV;obtain⟨Wp,rfl⟩:∃Wp,Wp=wr:=⟨_,rfl⟩;obtain⟨i,hi,rfl,hown,hb,hag,BI,Gt,jV⟩:=hrel;have hj1:(0:Int)≤(i:Int):=Int.natCast_nonneg _;by_cases hil:i<L.length
    ·have hj2:(i:Int)<(L.length:Int):=(by omega);obtain⟨bl,ol,rfl,_,hcl⟩:=(hLS.out.keep BI (fun b h=>h)).at_ (i:=i) (by rw[aF];exact hil);rw[jg hil]at hcl;have OC:=hide (hpi.out i hil);have hdl:(L.drop (i+1)).length=L.length-(i+1):=List.length_drop;have JF:=hpl.out i;have hlen3:i*L.length≤32*32:=Nat.mul_le_mul (by omega) (by omega);generalize L[i]=a at*;have hle:i+1≤L.length:=(by omega);have hle3:(i:Int)+1≤(L.length:Int):=(by omega);have PY:L.length≤cl:=by
      obtain⟨_,_,e,h2⟩:=SlR.len hLS.out;injection e with e1 e2 e3
      rw[aF]at h2;omega
     by_cases hcap:cl=i+1
     ·have hLi:L.length=i+1:=(by omega);have hd0:L.drop (i+1)=[]:=List.drop_of_length_le (by omega);have hown3:Hid (jU Wp w.heap.size u3 (dF H k++bO key L (i+1))):=hide (by rw[OC.out,hd0,List.map_nil,List.append_nil];exact hown);have hz0:L.length-(i+1)=0:=(by omega);clear hd0 PY;replace hown:=hide hown;subst hcap;go_wp2_with fail
      go_loop [3,33] (fun s3 s33=>s33= .int .i64 0∧jU Wp w.heap.size s3 (dF H k++bO key L (i+1))∧Hid (∀g,s3.ownBlock=some g→wk.heap.size≤g∧(g<Wo.heap.size∨wl.heap.size≤g))) (fun _ _=>0)
      case atStart=>exact⟨rfl,hown3.out,jV⟩
      case round=>
       clear hown3 jV;obtain⟨rfl,hown3,jV⟩:=hrel;go_wp2;go_roundw;case rel=>exact⟨i+1,by omega,by go_num,hown3,hb,hag,BI,Gt,jV⟩
       case measure=>simp[intOf];omega
     ·go_wp2_with fail;have hdo:=hide (fun j (hj:j<L.length-(i+1))=>(show i+1+j<L.length by omega));go_loopw [3,33] (fun s3 s33 wq=>∃j:Nat,j≤L.length-(i+1)∧s33= .int .i64 j∧jU wq w.heap.size s3 (dF H k++bO key L i++((L.drop (i+1)).take j).map fun(b:Nat)=>(⟨key,(a:Nat),b⟩:Cho))∧Below w.heap.size w wq∧Agree (fun b=>w.heap.size≤b∧b<wk.heap.size) wk wq∧Agree (fun b=>Wo.heap.size≤b∧b<wl.heap.size) wl wq∧wl.heap.size≤wq.heap.size∧Hid (∀g,s3.ownBlock=some g→wk.heap.size≤g∧(g<Wo.heap.size∨wl.heap.size≤g))) (fun _ s33 _=>(L.length-(i+1))-(intOf s33).toNat);case atStart=>exact⟨0,Nat.zero_le _,by go_num,by simpa using hown,hb,hag,BI,Gt,jV⟩
      case round=>
       clear hown hb hag BI Gt jV hcl;obtain⟨j,hj,rfl,hown,hb,hag,BI,Gt,jV⟩:=hrel;have hjj:(0:Int)≤(j:Int):=Int.natCast_nonneg _;by_cases hjl:j<L.length-(i+1)
       ·have hj3:(j:Int)<((L.length-(i+1):Nat):Int):=(by omega);have hix:=hdo.out j hjl;obtain⟨_,_,e,_,hcj⟩:=(hLS.out.keep BI (fun b h=>h)).at_ (i:=i+1+j) (by rw[aF];exact hix);injection e with e
        injection e with e1 e2
        subst e1 e2;rw[jg hix,←Nat.add_assoc]at hcj;have hdj:Hid (((L.drop (i+1)).take (j+1))=(L.drop (i+1)).take j++[L[i+1+j]]):=hide (by rw[take_snoc' (by rw[hdl];exact hjl),List.getElem_drop]);have hjn:((L.drop (i+1)).take j).length≤32:=(by rw[List.length_take,hdl];omega);have OD:(dF H k).length≤16384:=(by omega);have Q8:(dF H k++bO key L i++((L.drop (i+1)).take j).map fun(b:Nat)=>(⟨key,(a:Nat),b⟩:Cho)).length≤20000:=by
         rw[List.length_append,List.length_append,List.length_map];omega
        obtain⟨Av,cv,rfl⟩:=hown.form;generalize hM:(dF H k++bO key L i++((L.drop (i+1)).take j).map fun(b:Nat)=>(⟨key,(a:Nat),b⟩:Cho))=M at*;generalize L[i+1+j]=y at*;have hM2:Hid ((dF H k++bO key L i++((L.drop (i+1)).take (j+1)).map fun(b:Nat)=>(⟨key,(a:Nat),b⟩:Cho))=M++[⟨key,a,y⟩]):=hide (by rw[hdj.out,List.map_append,←List.append_assoc,hM];rfl);have uG:=hb.size;clear hM hjn OD hdj;replace hown:=hide hown;go_wp2_with (at_builtin;refine bI (enc:=jD) rfl (.tmp 37) (.tmp 42) 65 rfl w.heap.size 102 ic _ 3 24 Tryz.underlying65 hic hi1 hi2 hi3 rfl (by decide) (.slice Av M.length cv) M rfl hown.out (fun _=>rfl) (⟨key,a,y⟩:Cho) _ rfl rfl mZ (by simp[maxLen];omega) (by omega) uG w w.heap.size (Nat.le_refl _) hb ?_;intro v1 w6 hown1 hg1 hb1 oZ);have hg6:=hg1.size;simp only[World.size_alloc]at hg6;have hA1:Agree (fun b=>w.heap.size≤b∧b<wk.heap.size) wk w6:=(hag.trans (Agree.alloc (fun b hb=>by omega) _)).trans (Agree.grown hg1 fun b hb=>⟨by simp;omega,fun e=>by have:=(jV.out b e.symm).1;omega⟩);have hA2:Agree (fun b=>Wo.heap.size≤b∧b<wl.heap.size) wl w6:=(BI.trans (Agree.alloc (fun b hb=>by omega) _)).trans (Agree.grown hg1 fun b hb=>⟨by simp;omega,fun e=>by have:=(jV.out b e.symm).2;omega⟩);go_wp2;go_roundw;case rel=>exact⟨j+1,by omega,by go_num,by rw[hM2.out];exact hown1,hb1,hA1,hA2,by omega,hide fun g hg=>by
         rcases oZ with e|e
         ·rw[e]at hg;exact jV.out g hg
         ·rw[e]at hg;injection hg with hg;omega⟩
        case measure=>simp[intOf];omega
       ·obtain rfl:j=L.length-(i+1):=(by omega);rw[List.take_of_length_le (by rw[hdl];exact Nat.le_refl _),List.append_assoc,←OC.out]at hown;go_wp2;go_roundw;case rel=>exact⟨i+1,by omega,by go_num,hown,hb,hag,BI,Gt,jV⟩
        case measure=>simp[intOf];omega
    ·obtain rfl:i=L.length:=(by omega);rw[hpa.out,←hst.out]at hown;go_wp2;go_roundw;case rel=>exact⟨k+1,by omega,by go_num,hown,hb,hag,by omega,hide fun g hg=>(jV.out g hg).1⟩
     case measure=>simp[intOf];omega
  ·obtain rfl:k=KL.length:=(by omega);rw[hall.out]at hown;go_wp2;go_ret;exact⟨_,rfl,hown,hb⟩
set_option maxHeartbeats 2000000
def sj{α:Type}(p:α→Bool)(l:List α):Int:=match l.findIdx? p with|some k=>k|none=> -1
theorem jk{α:Type}{p:α→Bool}{l:List α}{k:Nat}(hk:k<l.length)(h:p l[k]=true)(h0:∀j (hj:j<l.length),j<k→p l[j]=false):sj p l=k:=by
 unfold sj;have:l.findIdx? p=some k:=by
  rw[List.findIdx?_eq_some_iff_getElem];exact⟨hk,h,fun j hj=>by rw[h0 j (by omega) hj];simp⟩
 rw[this]
theorem gQ{α:Type}{p:α→Bool}{l:List α}(h0:∀j (hj:j<l.length),p l[j]=false):sj p l= -1:=by
 unfold sj;have:l.findIdx? p=none:=by
  rw[List.findIdx?_eq_none_iff];intro y hy;obtain⟨j,hj,rfl⟩:=List.getElem_of_mem hy;exact h0 j hj
 rw[this]
theorem jl{α:Type}(p:α→Bool)(l:List α):decide (0≤sj p l)=l.any p:=by
 unfold sj;cases hf:l.findIdx? p with
 |none=>
  rw[List.findIdx?_eq_none_iff]at hf;have:l.any p=false:=(by rw[List.any_eq_false];intro x hx;rw[hf x hx];simp);rw[this];rfl
 |some k=>
  rw[List.findIdx?_eq_some_iff_getElem]at hf;obtain⟨h1,h2,_⟩:=hf;have:l.any p=true:=List.any_eq_true.2 ⟨_,List.getElem_mem h1,h2⟩;rw[this];simp
set_option maxRecDepth 100000 in
theorem DI (f:Nat) (hf:∀args w,(callFunc f args).run Tryz.prog w= .ok (.enter f args) w) (lb:Array Value) (p:Cho→Bool) (A:Option Addr) (c:Nat) (l:List Cho) (w:World) (h:bg w (Old w) (.slice A l.length c) l) (hl:l.length≤1000000000)
 (hp:∀W,Below w.heap.size w W→∀x∈l,Calls Tryz.prog f (#[.agg #[.int .i64 x.key,.int .i64 x.a,.int .i64 x.b]]++lb) W fun e W'=>e= .returned (.bool (p x))∧Below W.heap.size W W'):
 Calls Tryz.prog 202 #[.slice A l.length c,.func (.func f) #[] lb] w fun e w'=>e= .returned (.int .i64 (sj p l))∧Below w.heap.size w w':=by
 have hhit:=hide (fun k=>jk (p:=p) (l:=l) (k:=k));have hnone:=hide (gQ (p:=p) (l:=l));replace h:=hide h;replace hp:=hide hp;go_enter Tryz.func202,Tryz.ntmps202;go_wp2_with fail;go_loopw [8] (fun s8 wr=>∃k:Nat,k≤l.length∧s8= .int .i64 k∧Hid (∀j (hj:j<l.length),j<k→p l[j]=false)∧Below w.heap.size w wr) (fun s8 _=>l.length-(intOf s8).toNat);case atStart=>exact⟨0,Nat.zero_le _,by go_num,fun j hj h=>absurd h (by omega),Below.refl _ _⟩
 case round=>
  obtain⟨k,hk,rfl,hall,hb⟩:=hrel;have hk1:(0:Int)≤(k:Int):=Int.natCast_nonneg _;by_cases hlt:k<l.length
  ·have hi2:(k:Int)<(l.length:Int):=(by omega);obtain⟨b,off,rfl,_,d0,d1,d2⟩:=(h.out.below hb).at_ hlt;have hcall:=hide (hp.out _ hb _ (List.getElem_mem hlt));have hh:=hide (fun g=>hhit.out k hlt g hall.out);have hst:Hid (p l[k]=false→∀j (hj:j<l.length),j<k+1→p l[j]=false):=fun g j hj hjk=>by
    by_cases e:j=k
    ·subst e;exact g
    ·exact hall.out j hj (by omega)
   clear hall;generalize l[k]=x at*;go_wp2_with fail;refine hcall.out.mono ?_;rintro e W2 ⟨rfl,hb2⟩;have hb3:=hb.trans (hb2.mono hb.size);cases hpx:p x with
   |true=>
    have hr:=hide (hh.out hpx);clear hpx hh hst hcall;go_wp2;go_ret;exact⟨cZ hr.out.symm,hb3⟩
   |false=>
    have hr:=hide (hst.out hpx);clear hpx hh hst hcall;go_wp2;go_roundw;case rel=>exact⟨k+1,by omega,by go_num,hr,hb3⟩
    case measure=>simp[intOf];omega
  ·have hr:=hide (hnone.out fun j hj=>hall.out j hj (by omega));go_wp2;go_ret;exact⟨cZ hr.out.symm,hb⟩
theorem xZ (f:Nat) (hf:∀args w,(callFunc f args).run Tryz.prog w= .ok (.enter f args) w) (lb:Array Value) (p:Cho→Bool) (A:Option Addr) (c:Nat) (l:List Cho) (w:World) (h:bg w (Old w) (.slice A l.length c) l) (hl:l.length≤1000000000)
 (hp:∀W,Below w.heap.size w W→∀x∈l,Calls Tryz.prog f (#[.agg #[.int .i64 x.key,.int .i64 x.a,.int .i64 x.b]]++lb) W fun e W'=>e= .returned (.bool (p x))∧Below W.heap.size W W'):
 Calls Tryz.prog 146 #[.slice A l.length c,.func (.func f) #[] lb] w fun e w'=>e= .returned (.bool (l.any p))∧Below w.heap.size w w':=by
 have hd:=hide (jl p l);have hcall:=hide (DI f hf lb p A c l w h hl hp);clear hp hf h;go_enter Tryz.func146,Tryz.ntmps146;go_wp2_with fail;refine hcall.out.mono ?_;rintro e w1 ⟨rfl,hb⟩;clear hcall;go_wp2;go_ret;exact⟨by rw[←hd.out];rfl,hb⟩
theorem DJ(A:Option Addr)(c:Nat)(l:List It)(xa xb:Int)(w:World)(h:ItS w (Old w) (.slice A l.length c) l)(hl:l.length≤1000000000):
 Calls Tryz.prog 227 #[.slice A l.length c,.agg #[.int .i64 xa,.int .i64 xb]] w fun e w'=>e= .returned (.int .i64 (sj (fun x:It=>decide (x.a=xa)&&decide (x.b=xb)) l))∧Below w.heap.size w w':=by
 have hhit:=hide (fun k=>jk (p:=fun x:It=>decide (x.a=xa)&&decide (x.b=xb)) (l:=l) (k:=k));have hnone:=hide (gQ (p:=fun x:It=>decide (x.a=xa)&&decide (x.b=xb)) (l:=l));obtain⟨W0,hW0⟩:∃W0,w.alloc (.cells #[.int .i64 xa,.int .i64 xb] 106)=W0:=⟨_,rfl⟩;have hB:=ah (Below.refl w.heap.size w) hW0 (Nat.le_refl _);have k0:=Blk.newEq hW0;replace h:=hide h;go_enter Tryz.func227,Tryz.ntmps227;go_wp2_with fail;clear hW0;go_loopw [8] (fun s8 wr=>∃k:Nat,k≤l.length∧s8= .int .i64 k∧Hid (∀j (hj:j<l.length),j<k→(decide (l[j].a=xa)&&decide (l[j].b=xb))=false)∧Below w.heap.size w wr∧Blk wr w.heap.size 106 #[.int .i64 xa,.int .i64 xb]) (fun s8 _=>l.length-(intOf s8).toNat);case atStart=>exact⟨0,Nat.zero_le _,by go_num,fun j hj h=>absurd h (by omega),hB,k0⟩
 case round=>
  clear k0 hB;obtain⟨k,hk,rfl,hall,hb,k0⟩:=hrel;have hk1:(0:Int)≤(k:Int):=Int.natCast_nonneg _;by_cases hlt:k<l.length
  ·have hi2:(k:Int)<(l.length:Int):=(by omega);obtain⟨b,off,rfl,_,d0,d1⟩:=(h.out.below hb).at_ hlt;have hh:=hide (fun g=>hhit.out k hlt g hall.out);have hst:Hid ((decide (l[k].a=xa)&&decide (l[k].b=xb))=false→∀j (hj:j<l.length),j<k+1→(decide (l[j].a=xa)&&decide (l[j].b=xb))=false):=fun g j hj hjk=>by
    by_cases e:j=k
    ·subst e;exact g
    ·exact hall.out j hj (by omega)
   have c0:=Blk.n0 k0;have c1:=Blk.n1 k0;clear hall;generalize l[k]=x at*;obtain⟨ya,yb⟩:=x;dsimp only at*;by_cases q1:xa=ya
   ·by_cases q2:xb=yb
    ·have q1b:(xa==ya)=true:=(by simpa using q1);have q2b:(xb==yb)=true:=(by simpa using q2);have hr:=hide (hh.out (by simp[q1,q2]));clear q1 q2 hh hst;go_wp2;go_quiet (fail);go_wp2;go_ret;exact⟨cZ hr.out.symm,hb.trans ⟨rfl,rfl,rfl,Nat.le_refl _,fun _ _=>rfl⟩⟩
    ·have q1b:(xa==ya)=true:=(by simpa using q1);have q2b:(xb==yb)=false:=(by simpa using q2);have hr:=hide (hst.out (by simp;intro _ e;exact q2 e.symm));clear q1 q2 hh hst;go_wp2;go_quiet (fail);go_wp2;go_roundw;case rel=>exact⟨k+1,by omega,by go_num,hr,hb.trans ⟨rfl,rfl,rfl,Nat.le_refl _,fun _ _=>rfl⟩,k0⟩
     case measure=>simp[intOf];omega
   ·have q1b:(xa==ya)=false:=(by simpa using q1);have hr:=hide (hst.out (by simp;intro e;exact absurd e.symm q1));clear q1 hh hst;go_wp2;go_quiet (fail);go_wp2;go_roundw;case rel=>exact⟨k+1,by omega,by go_num,hr,hb.trans ⟨rfl,rfl,rfl,Nat.le_refl _,fun _ _=>rfl⟩,k0⟩
    case measure=>simp[intOf];omega
  ·have hr:=hide (hnone.out fun j hj=>hall.out j hj (by omega));go_wp2;go_ret;exact⟨cZ hr.out.symm,hb⟩
theorem oF(A:Option Addr)(c:Nat)(l:List It)(xa xb:Int)(w:World)(h:ItS w (Old w) (.slice A l.length c) l)(hl:l.length≤1000000000):
 Calls Tryz.prog 169 #[.slice A l.length c,.agg #[.int .i64 xa,.int .i64 xb]] w fun e w'=>e= .returned (.bool (l.any fun x=>decide (x.a=xa)&&decide (x.b=xb)))∧Below w.heap.size w w':=by
 have hd:=hide (jl (fun x:It=>decide (x.a=xa)&&decide (x.b=xb)) l);obtain⟨W0,hW0⟩:∃W0,w.alloc (.cells #[.int .i64 xa,.int .i64 xb] 106)=W0:=⟨_,rfl⟩;have hB:=ah (Below.refl w.heap.size w) hW0 (Nat.le_refl _);have h0:=h.below hB;have hcall:=hide (DJ A c l xa xb W0 h0 hl);have k0:=Blk.newEq hW0;clear h h0;have c0:=Blk.n0 k0;have c1:=Blk.n1 k0;go_enter Tryz.func169,Tryz.ntmps169;go_wp2_with fail;clear hW0;refine hcall.out.mono ?_;rintro e w1 ⟨rfl,hb⟩;have hb2:=hB.trans (hb.mono hB.size);clear hcall;go_wp2;go_ret;exact⟨by rw[←hd.out];rfl,hb2⟩
set_option maxHeartbeats 4000000
theorem qL(A:Option Addr)(c:Nat)(H:List Txn)(hn:aC H)(t key:Int)(Bh:Nat)(w:World)(h:av w (Old w) (.slice A H.length c) H)(hBh:w.cell? ⟨Bh,0,none⟩=some (.slice A H.length c)):
 Calls Tryz.prog 144 #[.int .i64 t,.int .i64 key,.pointer (some ⟨Bh,0,none⟩)] w fun e w'=>e= .returned (.bool (wrB H t key))∧w=w':=by
 have hlen:=hn.1;by_cases h0:0≤t
 ·have h0b:decide (t≥0)=true:=(by simpa using h0);by_cases h1:t<(H.length:Int)
  ·obtain⟨m,rfl⟩:∃m:Nat,t=m:=⟨t.toNat,by omega⟩;have hm:m<H.length:=(by omega);have hr:=hide (zH (key:=key) hm);rw[aH hm]at hr;obtain⟨b,off,Aw,cw,Ar,cr,rfl,_,d0,d1,d2,hws,_⟩:=av.at_ h hm;have hwl:=(hn.2 _ (List.getElem_mem hm)).1;generalize H[m]=x at*;obtain⟨ts,ws,rs⟩:=x;dsimp only at*;have hm1:decide (m<H.length)=true:=(by simpa using hm);have hm2:(0:Int)≤(m:Int):=Int.natCast_nonneg _;replace hn:=hide hn;clear h h0;go_enter Tryz.func144,Tryz.ntmps144;go_wp2_with fail;refine(dD Aw cw ws key _ _ hws (by unfold maxLen;omega)).mono ?_;rintro e w3 ⟨rfl,rfl⟩;generalize ws.contains key=cb at*;go_wp2;go_ret;exact⟨by rw[hr.out];rfl,rfl⟩
  ·have hr:wrB H t key=false:=(by unfold wrB;simp;intro _ e;exact absurd e h1);have h1b:decide (t<(H.length:Int))=false:=(by simpa using h1);rw[hr];replace hn:=hide hn;clear h h0 h1 hr;go_enter Tryz.func144,Tryz.ntmps144;go_wp2;go_ret;exact⟨rfl,rfl⟩
 ·have hr:wrB H t key=false:=(by unfold wrB;simp;intro e;exact absurd e h0);have h0b:decide (t≥0)=false:=(by simpa using h0);rw[hr];replace hn:=hide hn;clear h h0 hr;go_enter Tryz.func144,Tryz.ntmps144;go_wp2;go_ret;exact⟨rfl,rfl⟩
theorem Gu(A:Option Addr)(c:Nat)(H:List Txn)(hn:aC H)(x:Cho)(Bh Bf:Nat)(w:World)(h:av w (Old w) (.slice A H.length c) H)(hBh:w.cell? ⟨Bh,0,none⟩=some (.slice A H.length c))(hBf:w.cell? ⟨Bf,0,none⟩=some (.func (.func 144) #[] #[.pointer (some ⟨Bh,0,none⟩)])):
 Calls Tryz.prog 147 #[.agg #[.int .i64 x.key,.int .i64 x.a,.int .i64 x.b],.pointer (some ⟨Bf,0,none⟩)] w fun e w'=>e= .returned (.bool (!eY H x))∧Below w.heap.size w w':=by
 obtain⟨key,a,b⟩:=x;dsimp only;obtain⟨W0,hW0⟩:∃W0,w.alloc (.cells #[.int .i64 key,.int .i64 a,.int .i64 b] 102)=W0:=⟨_,rfl⟩;have hB:=ah (Below.refl w.heap.size w) hW0 (Nat.le_refl _);have k0:=Blk.newEq hW0;have OE:=(hB.cell (p:=⟨Bh,0,none⟩) (block_lt_of_cell hBh)).trans hBh;have Rf:=(hB.cell (p:=⟨Bf,0,none⟩) (block_lt_of_cell hBf)).trans hBf;have h2:=hide (h.below hB);have c0:=Blk.n0 k0;have c1:=Blk.n1 k0;have c2:=Blk.n2 k0;replace hn:=hide hn;clear h hBh hBf;by_cases h0:a=b
 ·have hr:eY H ⟨key,a,b⟩=false:=(by unfold eY;simp[h0]);have h0b:(a==b)=true:=(by simpa using h0);rw[hr];clear h0 hr;go_enter Tryz.func147,Tryz.ntmps147;go_wp2;go_ret;exact⟨rfl,hB⟩
 ·have hr:eY H ⟨key,a,b⟩=(wrB H a key&&wrB H b key):=(by unfold eY;simp[h0]);have h0b:(a==b)=false:=(by simpa using h0);rw[hr];clear h0 hr;go_enter Tryz.func147,Tryz.ntmps147;go_wp2_with fail;clear hW0;refine(qL A c H hn.out a key Bh _ h2.out OE).mono ?_;rintro e w1 ⟨rfl,rfl⟩;cases hw:wrB H a key with
  |false=>
   replace hw:=hide hw;go_wp2;go_ret;exact⟨by rw[hw.out];rfl,hB⟩
  |true=>
   replace hw:=hide hw;go_wp2_with fail;refine(qL A c H hn.out b key Bh _ h2.out OE).mono ?_;rintro e w1 ⟨rfl,rfl⟩;go_wp2;go_ret;exact⟨by rw[hw.out];rfl,hB⟩
set_option maxRecDepth 100000 in
theorem jL(A:Option Addr)(c:Nat)(H:List Txn)(Al:Option Addr)(cl:Nat)(l:List Cho)(w:World)(h:av w (Old w) (.slice A H.length c) H)(hn:aC H)(hl:bg w (Old w) (.slice Al l.length cl) l)(hln:l.length≤1000000000):
 Calls Tryz.prog 80 #[.agg #[.slice A H.length c],.slice Al l.length cl] w fun e w'=>e= .returned (.bool (dn H l))∧Below w.heap.size w w':=by
 obtain⟨W0,hW0⟩:∃W0,w.alloc (.cells #[.slice A H.length c] 24)=W0:=⟨_,rfl⟩;have hB:=ah (Below.refl w.heap.size w) hW0 (Nat.le_refl _);have k0:=Blk.newEq hW0;have h2:=hide (h.below hB);have hl2:=hide (hl.below hB);have c0:=Blk.n0 k0;replace hn:=hide hn;have hs0:=ay hW0;replace hs0:=hide hs0;have hrc:Hid (dn H l=(aA H&&decide (l.length≤20000)&&l.all (eY H))):=hide rfl;have hal:Hid (l.all (eY H)= !(l.any fun x=> !eY H x)):=hide (by rw[Bool.eq_iff_iff];simp);clear h hl;go_enter Tryz.func80,Tryz.ntmps80;go_wp2_with fail;clear hW0 c0;refine(cK A c H _ h2.out hn.out).mono ?_;rintro e w1 ⟨rfl,hb1⟩;replace k0:=k0.below hb1 k0.lt;have hT1:=hide (h2.out.below hb1);have hC1:=hide (hl2.out.below hb1);have hb:=hB.trans (hb1.mono hB.size);clear hb1 hB h2 hl2;cases hr:aA H with
 |false=>
  rw[hr]at hrc;clear hr;go_wp2;go_ret;exact⟨by rw[hrc.out];rfl,hb⟩
 |true=>
  rw[hr]at hrc;clear hr;by_cases hm:l.length≤20000
  ·have hm1:decide ((l.length:Int)>20000)=false:=(by simp;omega);have hm2:decide (l.length≤20000)=true:=(by simpa using hm);rw[hm2]at hrc;obtain⟨W2,hW2⟩:∃W2,w1.alloc (.cells #[.func (.func 144) #[] #[.pointer (some ⟨w.heap.size,0,none⟩)]] 224)=W2:=⟨_,rfl⟩;have hB2:=ah (Below.refl w1.heap.size w1) hW2 (Nat.le_refl _);have kF:=Blk.newEq hW2;have hT2:=hT1.out.below hB2;have hC2:=hC1.out.below hB2;have k02:=k0.au hW2;have hb2:=hb.trans (hB2.mono hb.size);have hcall:=hide (xZ 147 (enters_of Tryz.func147 (by kernel_rfl) rfl) #[.pointer (some ⟨w1.heap.size,0,none⟩)] (fun x=> !eY H x) Al cl l W2 hC2 (by omega) (fun W hbW x _=>
    Gu A c H hn.out x w.heap.size w1.heap.size W (hT2.below hbW) (by have:=(k02.below hbW k02.lt).cell 0;simpa using this) (by have:=(kF.below hbW kF.lt).cell 0;simpa using this)))
   clear hm hm2 hB2 kF hT1 hC1 hT2 hC2 k0 k02;go_wp2_with fail;clear hW2;refine hcall.out.mono ?_;rintro e w3 ⟨rfl,hb3⟩;have hb4:=hb2.trans (hb3.mono hb2.size);clear hcall;go_wp2;go_ret;exact⟨by rw[hrc.out,hal.out];simp,hb4⟩
  ·have hm1:decide ((l.length:Int)>20000)=true:=(by simp;omega);have hm2:decide (l.length≤20000)=false:=(by simpa using hm);rw[hm2]at hrc;clear hm hm2;go_wp2;go_ret;exact⟨by rw[hrc.out];rfl,hb⟩
set_option maxHeartbeats 2000000
theorem LG:(Tryz.prog.info? 172).map (fun i=>(i.zero,i.size,i.bytes))=some (some (.int .u64 0),1,8):=by kernel_rfl
abbrev Gv:=Jt 172
theorem iW(n:Nat)(hn:n≤64)(w:World):Calls Tryz.prog 166 #[.int .i64 n] w (Gv w n noE):=by
 have hmk:∀W:World,(Instr.makeSlice 75 (.int .i64 (n:Int)) (.int .i64 (n:Int))).run Tryz.prog W= .ok (.slice (some ⟨W.heap.size,0,none⟩) n n) (W.alloc (.cells (madeCells #[.int .u64 0] n) 172)):=
  fun W=>run_make_row' (P:=Tryz.prog) 75 172 (.int .u64 0) 8 Tryz.underlying75 LG rfl .i64 .i64 n (by omega) (by omega) W
 have h1:decide ((n:Int)<0)=false:=(by simp);have h2:decide ((n:Int)>64)=false:=(by simp;omega);have hno:=hide (Js n);go_enter Tryz.func166,Tryz.ntmps166;go_wp2;refine bodyPost_ret (v:= .tuple #[.agg #[.int .i64 n,.slice (some ⟨w.heap.size+1,0,none⟩) n n],.int .i64 0]) (by simp[results,Tryz.results166,go_sem]) rfl ?_;refine⟨w.heap.size+1,by omega,rfl,?_,?_⟩
 ·rw[hno.out];have:=Blk.new (w.alloc (.cells #[.int .i64 n,.slice (some ⟨w.heap.size+1,0,none⟩) n n] 77)) 172 (madeCells #[.int .u64 0] n);simpa using this
 ·exact((Below.refl _ _).alloc (Nat.le_refl _) _).alloc (by simp) _
theorem iB(n:Nat)(A:Option Addr)(c:Nat)(E:ak)(K:Nat→Prop)(w:World)(h:GrS w K n A c E)(hK:∀b,K b→b<w.heap.size):
 Calls Tryz.prog 101 #[.agg #[.int .i64 n,.slice A n c]] w fun e w'=>e= .returned (.bool true)∧Below w.heap.size w w':=by
 have h1:decide ((n:Int)≥0)=true:=(by simp);have h2:decide ((n:Int)≤64)=true:=(by have:=h.n64;simp;omega);have hB:Below w.heap.size w (w.alloc (.cells #[.int .i64 n,.slice A n c] 77)):=(Below.refl _ _).alloc (Nat.le_refl _) _;have k0:Blk (w.alloc (.cells #[.int .i64 n,.slice A n c] 77)) w.heap.size 77 #[.int .i64 n,.slice A n c]:=Blk.new _ _ _;have hs:=h.sl.keep (Agree.below hB hK) (fun b hb=>hb);have hx:∀x∈dA n E,x<18446744073709551616:=fun x hx=>Nat.lt_of_lt_of_le (AY hx) (fO h.n64);have hsub:=hide (Gg h.n64 (l:=dA n E) fun x hx=>AY hx);have hjl:=hide (vG (l:=dA n E) (n:=64) hx);have hpl:=hide (show 2^n-1<18446744073709551616 by have:=fO h.n64;have:=Nat.two_pow_pos n;omega);have hnn:=hide h.n64;replace hx:=hide hx;replace hs:=hide hs;clear h hK;go_enter Tryz.func101,Tryz.ntmps101;go_wp2;generalize w.alloc (.cells #[.int .i64 n,.slice A n c] 77)=W at*;have c0:=Blk.n0 k0;have c1:=Blk.n1 k0;go_quiet ((first|(go_at_call 171;exact Calls.quiet_of_same ((dW A n c (dA n E) K _ (aL n E) (hs.out.keep (Agree.drewN _ _ _) (fun _ h=>h)) hx.out (by have:=hnn.out;omega)).mono fun _ _ h=>⟨h.1,h.2.symm⟩))|(go_at_call 172;exact Calls.quiet_of_same ((Bp n hnn.out _).mono fun _ _ h=>⟨h.1,h.2.symm⟩))|(go_at_call 133;exact Calls.quiet_of_same ((yL _ _ hjl.out hpl.out _).mono fun _ _ h=>⟨h.1,h.2.symm⟩))));rw[hsub.out];go_wp2;go_ret;exact⟨rfl,hB.trans ⟨rfl,rfl,rfl,Nat.le_refl _,fun _ _=>rfl⟩⟩
theorem DK{w:World}{o:Obj}:Below w.heap.size w (w.alloc o):=(Below.refl _ _).alloc (Nat.le_refl _) _
theorem vO(n:Nat)(A A':Option Addr)(c c':Nat)(E E':ak)(K:Nat→Prop)(w:World)(h:GrS w K n A c E)(h':GrS w K n A' c' E')(hK:∀b,K b→b<w.heap.size):
 Calls Tryz.prog 170 #[.agg #[.int .i64 n,.slice A n c],.agg #[.int .i64 n,.slice A' n c']] w fun e w'=>e= .returned (.bool true)∧Below w.heap.size w w':=by
 have hB:Below w.heap.size w ((w.alloc (.cells #[.int .i64 n,.slice A n c] 77)).alloc (.cells #[.int .i64 n,.slice A' n c'] 77)):=DK.alloc (by simp) _;have k0:Blk ((w.alloc (.cells #[.int .i64 n,.slice A n c] 77)).alloc (.cells #[.int .i64 n,.slice A' n c'] 77)) w.heap.size 77 #[.int .i64 n,.slice A n c]:=(Blk.new _ _ _).alloc _;have k1:Blk ((w.alloc (.cells #[.int .i64 n,.slice A n c] 77)).alloc (.cells #[.int .i64 n,.slice A' n c'] 77)) (w.heap.size+1) 77 #[.int .i64 n,.slice A' n c']:=by
  have:=Blk.new (w.alloc (.cells #[.int .i64 n,.slice A n c] 77)) 77 #[.int .i64 n,.slice A' n c'];simpa using this
 have hg:=hide (h.keep (Agree.below hB hK) (fun b hb=>hb));have hg':=hide (h'.keep (Agree.below hB hK) (fun b hb=>hb));have hK2:∀b,K b→b<((w.alloc (.cells #[.int .i64 n,.slice A n c] 77)).alloc (.cells #[.int .i64 n,.slice A' n c'] 77)).heap.size:=fun b hb=>(by have:=hK b hb;simp;omega);clear h h';replace hK:=hide hK;go_enter Tryz.func170,Tryz.ntmps170;go_wp2_with fail;refine(iB n _ c E K _ hg.out hK2).mono ?_;rintro e w1 ⟨rfl,hb1⟩;have hg2:=hide (hg'.out.keep (Agree.below hb1 hK2) (fun b hb=>hb));have hK3:∀b,K b→b<w1.heap.size:=fun b hb=>Nat.lt_of_lt_of_le (hK2 b hb) hb1.size;replace k0:=k0.below hb1 k0.lt;replace k1:=k1.below hb1 k1.lt;have hb2:=hB.trans (hb1.mono hB.size);have c0:=Blk.n0 k0;have c1:=Blk.n1 k0;have d0:=Blk.n0 k1;have d1:=Blk.n1 k1;clear hg hg' hb1 hB;replace hK2:=hide hK2;go_wp2_with fail;refine(iB n _ c' E' K _ hg2.out hK3).mono ?_;rintro e w3 ⟨rfl,hb3⟩;replace k0:=k0.below hb3 k0.lt;replace k1:=k1.below hb3 k1.lt;have hb4:=hb2.trans (hb3.mono hb2.size);clear c0 c1 d0 d1;have c0:=Blk.n0 k0;have d0:=Blk.n0 k1;clear hb3 hb2;replace hK3:=hide hK3;go_wp2;go_ret;exact⟨rfl,hb4⟩
set_option maxHeartbeats 4000000
theorem LH:(Tryz.prog.info? 172).map (·.size)=some 1:=by kernel_rfl
set_option maxRecDepth 100000 in
theorem su(n:Nat)(A:Option Addr)(c:Nat)(E:ak)(a b:Nat)(ha:a<n)(hb:b<n)(K:Nat→Prop)(w:World)(h:GrS w K n A c E)(hK:∀b,K b→b<w.heap.size):
 Calls Tryz.prog 167 #[.agg #[.int .i64 n,.slice A n c],.int .i64 a,.int .i64 b] w (Gv w n (orE E (iO a b))):=by
 have hB:Below w.heap.size w ((w.alloc (.cells #[.int .i64 n,.slice A n c] 77)).alloc (.cells #[.int .i64 0,.slice none 0 0] 77)):=DK.alloc (by simp) _;have k0:Blk ((w.alloc (.cells #[.int .i64 n,.slice A n c] 77)).alloc (.cells #[.int .i64 0,.slice none 0 0] 77)) w.heap.size 77 #[.int .i64 n,.slice A n c]:=(Blk.new _ _ _).alloc _;have k1:Blk ((w.alloc (.cells #[.int .i64 n,.slice A n c] 77)).alloc (.cells #[.int .i64 0,.slice none 0 0] 77)) (w.heap.size+1) 77 #[.int .i64 0,.slice none 0 0]:=by
  have:=Blk.new (w.alloc (.cells #[.int .i64 n,.slice A n c] 77)) 77 #[.int .i64 0,.slice none 0 0];simpa using this
 have hg:=hide (h.keep (Agree.below hB hK) (fun b hb=>hb));have hK2:∀b,K b→b<((w.alloc (.cells #[.int .i64 n,.slice A n c] 77)).alloc (.cells #[.int .i64 0,.slice none 0 0] 77)).heap.size:=fun b hb=>(by have:=hK b hb;simp;omega);have hn:=h.n64;have ha1:decide ((a:Int)<0)=false:=(by simp);have hb1:decide ((b:Int)<0)=false:=(by simp);have ha2:decide ((n:Int)≤(a:Int))=false:=(by simp;omega);have hb2:decide ((n:Int)≤(b:Int))=false:=(by simp;omega);have ha3:decide (n≤a)=false:=(by simp;omega);have hb3:decide (n≤b)=false:=(by simp;omega);clear h;replace hK:=hide hK;go_enter Tryz.func167,Tryz.ntmps167;go_wp2_with fail;refine(iB n _ c E K _ hg.out hK2).mono ?_;rintro e w1 ⟨rfl,DL⟩;have hg1:=hide (hg.out.keep (Agree.below DL hK2) (fun b hb=>hb));have hK3:=hide (show∀b,K b→b<w1.heap.size from fun b hb=>Nat.lt_of_lt_of_le (hK2 b hb) DL.size);have hs1:w.heap.size+2≤w1.heap.size:=(by have:=DL.size;simpa using this);replace k0:=k0.below DL k0.lt;replace k1:=k1.below DL k1.lt;have Nr:=hB.trans (DL.mono hB.size);clear hg DL hB hK2;have c0:=Blk.n0 k0;have c1:=Blk.n1 k0;go_wp2_with fail;refine(iW n hn _).mono ?_;rintro e w2 ⟨g,hgs,rfl,kR,Gw⟩;clear c0 c1;have hg2:=hide (hg1.out.keep (Agree.below Gw hK3.out) (fun b hb=>hb));have k0':=k0.below Gw k0.lt;have k1':=k1.below Gw k1.lt;have OG:=Nr.trans (Gw.mono Nr.size);have hs2:w1.heap.size≤w2.heap.size:=Gw.size;have hgl:=kR.lt;clear Gw Nr k0 k1 hg1;have k2:Blk (w2.alloc (.cells #[.int .i64 n,.slice (some ⟨g,0,none⟩) n n] 77)) w2.heap.size 77 #[.int .i64 n,.slice (some ⟨g,0,none⟩) n n]:=Blk.new _ _ _;have m0:=k0'.alloc (.cells #[.int .i64 n,.slice (some ⟨g,0,none⟩) n n] 77);have m1:=k1'.alloc (.cells #[.int .i64 n,.slice (some ⟨g,0,none⟩) n n] 77);have mR:=kR.alloc (.cells #[.int .i64 n,.slice (some ⟨g,0,none⟩) n n] 77);have hK4:=hide (show∀b,K b→b<w2.heap.size from fun b hb=>Nat.lt_of_lt_of_le (hK3.out b hb) hs2);have hg3:=hide (hg2.out.keep (Agree.alloc hK4.out (.cells #[.int .i64 n,.slice (some ⟨g,0,none⟩) n n] 77)) (fun b hb=>hb));have Ns:=OG.alloc (by omega) (.cells #[.int .i64 n,.slice (some ⟨g,0,none⟩) n n] 77);have hs3:(w2.alloc (.cells #[.int .i64 n,.slice (some ⟨g,0,none⟩) n n] 77)).heap.size=w2.heap.size+1:=(by simp);have c1:=Blk.n1 m0;clear OG kR k0' k1' hg2;have hsrc:=hide (fun i (hi:i<(dA n E).length)=>(iq.at_ hg3.out.sl hi));have hcur:(bn n noE).size=n:=(by simp[bn,aL]);replace hcur:=hide hcur;go_wp2_with (refine qC (fun x:Nat=>Value.int .u64 x) rfl (.tmp 41) (.tmp 43) 75 75 rfl 172 Tryz.underlying75 LH g n n c A rfl rfl (bn n noE) 172 mR hcur.out (dA n E) (aL n E) (fun i hi=>by obtain⟨b,off,hA,_,hc⟩:=hsrc.out i hi;exact⟨b,off,hA,hc⟩) (fun x _=>rfl) ?_;intro w4 kR4 hg4);have kR5:Blk w4 g 172 (bn n E):=kR4;have k24:=k2.grown hg4 (by simp;omega);have k14:=m1.grown hg4 (by simp;omega);have hb4:=below_grown Ns hg4 Ns.size (by intro k hk;injection hk with hk;omega);have hs4:=hg4.size;rw[hs3]at hs4;have d1:=k24.cell 1;have d0:=k24.cell 0;have j0:=k14.cell 0;have j1:=k14.cell 1;have jf:=k14.frozen 0;have jf1:=k14.frozen 1;have e0:=kR5.cell a;rw[mW ha]at e0;simp only[gA,gZ,gS]at d1 d0 j0 j1;have f0:=kR5.frozen a;have h64:=hide (dS (p:=E a) hn);have hi1:(0:Int)≤(a:Int):=Int.natCast_nonneg _;have hi2:(a:Int)<(n:Int):=(by omega);have hadd:=hide (yJ (E:=E) ha hb hn);clear kR4 mR k2 m0 m1 Ns hg4 hg3 hsrc c1 hcur;refine wp_region_still_tail 11 (by kernel_rfl) (by kernel_rfl) ?_;simp only[List.take_succ_cons,List.take_zero,List.drop_succ_cons,List.drop_zero];repeat still_step
 still_call ((oV _ h64.out b _).mono fun _ _ h=>⟨h.1,h.2.symm⟩)
 repeat still_step
 refine wpStill_nil ?_;change wpList _ _ _ _ _ w4.drew;go_wp2;have n1:g≠w.heap.size+1:=(by omega);have n2:w.heap.size+1≠g:=(by omega);have kF0:=(((kR5.aJ a (.int .u64 (mU (aS (E a) n) (b:Int):Nat))).far (p:=⟨w.heap.size+1,0,none⟩) n1 (.int .i64 n)).far (p:=⟨w.heap.size+1,1,none⟩) n1 (.slice (some ⟨g,0,none⟩) n n)).drew;rw[hadd.out]at kF0;have hF:=((((hb4.setCell (p:=⟨g,a,none⟩) (by simp;omega) (.int .u64 (mU (aS (E a) n) (b:Int):Nat))).setCell (p:=⟨w.heap.size+1,0,none⟩) (by simp) (.int .i64 n)).setCell (p:=⟨w.heap.size+1,1,none⟩) (by simp) (.slice (some ⟨g,0,none⟩) n n))).drew;exact bodyPost_ret (v:= .tuple #[.agg #[.int .i64 n,.slice (some ⟨g,0,none⟩) n n],.int .i64 0]) (by simp[results,Tryz.results167,go_sem,j0,j1,n1,n2]) rfl ⟨g,by omega,rfl,kF0,hF⟩
end Go.Proofs.YtfhnamomiaekdaaGreatDoor
namespace Go.Inq
open Go
section
variable{P:Program}{ops:Array Oper}{Q:Exit→Act→World→Prop}{md:Region.Mode}
def eD(i:Nat)(tss:List (List Nat)):List (List Nat):=
 tss.filterMap fun r=>match r with
  |t::r'=>if t=i then some r' else none
  |[]=>none
def vP(P:Program)(ops:Array Oper)(Q:Exit→Act→World→Prop):Nat→List (List Nat)→Act→World→Prop
 |0,_,a,w=>Q .normal a w
 |n+1,tss,a,w=>∀i∈tss.filterMap List.head?,wpOp P ops Q i (vP P ops Q n (eD i tss)) a w
def sw(md:Region.Mode)(ops:Array Oper)(us:List Nat):Nat→List (List Nat)→Array Bool→Bool
 |0,_,listed=>(Region.ready md ops listed).isEmpty
 |n+1,tss,listed=>
  (match tss.filterMap List.head? with
   |t::r=>r.all (·==t)&&us.contains t&&(Region.ready md ops listed).contains t&&Region.free md ops listed t&&(match ops[t]? with|some o=>lC o.op|none=>false)&&
    sw md ops us n (eD t tss) (listed.setIfInBounds t true)
   |[]=>false)||
  (!(Region.ready md ops listed).isEmpty&&(Region.ready md ops listed).all fun i=>(tss.filterMap List.head?).contains i&&us.contains i&&sw md ops us n (eD i tss) (listed.setIfInBounds i true))
def iR:Op→Bool
 | .move _| .assign _| .pick .. | .build .. | .indexAddr .. | .extract .. | .makeFunc .. | .nilCheck _| .load .. =>true
 |_=>false
theorem zQ{ρ:Operand→Value}{o:Oper}(h:iR o.op=true){w w':World}{n:Next}(hr:(execOp ρ o).run P w= .ok n w'):w'=w∧∃v,n= .value v:=by
 by_cases hl:jT o.op=true
 ·cases ho:o.op<;>rw[ho]at hl<;>simp[jT]at hl;case load t x=>
   have e:execOp ρ o=(do Pure.pure (.value (←Instr.loadAt t (ρ x)))):=(by unfold execOp;rw[ho]);have hv:=iN (P:=P) (ρ:=ρ) (o:=o) (by rw[ho];rfl) hr;rw[e]at hr;exact⟨(Stb.bind (Stb.loadAt _ _) (fun _=>(Clear.pure _).stb) P _ _ _ hr).1,hv⟩
 ·have hw:worldless P o.op=true:=(by cases ho:o.op<;>rw[ho]at h hl<;>simp[iR,jT]at h hl<;>rfl);have hv:=iN (P:=P) (ρ:=ρ) (o:=o) (by cases ho:o.op<;>rw[ho]at h hl<;>simp[iR,jT]at h hl<;>rfl) hr;refine⟨?_,hv⟩;have:=(iX hw hr w).symm.trans hr;injection this with _ e
  exact e.symm
theorem DN{t:Nat}{o:Oper}{a:Act}{w:World}{K:Act→World→Prop}(ho:ops[t]?=some o)(hc:iR o.op=true)(h:wpOp P ops Q t K a w):wpOp P ops Q t (fun a' w'=>w'=w∧K a' w') a w:=by
 unfold wpOp at*;rw[ho]at h⊢;dsimp only at*;by_cases hw:Region.wanted o (yielded ops a.tmps)=true
 ·rw[if_pos hw]at h⊢;refine h.imp (fun h=> ?_) id;unfold Oper.wp at*;generalize hr:(execOp a.eval o).run P w=r at*;cases r with
  |halt x w'=>cases x<;>simp only[Oper.upon]at h⊢<;>exact h
  |ok n w'=>
   obtain⟨he,v,rfl⟩:=zQ hc hr;exact⟨he,h⟩
 ·rw[if_neg hw]at h⊢;exact⟨rfl,h⟩
def fI(ops:Array Oper)(us:List Nat)(j:Nat):Nat:=
 if us.contains j then(match ops[j]? with|some o=>if fE o.op then 1 else if iR o.op then 0 else 2|none=>0)else 0
theorem Gx{us:List Nat}{t:Nat}(hf:us.contains t=true){K:Act→World→Prop}{a:Act}{w:World}(h:wpOp P ops Q t K a w):
 wpOp P ops Q t (fun a' w'=>((fI ops us t=0→w'=w)∧(fI ops us t=1→Ext w w'))∧K a' w') a w:=by
 cases ho:ops[t]? with
 |none=>unfold wpOp at*;rw[ho]at h⊢;exact⟨⟨fun _=>rfl,fun _=>Ext.refl _⟩,h⟩
 |some o=>
  have e:fI ops us t=if fE o.op then 1 else if iR o.op then 0 else 2:=(by unfold fI;rw[if_pos hf,ho]);rw[e];by_cases hal:fE o.op=true
  ·rw[if_pos hal];exact wpOp_mono (fun a' w' h=>⟨⟨fun h0=>absurd h0 (by simp),fun _=>h.1⟩,h.2⟩) (uV ho hal h)
  ·rw[if_neg hal];by_cases hst:iR o.op=true
   ·rw[if_pos hst];exact wpOp_mono (fun a' w' h=>⟨⟨fun _=>h.1,fun h1=>absurd h1 (by simp)⟩,h.2⟩) (DN ho hst h)
   ·rw[if_neg hst];exact wpOp_mono (fun a' w' h=>⟨⟨fun h0=>absurd h0 (by simp),fun h1=>absurd h1 (by simp)⟩,h⟩) h
theorem pG{us:List Nat}(hQ:∀c a (d:Option Tmp) v w,Q (.panic c) (a.put d v) w→Q (.panic c) a w)(hs:Region.noSelect ops=true):∀(n:Nat) (tss:List (List Nat)) (listed:Array Bool) (a:Act) (w:World),Closed md ops listed→sw md ops us n tss listed=true→
 vP P ops Q n tss a w→mI P md ops Q (fI ops us) n listed a w
 |0,_,_,_,_,_,hB,h=>⟨by simpa[sw]using hB,h⟩
 |n+1,tss,listed,a,w,hcl,hB,h=>by
  unfold sw at hB;rw[Bool.or_eq_true]at hB;unfold vP at h;rcases hB with hB|hB
  ·split at hB
   ·rename_i t r Nt;simp only[Bool.and_eq_true]at hB;obtain⟨⟨⟨⟨⟨_,hu⟩,hr⟩,hfr⟩,hc⟩,hB⟩:=hB;have hr':t∈Region.ready md ops listed:=(by simpa using hr);have h1:=h t (by rw[Nt];simp);cases ho:ops[t]? with
    |none=>rw[ho]at hc;cases hc
    |some o=>
     rw[ho]at hc;obtain⟨v,hy,hK⟩:=mJ ho hc h1;exact dx (S:=fun _=>True) ho (Region.noSelect_spec hs) (fun c a w=>hQ c a _ _ w) (fun _ _ _ _ _ _ _ _ _=>trivial) _ listed a w hcl (Region.free_spec ho hfr) hr' hy trivial
      (pG hQ hs n _ _ _ w (hcl.aJ hr') hB hK)
   ·cases hB
  ·simp only[Bool.and_eq_true,List.all_eq_true]at hB;refine⟨fun h0=>(by rw[h0]at hB;simp at hB),fun i hi=> ?_⟩;obtain⟨⟨hh,hu⟩,hB2⟩:=hB.2 i hi;have h1:=h i (by simpa using hh);exact wpOp_mono (fun a' w' h'=>⟨h'.1,pG hQ hs n _ _ a' w' (hcl.aJ hi) hB2 h'.2⟩) (Gx hu h1)
def uN(P:Program)(md:Region.Mode)(ops:Array Oper)(us:List Nat)(tss:List (List Nat)):List Nat→Array Bool→Bool
 |[],listed=>sw md ops us us.length tss listed
 |i::es,listed=>(Region.ready md ops listed).contains i&&Region.free md ops listed i&& !us.contains i&&
  (match ops[i]? with
   |some o=>lu o.op&&(worldless P o.op||(us.all fun j=>aR md ops ops.size j i||((match ops[j]? with|some oj=>iR oj.op&& !fE oj.op|none=>false)||(jT o.op&&(match ops[j]? with|some oj=>fE oj.op|none=>false)))))
   |none=>false)&&
  uN P md ops us tss es (listed.setIfInBounds i true)
theorem tL{us:List Nat}{j:Nat}(hfj:us.contains j=true)(h:(match ops[j]? with|some oj=>iR oj.op&& !fE oj.op|none=>false)=true):fI ops us j=0:=by
 unfold fI;rw[if_pos hfj];cases hoj:ops[j]? with
 |none=>rfl
 |some oj=>
  rw[hoj]at h;simp only[Bool.and_eq_true,Bool.not_eq_true']at h;simp[h.1,h.2]
theorem oG{w:World}(hQ:∀c a (d:Option Tmp) v w,Q (.panic c) (a.put d v) w→Q (.panic c) a w)(hs:Region.noSelect ops=true)(us:List Nat)(tss:List (List Nat)):∀(es:List Nat) (listed:Array Bool) (a:Act),Closed md ops listed→
 uN P md ops us tss es listed=true→wpStill P ops w (fun a'=>vP P ops Q us.length tss a' w) (es.filterMap (ops[·]?)) a→mI P md ops Q (fI ops us) (es.length+us.length) listed a w
 |[],listed,a,hcl,hB,h=>by
  simp only[List.length_nil,Nat.zero_add];exact pG hQ hs us.length tss listed a w hcl hB h
 |i::es,listed,a,hcl,hB,h=>by
  simp only[uN,Bool.and_eq_true]at hB;obtain⟨⟨⟨⟨hr,hf⟩,hnt⟩,hk⟩,hrest⟩:=hB;have hr':i∈Region.ready md ops listed:=(by simpa using hr);cases ho:ops[i]? with
  |none=>rw[ho]at hk;cases hk
  |some o=>
   rw[ho]at hk;simp only[Bool.and_eq_true,Bool.or_eq_true]at hk;rw[List.filterMap_cons_some ho]at h;obtain⟨v,hy,hy0,hyl,hK⟩:=jF (K:=wpStill P ops w (fun a'=>vP P ops Q us.length tss a' w) (es.filterMap (ops[·]?))) hk.1 h;have IH:=oG hQ hs us tss es (listed.setIfInBounds i true) _ (hcl.aJ hr') hrest hK;rw[List.length_cons,show es.length+1+us.length=(es.length+us.length)+1 by omega];rcases hk.2 with hl|hl
   ·exact dx (S:=fun _=>True) ho (Region.noSelect_spec hs) (fun c a w=>hQ c a _ _ w) (fun _ _ _ _ _ _ _ _ _=>trivial) _ listed a w hcl (Region.free_spec ho hf) hr' (hy0 hl) trivial IH
   ·by_cases hld:jT o.op=true
    ·refine dx (S:=fun u=>Ext w u) ho (Region.noSelect_spec hs) (fun c a w=>hQ c a _ _ w) (fun listed' j hcl' hj hun u u' hu hc=> ?_) _ listed a w hcl (Region.free_spec ho hf) hr' (hyl hld) (Ext.refl _) IH;cases hfj:us.contains j with
     |false=>
      have:fI ops us j=0:=(by unfold fI;rw[if_neg (by rw[hfj];simp)]);rw[hc.1 this];exact hu
     |true=>
      have hwj:=List.all_eq_true.1 hl j (by simpa using hfj);simp only[Bool.or_eq_true,Bool.and_eq_true]at hwj;rcases hwj with hwj|hwj|⟨_,hwj⟩
      ·rw[hcl'.ready hwj hj]at hun;cases hun
      ·rw[hc.1 (tL hfj hwj)];exact hu
      ·cases hoj:ops[j]? with
       |none=>rw[hoj]at hwj;cases hwj
       |some oj=>
        rw[hoj]at hwj;have:fI ops us j=1:=(by unfold fI;rw[if_pos hfj,hoj];simp[hwj]);exact hu.trans (hc.2 this)
    ·refine dx (S:=fun u=>u=w) ho (Region.noSelect_spec hs) (fun c a w=>hQ c a _ _ w) (fun listed' j hcl' hj hun u u' hu hc=> ?_) _ listed a w hcl (Region.free_spec ho hf) hr' hy rfl IH;cases hfj:us.contains j with
     |false=>
      have:fI ops us j=0:=(by unfold fI;rw[if_neg (by rw[hfj];simp)]);rw[hc.1 this];exact hu
     |true=>
      have hwj:=List.all_eq_true.1 hl j (by simpa using hfj);simp only[Bool.or_eq_true,Bool.and_eq_true]at hwj;rcases hwj with hwj|hwj|⟨h2,_⟩
      ·rw[hcl'.ready hwj hj]at hun;cases hun
      ·rw[hc.1 (tL hfj hwj)];exact hu
      ·exact absurd h2 hld
def JG(P:Program)(ops:Array Oper)(es us:List Nat)(tss:List (List Nat)):Bool:=
 Region.noSelect ops&&(es.length+us.length==ops.size)&&uN P .any ops us tss es (Array.replicate ops.size false)
theorem ni {id:Nat} {a:Act} {w:World} {l:List Oper} (es us:List Nat) (tss:List (List Nat)) (hm:P.follows .mixedOrders=true) (hB:JG P l.toArray es us tss=true)
 (hQ:∀c a (d:Option Tmp) v w,Q (.panic c) (a.put d v) w→Q (.panic c) a w)
 (h:wpStill P l.toArray w.drew (fun a'=>vP P l.toArray Q us.length tss a' w.drew) (es.filterMap (l[·]?)) a):(Code.region id l.toArray true).wp P Q a w:=by
 simp only[JG,Bool.and_eq_true,beq_iff_eq]at hB;obtain⟨⟨hs,hn⟩,hE⟩:=hB;refine wp_region_any hm (oP (cls:=fI l.toArray us) _ _ _ _ ?_);rw[←hn];refine oG (w:=w.drew) hQ hs us tss es _ a (Closed.start _ _ _) (by rw[hn];exact hE) ?_;have e1:(fun(i:Nat)=>l.toArray[i]?)=fun(i:Nat)=>l[i]?:=(by funext i;simp);rw[e1];exact h
theorem fP{i:Nat}{o:Oper}{K:Act→World→Prop}{a:Act}{w:World}(ho:ops[i]?=some o)(h:wpList P ops (Exit.then K Q) [o] a w):wpOp P ops Q i K a w:=by
 unfold wpOp;rw[ho];unfold wpList at h;dsimp only;split at h
 ·rename_i hw;rw[if_pos hw];refine h.imp (fun h=> ?_) id;unfold Oper.wp at h⊢;generalize(execOp a.eval o).run P w=r at h⊢;cases r with
  |halt x w'=>cases x<;>exact h
  |ok n w'=>cases n<;>exact h
 ·rename_i hw;rw[if_neg hw];exact h
theorem eG:∀(ts:List Nat) (n:Nat) (a:Act) (w:World),ts.length=n→wpList P ops Q (ts.filterMap (ops[·]?)) a w→vP P ops Q n [ts] a w
 |[],n,a,w,hn,h=>by
  subst hn;exact h
 |t::ts,n,a,w,hn,h=>by
  subst hn;intro i hi;have:i=t:=(by simpa using hi);subst this;have e:eD i [i::ts]=[ts]:=(by simp[eD]);rw[e];cases ho:ops[i]? with
  |none=>
   unfold wpOp;rw[ho];rw[List.filterMap_cons_none ho]at h;exact eG ts _ a w rfl h
  |some o=>
   rw[List.filterMap_cons_some ho]at h;unfold wpOp;rw[ho];unfold wpList at h;dsimp only;split at h
   ·rename_i hw;rw[if_pos hw];exact h.imp (Oper.wp_mono fun a w=>eG ts _ a w rfl) id
   ·rename_i hw;rw[if_neg hw];exact eG ts _ _ _ rfl h
end
end Go.Inq
namespace Go.Proofs.YtfhnamomiaekdaaGreatDoor
open Go.RowKit Go.Inq
set_option maxHeartbeats 4000000
attribute [local go_sem↓] Go.wp_at_zero Go.wp_at_succ
def oH(k:Nat)(E:ak):ak:=fun a b=>decide (a<k)&&E a b
theorem DR(E:ak):oH 0 E=noE:=by funext a b;simp[oH,noE]
theorem Gy{n:Nat}{E:ak}{a b:Nat}(ha:a<n)(_:b<n):oH n E a b=E a b:=by simp[oH,ha]
theorem DT{n k:Nat}{E:ak}{x:Nat}(hk:k<n)(hx:x=aS (E k) n):(bn n (oH k E)).setIfInBounds k (.int .u64 (x:Nat))=bn n (oH (k+1) E):=by
 rw[yK hk hx];refine bW fun a b ha hb=> ?_;by_cases e:a=k
 ·subst e;simp[oH]
 ·have:decide (a<k+1)=decide (a<k):=(by simp;omega);simp[oH,e,this]
set_option maxRecDepth 100000 in
theorem tN(n:Nat)(A A':Option Addr)(c c':Nat)(E F:ak)(K:Nat→Prop)(w:World)(h:GrS w K n A c E)(h':GrS w K n A' c' F)(hK:∀b,K b→b<w.heap.size):
 Calls Tryz.prog 163 #[.agg #[.int .i64 n,.slice A n c],.agg #[.int .i64 n,.slice A' n c']] w (Gv w n (orE E F)):=by
 obtain⟨W0,hW0⟩:∃W0,((w.alloc (.cells #[.int .i64 n,.slice A n c] 77)).alloc (.cells #[.int .i64 n,.slice A' n c'] 77)).alloc (.cells #[.int .i64 0,.slice none 0 0] 77)=W0:=⟨_,rfl⟩;have hB:Below w.heap.size w W0:=(by rw[←hW0];exact(DK.alloc (by simp) _).alloc (by simp;omega) _);have hs0:W0.heap.size=w.heap.size+3:=(by rw[←hW0];simp);have k0:Blk W0 w.heap.size 77 #[.int .i64 n,.slice A n c]:=(by rw[←hW0];exact((Blk.new _ _ _).alloc _).alloc _);have k1:Blk W0 (w.heap.size+1) 77 #[.int .i64 n,.slice A' n c']:=by
  rw[←hW0];have:=(Blk.new (w.alloc (.cells #[.int .i64 n,.slice A n c] 77)) 77 #[.int .i64 n,.slice A' n c']).alloc (.cells #[.int .i64 0,.slice none 0 0] 77);simpa using this
 have k2:Blk W0 (w.heap.size+1+1) 77 #[.int .i64 0,.slice none 0 0]:=by
  rw[←hW0];have:=Blk.new ((w.alloc (.cells #[.int .i64 n,.slice A n c] 77)).alloc (.cells #[.int .i64 n,.slice A' n c'] 77)) 77 #[.int .i64 0,.slice none 0 0];simpa using this
 have hg:=hide (h.keep (Agree.below hB hK) (fun b hb=>hb));have hg':=hide (h'.keep (Agree.below hB hK) (fun b hb=>hb));have hn:=h.n64;replace hK:=hide hK;have hKW:Hid (∀b,K b→b<W0.heap.size):=hide fun b hb=>(by have:=hK.out b hb;omega);clear h h';replace hs0:=hide hs0;go_enter Tryz.func163,Tryz.ntmps163;have c0:=Blk.n0 k0;have c1:=Blk.n1 k0;have e0:=Blk.n0 k1;have e1:=Blk.n1 k1;go_wp2_with fail;clear hW0 c0 c1 e0 e1;refine(vO n A A' c c' E F K _ hg.out hg'.out hKW.out).mono ?_;rintro e w1 ⟨rfl,hb1⟩;have hs1:w.heap.size+3≤w1.heap.size:=(by have:=hb1.size;have:=hs0.out;omega);have hga:=hide (hg.out.keep (Agree.below hb1 hKW.out) (fun b hb=>hb));have hgb:=hide (hg'.out.keep (Agree.below hb1 hKW.out) (fun b hb=>hb));replace k0:=k0.below hb1 k0.lt;replace k1:=k1.below hb1 k1.lt;replace k2:=k2.below hb1 k2.lt;have hb2:=hB.trans (hb1.mono hB.size);clear hg hg' hb1 hB hKW hs0;have c0:=Blk.n0 k0;go_wp2_with fail;refine(iW n hn _).mono ?_;rintro e w2 ⟨g,hgs,rfl,kR,hb3⟩;have hK1:∀b,K b→b<w1.heap.size:=fun b hb=>(by have:=hK.out b hb;omega);replace hga:=hide (hga.out.keep (Agree.below hb3 hK1) (fun b hb=>hb));replace hgb:=hide (hgb.out.keep (Agree.below hb3 hK1) (fun b hb=>hb));replace k0:=k0.below hb3 k0.lt;replace k1:=k1.below hb3 k1.lt;replace k2:=k2.below hb3 k2.lt;replace hb2:=hb2.trans (hb3.mono hb2.size);have hs2:w1.heap.size≤w2.heap.size:=hb3.size;have hgl:=kR.lt;clear hb3 hK1 c0;obtain⟨W3,hW3⟩:∃W3,w2.alloc (.cells #[.int .i64 n,.slice (some ⟨g,0,none⟩) n n] 77)=W3:=⟨_,rfl⟩;have k3:=Blk.newEq hW3;have hs3:=ay hW3;replace k0:=k0.au hW3;replace k1:=k1.au hW3;replace k2:=k2.au hW3;replace kR:=kR.au hW3;have hb5:=ah hb2 hW3 (by omega);have hKw:∀b,K b→b<w2.heap.size:=fun b hb=>(by have:=hK.out b hb;omega);replace hga:=hide (hga.out.keep (Agree.au hW3 hKw) (fun b hb=>hb));replace hgb:=hide (hgb.out.keep (Agree.au hW3 hKw) (fun b hb=>hb));replace hs3:=hide hs3;clear hb2 hKw;have d1:=Blk.n1 k3;go_wp2_with fail;clear d1;have hz:=hide (DR (orE E F));go_loopw [23] (fun s23 wr=>∃k:Nat,k≤n∧s23= .int .i64 k∧Blk wr g 172 (bn n (oH k (orE E F)))∧W3.grownBy wr (some g)) (fun s23 _=>n-(intOf s23).toNat);case atStart=>exact⟨0,Nat.zero_le _,by go_num,by rw[hz.out];exact kR,World.grownBy.refl _ _⟩
 case round=>
  obtain⟨k,hk,rfl,kRw,hgw⟩:=hrel;have hi1:(0:Int)≤(k:Int):=Int.natCast_nonneg _;have m0:=k0.grown hgw (by simp;omega);have m1:=k1.grown hgw (by simp;omega);have m3:=k3.grown hgw (by simp;omega);have Nu:=hgw.size;by_cases hlt:k<n
  ·have hi2:(k:Int)<(n:Int):=(by omega);have hKg:∀b,K b→b<g:=fun b hb=>(by have:=hK.out b hb;omega);have hgL:g≤W3.heap.size:=(by have:=hs3.out;omega);obtain⟨ab,ao,rfl,_,hca⟩:=(hga.out.keep (Agree.jH hgw hKg hgL) (fun b hb=>hb)).at_ hlt;obtain⟨bb,bo,rfl,_,hcb⟩:=(hgb.out.keep (Agree.jH hgw hKg hgL) (fun b hb=>hb)).at_ hlt;have hstep:=hide (DT (E:=orE E F) hlt (zK (p:=E k) (q:=F k) (n:=n)));have BJ:=hide (dS (p:=E k) hn);have JH:=hide (dS (p:=F k) hn);have hj:=hide (rX (aS (E k) n) (aS (F k) n));have c1:=Blk.n1 m0;have e1:=Blk.n1 m1;have d1:=Blk.n1 m3;have f0:=kRw.frozen k;have r0:=kRw.cell k;rw[mW hlt]at r0;have OH:=kRw.lt;generalize aS (E k) n=x at*;generalize aS (F k) n=y at*;have d1n:=Blk.n1 (m3.alloc (.cells #[.int .u64 (x:Nat),.int .u64 (y:Nat)] 172));clear k0 k1 k3 m0 m1 m3 hKg hgL hga hgb;go_wp2_with fail;refine ni [0,2,3,4,5,6,7,8,9,10,11,12] [1,13,14,15,16] [[1,13,14,15,16],[13,1,14,15,16],[13,14,1,15,16]] (by kernel_rfl) (by kernel_rfl) (fun _ _ d _ _ h=>by cases d<;>exact h) ?_;simp only[List.filterMap_cons,List.filterMap_nil,gZ,gS];repeat still_step
   refine wpStill_nil ?_;have kN:=hide (iq.bE (l:=[x,y]) (K:=fun _=>True) ((Blk.new wr 172 #[.int .u64 (x:Nat),.int .u64 (y:Nat)]).drew) trivial);have hxy:=hide (show∀z∈[x,y],z<18446744073709551616 from by intro z hz;simp at hz;rcases hz with rfl|rfl;exact BJ.out;exact JH.out);clear BJ JH;intro i hi;simp only[List.filterMap_cons,List.head?_cons,List.filterMap_nil,List.mem_cons,List.not_mem_nil,or_false,or_self]at hi;obtain rfl|rfl:i=1∨i=13:=by omega
   ·refine fP rfl ?_;simp only[eD,List.filterMap_cons,List.filterMap_nil,if_true,if_false,reduceIte,Nat.reduceEqDiff,List.length_cons,List.length_nil,Nat.reduceAdd];go_wp2_with fail;refine eG _ _ _ _ rfl ?_;simp only[List.filterMap_cons,List.filterMap_nil,gA,gZ,gS];go_wp2_with fail;refine(dW (some ⟨wr.heap.size,0,none⟩) 2 2 [x,y] (fun _=>True) _ rfl kN.out hxy.out (by omega)).mono ?_;rintro e w5 ⟨rfl,rfl⟩;rw[hj.out];go_wp2_with fail;go_wp2;go_roundw;case rel=>exact⟨k+1,by omega,by go_num,by rw[←hstep.out];exact(kRw.aJ k _).alloc _,aj (aj (aj hgw (aI g k _)) (World.grownBy_alloc _ _ _)) fH⟩
    case measure=>simp[intOf];omega
   ·refine fP rfl ?_;simp only[eD,List.filterMap_cons,List.filterMap_nil,if_true,if_false,reduceIte,Nat.reduceEqDiff,List.length_cons,List.length_nil,Nat.reduceAdd];go_wp2_with fail;intro i hi;simp only[List.filterMap_cons,List.head?_cons,List.filterMap_nil,List.mem_cons,List.not_mem_nil,or_false,or_self]at hi;obtain rfl|rfl:i=1∨i=14:=by omega
    ·refine fP rfl ?_;simp only[eD,List.filterMap_cons,List.filterMap_nil,if_true,if_false,reduceIte,Nat.reduceEqDiff,List.length_cons,List.length_nil,Nat.reduceAdd];go_wp2_with fail;refine eG _ _ _ _ rfl ?_;simp only[List.filterMap_cons,List.filterMap_nil,gA,gZ,gS];go_wp2_with fail;refine(dW (some ⟨wr.heap.size,0,none⟩) 2 2 [x,y] (fun _=>True) _ rfl kN.out hxy.out (by omega)).mono ?_;rintro e w5 ⟨rfl,rfl⟩;rw[hj.out];go_wp2_with fail;go_wp2;go_roundw;case rel=>exact⟨k+1,by omega,by go_num,by rw[←hstep.out];exact(kRw.aJ k _).alloc _,aj (aj (aj hgw (aI g k _)) (World.grownBy_alloc _ _ _)) fH⟩
     case measure=>simp[intOf];omega
    ·refine fP rfl ?_;simp only[eD,List.filterMap_cons,List.filterMap_nil,if_true,if_false,reduceIte,Nat.reduceEqDiff,List.length_cons,List.length_nil,Nat.reduceAdd];go_wp2_with fail;refine(dW (some ⟨wr.heap.size,0,none⟩) 2 2 [x,y] (fun _=>True) _ rfl kN.out hxy.out (by omega)).mono ?_;rintro e w5 ⟨rfl,rfl⟩;rw[hj.out];go_wp2_with fail;refine eG _ _ _ _ rfl ?_;simp only[List.filterMap_cons,List.filterMap_nil,gA,gZ,gS];go_wp2;go_roundw;case rel=>exact⟨k+1,by omega,by go_num,by rw[←hstep.out];exact(kRw.aJ k _).alloc _,aj (aj (aj hgw (aI g k _)) (World.grownBy_alloc _ _ _)) fH⟩
     case measure=>simp[intOf];omega
  ·obtain rfl:k=n:=(by omega);have hall:=hide (bW (n:=k) (E:=oH k (orE E F)) (F:=orE E F) (fun a b ha hb=>Gy ha hb));have m2:=k2.grown hgw (by simp;omega);have m3:=k3.grown hgw (by simp;omega);have d0:=Blk.n0 m3;have d1:=Blk.n1 m3;have j0:=Blk.n0 m2;have j1:=Blk.n1 m2;have jf:=m2.frozen 0;have jf1:=m2.frozen 1;have hbF:=below_grown hb5 hgw hb5.size (by intro k hk;injection hk with hk;omega);rw[hall.out]at kRw;go_wp2;have n1:g≠w.heap.size+1+1:=(by omega);have kF0:=((kRw.far (p:=⟨w.heap.size+1+1,0,none⟩) n1 (.int .i64 k)).far (p:=⟨w.heap.size+1+1,1,none⟩) n1 (.slice (some ⟨g,0,none⟩) k k));have hF:=((hbF.setCell (p:=⟨w.heap.size+1+1,0,none⟩) (by simp;omega) (.int .i64 k)).setCell (p:=⟨w.heap.size+1+1,1,none⟩) (by simp;omega) (.slice (some ⟨g,0,none⟩) k k));exact bodyPost_ret (v:= .tuple #[.agg #[.int .i64 k,.slice (some ⟨g,0,none⟩) k k],.int .i64 0]) (by simp[results,Tryz.results163,go_sem,j0,j1]) rfl ⟨g,by omega,rfl,kF0,hF⟩
def JI(p:Nat×Nat):List Value:=[.int .i64 (p.1:Nat),.int .i64 (p.2:Nat)]
theorem JJ:∀(x:Nat×Nat),∀u∈JI x,u.oneCell'=true:=by
 intro x u hu;simp[JI]at hu;rcases hu with rfl|rfl<;>rfl
def dU(n:Nat)(E:ak)(k:Nat):List (Nat×Nat):=((List.range k).map fun a=>((List.range n).filter (E a)).map fun b=>(a,b)).flatten
theorem qM(n:Nat)(E:ak)(k:Nat):dU n E (k+1)=dU n E k++((List.range n).filter (E k)).map fun b=>(k,b):=by
 unfold dU;rw[List.range_succ,List.map_append,List.flatten_append];simp
theorem nu(n:Nat)(E:ak):∀k,(dU n E k).length≤k*n
 |0=>by simp[dU]
 |k+1=>by
  have h:=nu n E k;have h2:((List.range n).filter (E k)).length≤n:=Nat.le_trans (List.length_filter_le _ _) (by simp);rw[qM,List.length_append,List.length_map,Nat.add_mul];omega
theorem LJ:(Tryz.prog.info? 262).map (fun i=>(i.zero,i.size,i.bytes))=some (some (.agg #[.int .i64 0,.int .i64 0]),2,16):=by kernel_rfl
def vQ(w:World)(base:Nat)(v:Value)(l:List (Nat×Nat)):Prop:=w.ownsRow base 262 2 v l.length (l.map JI).flatten
def PZ(w:World)(l:List (Nat×Nat))(e:Ending)(w':World):Prop:=∃v,e= .returned v∧vQ w' w.heap.size v l∧Below w.heap.size w w'
theorem vQ.form{w:World}{base:Nat}{v:Value}{l:List (Nat×Nat)}(h:vQ w base v l):∃A c,v= .slice A l.length c:=aM h
theorem vQ.nil(w:World)(base:Nat):vQ w base (.slice none 0 0) []:=World.ownsRow_nil _ _ _ _
theorem vQ.at_{w:World}{base:Nat}{A:Option Addr}{m c:Nat}{l:List (Nat×Nat)}(h:vQ w base (.slice A m c) l){i:Nat}(hi:i<l.length):
 ∃b off,A=some ⟨b,off,none⟩∧base≤b∧b<w.heap.size∧w.cell? ⟨b,off+i*2,none⟩=some (.int .i64 (l[i].1:Nat))∧w.cell? ⟨b,off+i*2+1,none⟩=some (.int .i64 (l[i].2:Nat)):=by
 have hs:SlR 2 (Flat JI) w (fun b=>base≤b∧b<w.heap.size) (.slice A m c) l:=SlR.of_flat h rfl (fun _=>rfl) (fun g h1 h2=>⟨h1,h2⟩);obtain⟨b,off,cs,hA,hK,_,hR,hc⟩:=SlR.at_ hs hi;unfold Flat at hR;subst hR;exact⟨b,off,hA,hK.1,hK.2,hc 0 _ rfl,hc 1 _ rfl⟩
set_option maxRecDepth 100000 in
theorem BK(n:Nat)(A:Option Addr)(c:Nat)(E:ak)(K:Nat→Prop)(w:World)(h:GrS w K n A c E)(hK:∀b,K b→b<w.heap.size)(hT:gL w):
 Calls Tryz.prog 191 #[.agg #[.int .i64 n,.slice A n c]] w (PZ w (mV n E)):=by
 obtain⟨ip,hip,hi1,hi2,hi3⟩:=info_parts LJ;obtain⟨W0,hW0⟩:∃W0,w.alloc (.cells #[.int .i64 n,.slice A n c] 77)=W0:=⟨_,rfl⟩;have hB:=ah (Below.refl w.heap.size w) hW0 (Nat.le_refl _);have k0:=Blk.newEq hW0;have hs0:=ay hW0;have hg:=hide (h.keep (Agree.below hB hK) (fun b hb=>hb));have hKW:Hid (∀b,K b→b<W0.heap.size):=hide fun b hb=>(by have:=hK b hb;omega);have hn:=h.n64;replace hK:=hide hK;replace h:=hide h;have c0:=Blk.n0 k0;have c1:=Blk.n1 k0;replace hs0:=hide hs0;go_enter Tryz.func191,Tryz.ntmps191;go_wp2_with fail;clear hW0 c0 c1;refine(iB n A c E K _ hg.out hKW.out).mono ?_;rintro e w1 ⟨rfl,hb1⟩;replace hg:=hide (hg.out.keep (Agree.below hb1 hKW.out) (fun b hb=>hb));replace k0:=k0.below hb1 k0.lt;have hbA:=hB.trans (hb1.mono hB.size);have hz1:=hbA.size;clear hb1 hB hKW hs0;have c1:=Blk.n1 k0;go_wp2_with fail;clear c1;go_loopw [3,14] (fun s3 s14 wr=>∃k:Nat,k≤n∧s14= .int .i64 k∧vQ wr w.heap.size s3 (dU n E k)∧Below w.heap.size w wr) (fun _ s14 _=>n-(intOf s14).toNat);case atStart=>exact⟨0,Nat.zero_le _,by go_num,vQ.nil _ _,hbA⟩
 case round=>
  obtain⟨Wo,rfl⟩:∃Wo,Wo=wr:=⟨_,rfl⟩;obtain⟨k,hk,rfl,hown,hb⟩:=hrel;have Dz:(0:Int)≤(k:Int):=Int.natCast_nonneg _;by_cases hlt:k<n
  ·have DC:(k:Int)<(n:Int):=(by omega);obtain⟨b,off,rfl,_,hc⟩:=(h.out.keep (Agree.below hb hK.out) (fun b h=>h)).at_ hlt;have hT2:=hT.below hb;have h64:=hide (dS (p:=E k) hn);have hst:=hide (qM n E k);have hlm:=hide (nu n E k);have hkn:=hide (show k*n≤64*64 from Nat.mul_le_mul (by omega) hn);have LK:=hb.size;go_wp2_with fail;refine(lI _ h64.out _ hT2).mono ?_;rintro e wl ⟨v,rfl,hl,hbl⟩;rw[lH hn]at hl;have hLn:((List.range n).filter (E k)).length≤n:=Nat.le_trans (List.length_filter_le _ _) (by simp);generalize(List.range n).filter (E k)=L at*;obtain⟨Al,cl,hv⟩:=hl.form;rw[aF]at hv;subst hv;have OI:=hb.trans (hbl.mono LK);have LC:=hbl.size;have hLS:=hide (hl.sl (K:=fun b=>Wo.heap.size≤b∧b<wl.heap.size) (fun g h1 h2=>⟨h1,h2⟩));obtain⟨As,cs,rfl⟩:=hown.form;have hown2:vQ wl w.heap.size _ (dU n E k):=own_below hown hbl (Nat.le_refl _);have hlt2:=hide (fun g (hg:(Value.slice As (dU n E k).length cs).ownBlock=some g)=>(hown.lt g hg).2);clear hl hbl hb hown hc hT2;go_wp2_with fail;go_loopw [3,22] (fun s3 s22 wq=>∃j:Nat,j≤L.length∧s22= .int .i64 j∧vQ wq w.heap.size s3 (dU n E k++(L.take j).map fun b=>(k,b))∧Below w.heap.size w wq∧Agree (fun b=>Wo.heap.size≤b∧b<wl.heap.size) wl wq∧wl.heap.size≤wq.heap.size∧Hid (∀g,s3.ownBlock=some g→g<Wo.heap.size∨wl.heap.size≤g)) (fun _ s22 _=>L.length-(intOf s22).toNat);case atStart=>exact⟨0,Nat.zero_le _,by go_num,by simpa using hown2,OI,Agree.refl _ _,Nat.le_refl _,hide fun g hg=> .inl (hlt2.out g hg)⟩
   case round=>
    clear hown2 OI hlt2;obtain⟨j,hj,rfl,hown,hb,hag,Nv,jV⟩:=hrel;have hj1:(0:Int)≤(j:Int):=Int.natCast_nonneg _;by_cases hjl:j<L.length
    ·have hj2:(j:Int)<(L.length:Int):=(by omega);obtain⟨bl,ol,rfl,_,hcl⟩:=(hLS.out.keep hag (fun b h=>h)).at_ (i:=j) (by rw[aF];exact hjl);rw[jg hjl]at hcl;have htk:=hide (take_snoc' hjl);have hsz2:=hb.size;have hlen:((dU n E k++(L.take j).map fun b=>(k,b))).length≤5000:=by
      have h1:=hlm.out;have h2:=hkn.out;rw[List.length_append,List.length_map,List.length_take];omega
     obtain⟨Av,cv,rfl⟩:=hown.form;generalize hM:(dU n E k++(L.take j).map fun b=>(k,b))=M at*;have hM2:Hid (dU n E k++(L.take (j+1)).map (fun b=>(k,b))=M++[(k,L[j])]):=hide (by rw[htk.out,List.map_append,←List.append_assoc,hM];rfl);generalize L[j]=y at*;clear hM htk hlm hkn;replace hown:=hide hown;go_wp2_with (at_builtin;refine bI (enc:=JI) rfl (.tmp 26) (.tmp 30) 259 rfl w.heap.size 262 ip _ 2 16 Tryz.underlying259 hip hi1 hi2 hi3 rfl (by decide) (.slice Av M.length cv) M rfl hown.out (fun _=>rfl) (k,y) _ rfl rfl JJ (by simp[maxLen];omega) (by omega) hsz2 w w.heap.size (Nat.le_refl _) hb ?_;intro v1 w5 hown1 hg1 hb1 oZ);have LD:Agree (fun b=>Wo.heap.size≤b∧b<wl.heap.size) wl w5:=(hag.trans (Agree.alloc (fun b hb=>by omega) _)).trans (Agree.grown hg1 fun b hb=>⟨by simp;omega,fun e=>by have:=jV.out b e.symm;omega⟩);have hsz5:=hg1.size;simp only[World.size_alloc]at hsz5;go_wp2;go_roundw;case rel=>exact⟨j+1,by omega,by go_num,by rw[hM2.out];exact hown1,hb1,LD,by omega,hide fun g hg=>by
      rcases oZ with e|e
      ·rw[e]at hg;exact jV.out g hg
      ·rw[e]at hg;injection hg with hg;omega⟩
     case measure=>simp[intOf];omega
    ·obtain rfl:j=L.length:=(by omega);have hM:dU n E k++(L.take L.length).map (fun b=>(k,b))=dU n E (k+1):=(by rw[List.take_length,hst.out]);rw[hM]at hown;go_wp2;go_roundw;case rel=>exact⟨k+1,by omega,by go_num,hown,hb⟩
     case measure=>simp[intOf];omega
  ·obtain rfl:k=n:=(by omega);go_wp2;go_ret;exact⟨_,rfl,hown,hb⟩
theorem Gz(l:List (Nat×Nat))(a b:Nat):dJ (Go.Inq.ofL (l++[(a,b)]))=orE (dJ (Go.Inq.ofL l)) (iO b a):=by
 rw[Jr];funext x y;simp[dJ,orE,iO,Bool.and_comm]
theorem JK:dJ (Go.Inq.ofL [])=noE:=by funext x y;simp[dJ,Go.Inq.ofL,noE]
theorem JL{n:Nat}{E:ak}{a b:Nat}(ha:a<n)(hb:b<n):dJ (Go.Inq.ofL (mV n E)) a b=dJ E a b:=by
 unfold dJ Go.Inq.ofL;rw[Bool.eq_iff_iff,List.contains_iff_mem,vH];exact⟨fun h=>h.2.2,fun h=>⟨hb,ha,h⟩⟩
set_option maxRecDepth 100000 in
theorem vR(n:Nat)(A:Option Addr)(c:Nat)(E:ak)(K:Nat→Prop)(w:World)(h:GrS w K n A c E)(hK:∀b,K b→b<w.heap.size)(hT:gL w):
 Calls Tryz.prog 129 #[.agg #[.int .i64 n,.slice A n c]] w (Gv w n (dJ E)):=by
 obtain⟨W0,hW0⟩:∃W0,(w.alloc (.cells #[.int .i64 n,.slice A n c] 77)).alloc (.cells #[.int .i64 0,.slice none 0 0] 77)=W0:=⟨_,rfl⟩;have sW:=size_two hW0;have hB:=aQ hW0;have k0:=Blk.j6 hW0;have k1:=Blk.jd hW0;have hg:=hide (h.keep (Agree.below hB hK) (fun b hb=>hb));have hKW:Hid (∀b,K b→b<W0.heap.size):=hide fun b hb=>(by have:=hK b hb;omega);have hn:=h.n64;have hs0:Hid (W0.heap.size=w.heap.size+2):=hide (by omega);replace hK:=hide hK;clear h sW;have c0:=Blk.n0 k0;have c1:=Blk.n1 k0;go_enter Tryz.func129,Tryz.ntmps129;go_wp2_with fail;clear hW0 c0 c1;refine(iB n A c E K _ hg.out hKW.out).mono ?_;rintro e w1 ⟨rfl,hb1⟩;have hs1:w.heap.size+2≤w1.heap.size:=(by have:=hb1.size;have:=hs0.out;omega);replace hg:=hide (hg.out.keep (Agree.below hb1 hKW.out) (fun b hb=>hb));replace k0:=k0.below hb1 k0.lt;replace k1:=k1.below hb1 k1.lt;have hb2:=hB.trans (hb1.mono hB.size);clear hb1 hB hKW hs0;have c0:=Blk.n0 k0;go_wp2_with fail;refine(iW n hn _).mono ?_;rintro e w2 ⟨g,hgs,rfl,kR,hb3⟩;have hK1:∀b,K b→b<w1.heap.size:=fun b hb=>(by have:=hK.out b hb;omega);replace hg:=hide (hg.out.keep (Agree.below hb3 hK1) (fun b hb=>hb));replace k0:=k0.below hb3 k0.lt;replace k1:=k1.below hb3 k1.lt;replace hb2:=hb2.trans (hb3.mono hb2.size);have hs2:w1.heap.size≤w2.heap.size:=hb3.size;have hgl:=kR.lt;clear hb3 hK1 c0;obtain⟨W3,hW3⟩:∃W3,w2.alloc (.cells #[.int .i64 n,.slice (some ⟨g,0,none⟩) n n] 77)=W3:=⟨_,rfl⟩;have k3:=Blk.newEq hW3;have hs3:=ay hW3;replace k0:=k0.au hW3;replace k1:=k1.au hW3;replace kR:=kR.au hW3;have hb5:=ah hb2 hW3 (by omega);have hKw:∀b,K b→b<w2.heap.size:=fun b hb=>(by have:=hK.out b hb;omega);replace hg:=hide (hg.out.keep (Agree.au hW3 hKw) (fun b hb=>hb));have hKx:Hid (∀b,K b→b<W3.heap.size):=hide fun b hb=>(by have:=hK.out b hb;omega);have hT3:=hT.below hb5;replace hs3:=hide hs3;clear hb2 hKw;have c0:=Blk.n0 k0;have c1:=Blk.n1 k0;go_wp2_with fail;refine(BK n A c E K _ hg.out hKx.out hT3).mono ?_;rintro e w4 ⟨v,rfl,hM,hb4⟩;have hMl:(mV n E).length≤64*64:=Nat.le_trans (nu n E n) (Nat.mul_le_mul hn hn);have hMm:=hide (fun x (hx:x∈mV n E)=>(vH (a:=x.1) (b:=x.2)).1 hx);have hall:=hide (bW (n:=n) (E:=dJ (Go.Inq.ofL (mV n E))) (F:=dJ E) (fun a b ha hb=>JL ha hb));generalize mV n E=M at*;replace k1:=k1.below hb4 k1.lt;replace k3:=k3.below hb4 k3.lt;replace kR:=kR.below hb4 kR.lt;have hgW:g<W3.heap.size:=(by have:=hs3.out;omega);have hg2:w2.heap.size<W3.heap.size:=(by have:=hs3.out;omega);have hz4:=hb4.size;have hb6:=hb5.trans (hb4.mono hb5.size);obtain⟨Av,cv,rfl⟩:=hM.form;replace hM:=hide hM;clear hb4 hb5 hT3 c0 c1 hKx hg hW3 k0;go_wp2_with fail;have hz:=hide JK;go_loopw [21] (fun s21 wr=>∃k:Nat,k≤M.length∧s21= .int .i64 k∧Blk wr g 172 (bn n (dJ (Go.Inq.ofL (M.take k))))∧w4.grownBy wr (some g)) (fun s21 _=>M.length-(intOf s21).toNat);case atStart=>exact⟨0,Nat.zero_le _,by go_num,by rw[List.take_zero,hz.out];exact kR,World.grownBy.refl _ _⟩
 case round=>
  obtain⟨k,hk,rfl,kRw,hgw⟩:=hrel;have hi1:(0:Int)≤(k:Int):=Int.natCast_nonneg _;have Nu:=hgw.size;have m3:=k3.grown hgw (by simp;omega);by_cases hlt:k<M.length
  ·have hi2:(k:Int)<(M.length:Int):=(by omega);obtain⟨eb,eo,rfl,hE1,hE2,x0,x1⟩:=hM.out.at_ hlt;replace x0:=hgw.cell x0 (by simp;omega);replace x1:=hgw.cell x1 (by simp;omega);have htk:=hide (take_snoc' hlt);obtain⟨ha,hb,_⟩:=hMm.out _ (List.getElem_mem hlt);generalize M[k]=p at*;obtain⟨a,b⟩:=p;dsimp only at*;have hstep:=hide (yJ (E:=dJ (Go.Inq.ofL (M.take k))) hb ha hn);have hto:=hide (Gz (M.take k) a b);have h64:=hide (dS (p:=dJ (Go.Inq.ofL (M.take k)) b) hn);have m3a:=m3.alloc (.cells #[.int .i64 a,.int .i64 b] 262);have kRa:=kRw.alloc (.cells #[.int .i64 a,.int .i64 b] 262);have d1:=m3a.cell 1;have r0:=kRa.cell b;rw[mW hb]at r0;have f0:=kRa.frozen b;simp only[gA,gZ,gS]at d1;have hj1:(0:Int)≤(b:Int):=Int.natCast_nonneg _;have hj2:(b:Int)<(n:Int):=(by omega);have OH:=kRw.lt;have hgb:=aj hgw (World.grownBy_alloc wr (.cells #[.int .i64 a,.int .i64 b] 262) (some g));have kE:=Blk.new wr 262 #[.int .i64 a,.int .i64 b];have y0:=Blk.n0 kE;have y1:=Blk.n1 kE;go_wp2_with fail;generalize wr.alloc (.cells #[.int .i64 a,.int .i64 b] 262)=Wb at*;refine wp_region_still_tail 14 (by kernel_rfl) (by kernel_rfl) ?_;simp only[List.take_succ_cons,List.take_zero,List.drop_succ_cons,List.drop_zero];repeat still_step
   still_call ((oV _ h64.out a _).mono fun _ _ h=>⟨h.1,h.2.symm⟩)
   repeat still_step
   refine wpStill_nil ?_;change wpList _ _ _ _ _ Wb.drew;go_wp2;go_roundw;case rel=>exact⟨k+1,by omega,by go_num,by rw[htk.out,hto.out,←hstep.out];exact kRa.aJ b _,aj (aj hgb (aI g b _)) fH⟩
   case measure=>simp[intOf];omega
  ·obtain rfl:k=M.length:=(by omega);rw[List.take_length,hall.out]at kRw;have m2:=k1.grown hgw (by simp;omega);have d0:=Blk.n0 m3;have d1:=Blk.n1 m3;have j0:=Blk.n0 m2;have j1:=Blk.n1 m2;have jf:=m2.frozen 0;have jf1:=m2.frozen 1;have hbF:=below_grown hb6 hgw hb6.size (by intro k hk;injection hk with hk;omega);go_wp2;have n1:g≠w.heap.size+1:=(by omega);have kF0:=((kRw.far (p:=⟨w.heap.size+1,0,none⟩) n1 (.int .i64 n)).far (p:=⟨w.heap.size+1,1,none⟩) n1 (.slice (some ⟨g,0,none⟩) n n));have hF:=((hbF.setCell (p:=⟨w.heap.size+1,0,none⟩) (by simp) (.int .i64 n)).setCell (p:=⟨w.heap.size+1,1,none⟩) (by simp) (.slice (some ⟨g,0,none⟩) n n));exact bodyPost_ret (v:= .tuple #[.agg #[.int .i64 n,.slice (some ⟨g,0,none⟩) n n],.int .i64 0]) (by simp[results,Tryz.results129,go_sem,j0,j1]) rfl ⟨g,by omega,rfl,kF0,hF⟩
def mq(n:Nat)(E F:ak)(k:Nat)(l:List Nat):ak:=fun a c=>(decide (a<k)&&iY n E F a c)||(decide (a=k)&&l.any fun b=>F b c)
theorem DU(n:Nat)(E F:ak):mq n E F 0 []=noE:=by funext a c;simp[mq,noE]
theorem GA{n:Nat}{E F:ak}{k y:Nat}{l:List Nat}(hk:k<n):(bn n (mq n E F k l)).setIfInBounds k (.int .u64 (aS (mq n E F k l k) n|||aS (F y) n:Nat))=bn n (mq n E F k (l++[y])):=by
 rw[yK hk (zK (p:=mq n E F k l k) (q:=F y) (n:=n))];refine bW fun a b ha hb=> ?_;by_cases e:a=k
 ·subst e;simp[mq]
 ·simp[mq,e]
theorem GD{n:Nat}{E F:ak}{k:Nat}:bn n (mq n E F k ((List.range n).filter (E k)))=bn n (mq n E F (k+1) []):=by
 refine bW fun a b ha hb=> ?_;unfold mq iY;by_cases e:a=k
 ·subst e;simp only[Nat.lt_irrefl,decide_false,Bool.false_and,Bool.false_or,decide_true,Bool.true_and,List.any_nil,Bool.and_false,Bool.or_false,Nat.lt_succ_self];rw[List.any_filter]
 ·have:decide (a<k+1)=decide (a<k):=(by simp;omega);simp[e,this]
theorem JM{n:Nat}{E F:ak}:bn n (mq n E F n [])=bn n (iY n E F):=bW fun a b ha hb=>by simp[mq,ha]
set_option maxRecDepth 100000 in
theorem DV(n:Nat)(A A':Option Addr)(c c':Nat)(E F:ak)(K:Nat→Prop)(w:World)(h:GrS w K n A c E)(h':GrS w K n A' c' F)(hK:∀b,K b→b<w.heap.size)(hT:gL w):
 Calls Tryz.prog 100 #[.agg #[.int .i64 n,.slice A n c],.agg #[.int .i64 n,.slice A' n c']] w (Gv w n (iY n E F)):=by
 obtain⟨W0,hW0⟩:∃W0,((w.alloc (.cells #[.int .i64 n,.slice A n c] 77)).alloc (.cells #[.int .i64 n,.slice A' n c'] 77)).alloc (.cells #[.int .i64 0,.slice none 0 0] 77)=W0:=⟨_,rfl⟩;have hB:=gY hW0;have hs0:=Dt hW0;have k0:=Blk.zG hW0;have k1:=Blk.u6 hW0;have k2:=Blk.u7 hW0;have hg:=hide (h.keep (Agree.below hB hK) (fun b hb=>hb));have hg':=hide (h'.keep (Agree.below hB hK) (fun b hb=>hb));have hn:=h.n64;replace hK:=hide hK;have hKW:Hid (∀b,K b→b<W0.heap.size):=hide fun b hb=>(by have:=hK.out b hb;omega);clear h h';replace hs0:=hide hs0;have c0:=Blk.n0 k0;have c1:=Blk.n1 k0;have e0:=Blk.n0 k1;have e1:=Blk.n1 k1;go_enter Tryz.func100,Tryz.ntmps100;go_wp2_with fail;clear hW0 c0 c1 e0 e1;refine(vO n A A' c c' E F K _ hg.out hg'.out hKW.out).mono ?_;rintro e w1 ⟨rfl,hb1⟩;have hs1:w.heap.size+3≤w1.heap.size:=(by have:=hb1.size;have:=hs0.out;omega);have hga:=hide (hg.out.keep (Agree.below hb1 hKW.out) (fun b hb=>hb));have hgb:=hide (hg'.out.keep (Agree.below hb1 hKW.out) (fun b hb=>hb));replace k0:=k0.below hb1 k0.lt;replace k1:=k1.below hb1 k1.lt;replace k2:=k2.below hb1 k2.lt;have hb2:=hB.trans (hb1.mono hB.size);clear hg hg' hb1 hB hKW hs0;have c0:=Blk.n0 k0;go_wp2_with fail;refine(iW n hn _).mono ?_;rintro e w2 ⟨g,hgs,rfl,kR,hb3⟩;have hK1:∀b,K b→b<w1.heap.size:=fun b hb=>(by have:=hK.out b hb;omega);replace hga:=hide (hga.out.keep (Agree.below hb3 hK1) (fun b hb=>hb));replace hgb:=hide (hgb.out.keep (Agree.below hb3 hK1) (fun b hb=>hb));replace k0:=k0.below hb3 k0.lt;replace k1:=k1.below hb3 k1.lt;replace k2:=k2.below hb3 k2.lt;replace hb2:=hb2.trans (hb3.mono hb2.size);have hs2:w1.heap.size≤w2.heap.size:=hb3.size;have hgl:=kR.lt;clear hb3 hK1 c0;obtain⟨W3,hW3⟩:∃W3,w2.alloc (.cells #[.int .i64 n,.slice (some ⟨g,0,none⟩) n n] 77)=W3:=⟨_,rfl⟩;have k3:=Blk.newEq hW3;have hs3:=ay hW3;replace k0:=k0.au hW3;replace k1:=k1.au hW3;replace k2:=k2.au hW3;replace kR:=kR.au hW3;have hb5:=ah hb2 hW3 (by omega);have hKw:∀b,K b→b<w2.heap.size:=fun b hb=>(by have:=hK.out b hb;omega);replace hga:=hide (hga.out.keep (Agree.au hW3 hKw) (fun b hb=>hb));replace hgb:=hide (hgb.out.keep (Agree.au hW3 hKw) (fun b hb=>hb));have hgL:g≤W3.heap.size:=(by omega);have hg2:w2.heap.size<W3.heap.size:=(by omega);have hKg:Hid (∀b,K b→b<g):=hide fun b hb=>(by have:=hK.out b hb;omega);have hT3:=hide (hT.below hb5);have Rh:0<w.heap.size:=hT.lt;replace hs3:=hide hs3;clear hb2 hKw;have d1:=Blk.n1 k3;go_wp2_with fail;clear d1;have hz:=hide (DU n E F);go_loopw [25] (fun s25 wr=>∃k:Nat,k≤n∧s25= .int .i64 k∧Blk wr g 172 (bn n (mq n E F k []))∧W3.grownBy wr (some g)) (fun s25 _=>n-(intOf s25).toNat);case atStart=>exact⟨0,Nat.zero_le _,by go_num,by rw[hz.out];exact kR,World.grownBy.refl _ _⟩
 case round=>
  obtain⟨Wo,rfl⟩:∃Wo,Wo=wr:=⟨_,rfl⟩;obtain⟨k,hk,rfl,kRw,hgw⟩:=hrel;have hi1:(0:Int)≤(k:Int):=Int.natCast_nonneg _;have Nu:=hgw.size;by_cases hlt:k<n
  ·have hi2:(k:Int)<(n:Int):=(by omega);have m0:=k0.grown hgw (by simp;omega);obtain⟨ab,ao,rfl,_,hca⟩:=(hga.out.keep (Agree.jH hgw hKg.out hgL) (fun b hb=>hb)).at_ hlt;have BJ:=hide (dS (p:=E k) hn);have hbw:=below_grown hb5 hgw hb5.size (by intro k hk;injection hk with hk;omega);have hTw:=hT.below hbw;have c1:=Blk.n1 m0;go_wp2_with fail;refine(lI _ BJ.out _ hTw).mono ?_;rintro e wl ⟨v,rfl,hl,hbl⟩;rw[lH hn]at hl;have hnx:=hide (GD (n:=n) (E:=E) (F:=F) (k:=k));have hLn:((List.range n).filter (E k)).length≤n:=Nat.le_trans (List.length_filter_le _ _) (by simp);have hLm:=hide (fun b (hb:b∈(List.range n).filter (E k))=>(List.mem_range.1 (List.mem_filter.1 hb).1:b<n));generalize(List.range n).filter (E k)=L at*;obtain⟨Al,cl,hv⟩:=hl.form;rw[aF]at hv;subst hv;have OH:=kRw.lt;have LC:=hbl.size;have hLS:=hide (hl.sl (K:=fun b=>g<b∧b<wl.heap.size) (fun b h1 h2=>⟨by omega,h2⟩));have OJ:=aj hgw (aX hbl (Nat.le_refl _));have kRl:=kRw.below hbl kRw.lt;clear hl hbl hbw hTw kRw hgw c1 m0 hca BJ;go_wp2_with fail;go_loopw [35] (fun s35 wq=>∃j:Nat,j≤L.length∧s35= .int .i64 j∧Blk wq g 172 (bn n (mq n E F k (L.take j)))∧wl.grownBy wq (some g)) (fun s35 _=>L.length-(intOf s35).toNat);case atStart=>exact⟨0,Nat.zero_le _,by go_num,by simpa using kRl,World.grownBy.refl _ _⟩
   case round=>
    clear kRl;obtain⟨j,hj,rfl,kRw,hgw⟩:=hrel;have hj1:(0:Int)≤(j:Int):=Int.natCast_nonneg _;have Nv:=hgw.size;by_cases hjl:j<L.length
    ·have hj2:(j:Int)<(L.length:Int):=(by omega);obtain⟨bl,ol,rfl,_,hcl⟩:=(hLS.out.keep (Agree.grown hgw fun b hb=>⟨hb.2,by simp;omega⟩) (fun b h=>h)).at_ (i:=j) (by rw[aF];exact hjl);rw[jg hjl]at hcl;have htk:=hide (take_snoc' hjl);have hbn:=hLm.out _ (List.getElem_mem hjl);generalize L[j]=b at*;have hstep:=hide (GA (n:=n) (E:=E) (F:=F) (k:=k) (y:=b) (l:=L.take j) hlt);have hgq:=aj OJ hgw;have m1:=k1.grown hgq (by simp;omega);have m3:=k3.grown hgq (by simp;omega);obtain⟨bb,bo,rfl,_,hcb⟩:=(hgb.out.keep (Agree.jH hgq hKg.out hgL) (fun b hb=>hb)).at_ hbn;have BJ:=hide (dS (p:=mq n E F k (L.take j) k) hn);have JH:=hide (dS (p:=F b) hn);have hj:=hide (rX (aS (mq n E F k (L.take j) k) n) (aS (F b) n));have e1:=m1.cell 1;have d1:=m3.cell 1;have f0:=kRw.frozen k;have r0:=kRw.cell k;rw[mW hlt]at r0;generalize aS (mq n E F k (L.take j) k) n=x at*;generalize aS (F b) n=y at*;have d1n:=(m3.alloc (.cells #[.int .u64 (x:Nat),.int .u64 (y:Nat)] 172)).cell 1;simp only[gA,gZ,gS]at e1 d1 d1n;have hb1:(0:Int)≤(b:Int):=Int.natCast_nonneg _;have hb2:(b:Int)<(n:Int):=(by omega);have Ri:=kRw.lt;clear m1 m3 hgq;go_wp2_with fail;refine ni [0,2,3,4,5,6,7,8,9,10,11,12] [1,13,14,15,16] [[1,13,14,15,16],[13,1,14,15,16],[13,14,1,15,16]] (by kernel_rfl) (by kernel_rfl) (fun _ _ d _ _ h=>by cases d<;>exact h) ?_;simp only[List.filterMap_cons,List.filterMap_nil,gZ,gS];repeat still_step
     refine wpStill_nil ?_;have kN:=hide (iq.bE (l:=[x,y]) (K:=fun _=>True) ((Blk.new wr 172 #[.int .u64 (x:Nat),.int .u64 (y:Nat)]).drew) trivial);have hxy:=hide (show∀z∈[x,y],z<18446744073709551616 from by intro z hz;simp at hz;rcases hz with rfl|rfl;exact BJ.out;exact JH.out);clear BJ JH;intro i hi;simp only[List.filterMap_cons,List.head?_cons,List.filterMap_nil,List.mem_cons,List.not_mem_nil,or_false,or_self]at hi;obtain rfl|rfl:i=1∨i=13:=by omega
     ·refine fP rfl ?_;simp only[eD,List.filterMap_cons,List.filterMap_nil,if_true,if_false,reduceIte,Nat.reduceEqDiff,List.length_cons,List.length_nil,Nat.reduceAdd];go_wp2_with fail;refine eG _ _ _ _ rfl ?_;simp only[List.filterMap_cons,List.filterMap_nil,gA,gZ,gS];go_wp2_with fail;refine(dW (some ⟨wr.heap.size,0,none⟩) 2 2 [x,y] (fun _=>True) _ rfl kN.out hxy.out (by omega)).mono ?_;rintro e w5 ⟨rfl,rfl⟩;rw[hj.out];go_wp2_with fail;go_wp2;go_roundw;case rel=>exact⟨j+1,by omega,by go_num,by rw[htk.out,←hstep.out];exact(kRw.aJ k _).alloc _,aj (aj (aj hgw (aI g k _)) (World.grownBy_alloc _ _ _)) fH⟩
      case measure=>simp[intOf];omega
     ·refine fP rfl ?_;simp only[eD,List.filterMap_cons,List.filterMap_nil,if_true,if_false,reduceIte,Nat.reduceEqDiff,List.length_cons,List.length_nil,Nat.reduceAdd];go_wp2_with fail;intro i hi;simp only[List.filterMap_cons,List.head?_cons,List.filterMap_nil,List.mem_cons,List.not_mem_nil,or_false,or_self]at hi;obtain rfl|rfl:i=1∨i=14:=by omega
      ·refine fP rfl ?_;simp only[eD,List.filterMap_cons,List.filterMap_nil,if_true,if_false,reduceIte,Nat.reduceEqDiff,List.length_cons,List.length_nil,Nat.reduceAdd];go_wp2_with fail;refine eG _ _ _ _ rfl ?_;simp only[List.filterMap_cons,List.filterMap_nil,gA,gZ,gS];go_wp2_with fail;refine(dW (some ⟨wr.heap.size,0,none⟩) 2 2 [x,y] (fun _=>True) _ rfl kN.out hxy.out (by omega)).mono ?_;rintro e w5 ⟨rfl,rfl⟩;rw[hj.out];go_wp2_with fail;go_wp2;go_roundw;case rel=>exact⟨j+1,by omega,by go_num,by rw[htk.out,←hstep.out];exact(kRw.aJ k _).alloc _,aj (aj (aj hgw (aI g k _)) (World.grownBy_alloc _ _ _)) fH⟩
       case measure=>simp[intOf];omega
      ·refine fP rfl ?_;simp only[eD,List.filterMap_cons,List.filterMap_nil,if_true,if_false,reduceIte,Nat.reduceEqDiff,List.length_cons,List.length_nil,Nat.reduceAdd];go_wp2_with fail;refine(dW (some ⟨wr.heap.size,0,none⟩) 2 2 [x,y] (fun _=>True) _ rfl kN.out hxy.out (by omega)).mono ?_;rintro e w5 ⟨rfl,rfl⟩;rw[hj.out];go_wp2_with fail;refine eG _ _ _ _ rfl ?_;simp only[List.filterMap_cons,List.filterMap_nil,gA,gZ,gS];go_wp2;go_roundw;case rel=>exact⟨j+1,by omega,by go_num,by rw[htk.out,←hstep.out];exact(kRw.aJ k _).alloc _,aj (aj (aj hgw (aI g k _)) (World.grownBy_alloc _ _ _)) fH⟩
       case measure=>simp[intOf];omega
    ·obtain rfl:j=L.length:=(by omega);rw[List.take_length,hnx.out]at kRw;go_wp2;go_roundw;case rel=>exact⟨k+1,by omega,by go_num,kRw,aj OJ hgw⟩
     case measure=>simp[intOf];omega
  ·obtain rfl:k=n:=(by omega);have hall:=hide (JM (n:=k) (E:=E) (F:=F));have m2:=k2.grown hgw (by simp;omega);have m3:=k3.grown hgw (by simp;omega);have d0:=Blk.n0 m3;have d1:=Blk.n1 m3;have j0:=Blk.n0 m2;have j1:=Blk.n1 m2;have jf:=m2.frozen 0;have jf1:=m2.frozen 1;have hbF:=below_grown hb5 hgw hb5.size (by intro k hk;injection hk with hk;omega);rw[hall.out]at kRw;go_wp2;have n1:g≠w.heap.size+1+1:=(by omega);have kF0:=((kRw.far (p:=⟨w.heap.size+1+1,0,none⟩) n1 (.int .i64 k)).far (p:=⟨w.heap.size+1+1,1,none⟩) n1 (.slice (some ⟨g,0,none⟩) k k));have hF:=((hbF.setCell (p:=⟨w.heap.size+1+1,0,none⟩) (by simp;omega) (.int .i64 k)).setCell (p:=⟨w.heap.size+1+1,1,none⟩) (by simp;omega) (.slice (some ⟨g,0,none⟩) k k));exact bodyPost_ret (v:= .tuple #[.agg #[.int .i64 k,.slice (some ⟨g,0,none⟩) k k],.int .i64 0]) (by simp[results,Tryz.results100,go_sem,j0,j1]) rfl ⟨g,by omega,rfl,kF0,hF⟩
end Go.Proofs.YtfhnamomiaekdaaGreatDoor
