/-
  Walks: layer 20: what each transaction reads, one by one.
-/
import Derived.Deep.OwnRows
import Derived.Test.YtfhnamomiaekdaaGreatDoorV34
import Derived.Test.YtfhnamomiaekdaaGreatDoorV02
set_option linter.unusedVariables false
set_option linter.unusedSimpArgs false
namespace Go.Proofs.YtfhnamomiaekdaaGreatDoor
open Go.RowKit Go.Inq
set_option maxHeartbeats 8000000
attribute [local go_sem↓] Go.wp_at_zero Go.wp_at_succ
theorem Mh{H:List Txn}{π:List Int}{n i t j:Nat}(hp:bg π n=true)(hi:i<π.length)(he:π[i]=(t:Int))(ht:t<H.length)(hj:j<H[t].reads.length):
 (gI H π t).take (j+1)=(gI H π t).take j++[⟨H[t].reads[j].a,fV H π H[t].reads[j].a i⟩]:=by
 have hx:=p8 hp hi;rw[he]at hx;unfold gI;rw[aJ ht,hx];rw[take_snoc' (by simpa using hj),List.getElem_map]
theorem FW{H:List Txn}{π:List Int}{t:Nat}(ht:t<H.length):(gI H π t).length=H[t].reads.length:=by unfold gI;rw[aJ ht,List.length_map]
theorem Mi(H:List Txn)(π:List Int)(κ:Int){i t:Nat}(hi:i<π.length)(he:π[i]=(t:Int))(ht:t<H.length):fV H π κ (i+1)+1=if H[t].writes.contains κ then(t:Int)+1 else fV H π κ i+1:=by
 show(if wrA H π κ i then π.getD i 0 else fV H π κ i)+1=_;unfold wrA;rw[getD_at hi,he,Int.toNat_natCast,aJ ht];split<;>rfl
theorem Bd{π:List Int}{i:Nat}(hi:i<π.length)(x:Int):x∈π.take (i+1)↔x∈π.take i∨x=π[i]:=by
 rw[List.take_succ_eq_append_getElem hi,List.mem_append,List.mem_singleton]
def jc(H:List Txn)(π:List Int)(i t:Nat):List It:=if(t:Int)∈π.take i then gI H π t else[]
theorem z16:(#[.int .i64 0,.int .i64 0,.int .i64 0,.int .i64 0,.int .i64 0,.int .i64 0,.int .i64 0,.int .i64 0,.int .i64 0,.int .i64 0,.int .i64 0,.int .i64 0,.int .i64 0,.int .i64 0,.int .i64 0,.int .i64 0]:Array Value)=Array.replicate 16 (.int .i64 0):=rfl
theorem Mj(z:Value)(n:Nat):madeCells #[z] n=Array.replicate n z:=by
 refine Array.ext (by simp[size_madeCells]) fun i h1 h2=> ?_;simp[madeCells,Nat.mod_one]
def QD(w:World)(H:List Txn)(π:List Int)(e:Ending)(w':World):Prop:=∃Bo,e= .returned (.slice (some ⟨Bo,0,none⟩) H.length H.length)∧fD w' w.heap.size Bo H.length (fun t=>gI H π t)∧Below w.heap.size w w'
set_option maxRecDepth 100000 in
theorem I7(A:Option Addr)(c:Nat)(H:List Txn)(Ap:Option Addr)(cp:Nat)(π:List Int)(w:World)(h:aD w (Old w) (.slice A H.length c) H)(hn:aH H)(hπ:aP w (Old w) (.slice Ap π.length cp) π)(hr:ay H=true)(hp:bg π H.length=true):
 Calls Tryz.prog 156 #[.agg #[.slice A H.length c],.slice Ap π.length cp] w (QD w H π):=by
 obtain⟨it,hit,hz1,hz2,hz3⟩:=info_parts Sq;have hlen:=FD hp;have h32:H.length≤32:=((aB H).1 hr).1;have hok:=hide ((aB H).1 hr).2;obtain⟨W0,hW0⟩:∃W0,w.alloc (.cells #[.slice A H.length c] 24)=W0:=⟨_,rfl⟩;have hB:=ah (Below.refl w.heap.size w) hW0 (Nat.le_refl _);have k0:=Blk.newEq hW0;have hcr:=hide (FV A c H Ap cp π W0 (h.below hB) hn (hπ.below hB) (by omega));rw[show gX H π=true by unfold gX;rw[hr,hp];rfl]at hcr;have Vx:π.length≤32:=(by omega);have hll:=hide hlen;have hbd:=hide (fun i (hi:i<π.length)=>jU hp hi);have hnd:=hide (fun i (hi:i<π.length)=>(fun hm=>(by
  obtain⟨j,hj,e⟩:=List.getElem_of_mem hm;rw[List.getElem_take]at e;rw[List.length_take]at hj;exact qK hp (show j<i by omega) hi e):π[i]∉π.take i))
 have hpt:=hide (fun i t j (hi:i<π.length) he ht hj=>Mh (H:=H) (t:=t) (j:=j) hp hi he ht hj);have hall:=hide (fun t (ht:t<H.length)=>(by unfold jc;rw[List.take_length,if_pos (mQ hp ht)]:jc H π π.length t=gI H π t));have hmk:∀W:World,(Instr.makeSlice 236 (.int .i64 (π.length:Int)) (.int .i64 (π.length:Int))).run Tryz.prog W= .ok (.slice (some ⟨W.heap.size,0,none⟩) π.length π.length) (W.alloc (.cells (madeCells #[.slice none 0 0] π.length) 107)):=
  fun W=>run_make_row' (P:=Tryz.prog) 236 107 (.slice none 0 0) 24 Tryz.underlying236 QC rfl .i64 .i64 _ (by omega) (by omega) W
 rw[Mj]at hmk;generalize hRp:Array.replicate π.length (Value.slice none 0 0)=Rp at*;have hrl:=hide (fun i (hi:i<H.length)=>(hn.2 _ (List.getElem_mem hi)));have Tv:=hide (fun(i:Nat) (hi:i≤π.length) (κ:Int)=>(by
  rcases wh H π κ i with⟨g,_⟩|⟨q,hq,g,_⟩
  ·omega
  ·rw[getD_at (by omega)]at g;have:=jU hp (show q<π.length by omega);omega: -1≤fV H π κ i∧fV H π κ i<32))
 replace hn:=hide hn;replace h:=hide h;replace hπ:=hide hπ;replace hRp:=hide hRp;clear hr hp hlen;have c0:=Blk.n0 k0;go_enter Tryz.func156,Tryz.ntmps156;go_wp2_with fail;clear hW0 c0;refine hcr.out.mono ?_;rintro e w1 ⟨rfl,hb1⟩;have hb:=hB.trans (hb1.mono hB.size);replace k0:=k0.below hb1 k0.lt;clear hb1 hB hcr;go_upto_region 5 with fail;rw[z16];obtain⟨W2,hW2⟩:∃W2,(w1.alloc (.cells (Array.replicate 16 (.int .i64 0)) 277)).alloc (.cells Rp 107)=W2:=⟨_,rfl⟩;rw[hW2];have hB2:Below w1.heap.size w1 W2:=(by rw[←hW2];exact((Below.refl _ w1).alloc (Nat.le_refl _) _).alloc (by simp) _);have hK2:iQ W2 w1.heap.size 277 16 fun _=>0:=iQ.new (by rw[←hW2];exact(Blk.new _ _ _).alloc _);have hP2:fD W2 w.heap.size (w1.heap.size+1) H.length fun _=>[]:=fD.new (by
  rw[←hW2,←hll.out,hRp.out];have:=Blk.new (w1.alloc (.cells (Array.replicate 16 (.int .i64 0)) 277)) 107 Rp;simpa using this)
 have hZ2:Hid (∀t,t<H.length→(t:Int)∉π.take 0→W2.cell? ⟨w1.heap.size+1,t,none⟩=some (.slice none 0 0)):=hide fun t ht _=>by
  have hkr:Blk W2 (w1.heap.size+1) 107 Rp:=by
   rw[←hW2];have:=Blk.new (w1.alloc (.cells (Array.replicate 16 (.int .i64 0)) 277)) 107 Rp;simpa using this
  rw[hkr.cell,←hRp.out,hll.out];simp[ht]
 have k2:=k0.below hB2 k0.lt;have hb2:=hb.trans (hB2.mono hb.size);have hw1:=hb.size;have hkl:=k0.lt;have hKs:Hid (∀κ:Int,(0:Int)=fV H π κ 0+1):=hide fun _=>rfl;have hPs:Hid (∀t,t<H.length→([]:List It)=jc H π 0 t):=hide fun t _=>(by unfold jc;simp);clear hW2 hB2 hb k0 hmk hRp;generalize w1.heap.size=Bl at*;go_wp2_with fail;go_loopw [22] (fun s22 wr=>∃i:Nat,i≤π.length∧s22= .int .i64 i∧iQ wr Bl 277 16 (fun κ=>fV H π κ i+1)∧fD wr w.heap.size (Bl+1) H.length (jc H π i)∧Hid (∀t,t<H.length→(t:Int)∉π.take i→wr.cell? ⟨Bl+1,t,none⟩=some (.slice none 0 0))∧Below w.heap.size w wr∧Blk wr w.heap.size 24 #[.slice A H.length c]) (fun s22 _=>π.length-(intOf s22).toNat);case atStart=>exact⟨0,Nat.zero_le _,by go_num,hK2.congr hKs.out,hP2.congr hPs.out,hZ2,hb2,k2⟩
 case round=>
  clear hK2 hP2 hb2 k2 hKs hPs;obtain⟨Wo,rfl⟩:∃Wo,Wo=wr:=⟨_,rfl⟩;obtain⟨i,hi,rfl,hK,hP,hZ,hb,k0⟩:=hrel;have hi1:(0:Int)≤(i:Int):=Int.natCast_nonneg _;by_cases hlt:i<π.length
  ·have hi2:(i:Int)<(π.length:Int):=(by omega);obtain⟨bp,op,rfl,hbp,d0'⟩:=hπ.out.at_ hlt;have d0:=(hb.cell (p:=⟨bp,op+i,none⟩) hbp).trans d0';clear d0' hbp;have Uc:=hbd.out i hlt;have Sr:=hide (hnd.out i hlt);obtain⟨t,ht⟩:∃t:Nat,π[i]=(t:Int):=⟨π[i].toNat,by omega⟩;have htl:t<H.length:=(by omega);have Vy:=hide (fun j hj=>hpt.out i t j hlt ht htl hj);have hfs:=hide (fun κ=>Mi H π κ hlt ht htl);have hmt:=hide (fun x=>Bd hlt x);have hlp:=hide (FW (π:=π) htl);have hfr:=hide (fun κ=>Tv.out i hi κ);rw[ht]at d0 Sr hmt;have ht0:(0:Int)≤(t:Int):=Int.natCast_nonneg _;have ht1:(t:Int)<(H.length:Int):=(by omega);have ht2:(t:Int)<(π.length:Int):=(by rw[hll.out];exact ht1);obtain⟨b,off,Aw,cw,Ar,cr,rfl,hbK,d1',d2',d3',Kw,FQ⟩:=aD.at_ h.out htl;have d2:=(hb.cell (p:=⟨b,off+t*3+1,none⟩) hbK).trans d2';have d3:=(hb.cell (p:=⟨b,off+t*3+2,none⟩) hbK).trans d3';have d2o:=hide d2';clear d1' d2' d3';have hws:=hide Kw;have hrs:=hide FQ;clear Kw FQ;have hkk:=hide (hok.out t htl);obtain⟨hwl,WJ⟩:=hrl.out t htl;replace ht:=hide ht;have hL0:jc H π i t=[]:=(by unfold jc;rw[if_neg Sr.out]);have hG:=hP.start htl (hZ.out t htl Sr.out) hb.size;have c0:=Blk.n0 k0;have hwo:=hb.size;have WK:Bl+1<Wo.heap.size:=by
    obtain⟨_,_,_,g⟩:=hG.cell htl;exact g.lt
   clear hP hL0;go_wp2_with fail;clear d0 d2 d3 c0;go_loopw [33] (fun s33 wq=>∃(j:Nat) (v:Value),j≤H[t].reads.length∧s33= .int .i64 j∧iQ wq Bl 277 16 (fun κ=>fV H π κ i+1)∧kU Wo wq w.heap.size (Bl+1) H.length t (jc H π i) v ((gI H π t).take j)∧Below w.heap.size w wq∧Blk wq w.heap.size 24 #[.slice (some ⟨b,off,none⟩) H.length c]) (fun s33 _=>H[t].reads.length-(intOf s33).toNat);case atStart=>exact⟨0,_,Nat.zero_le _,by go_num,hK,hG,hb,k0⟩
   case round=>
    clear hK hG hb k0;obtain⟨j,v,hj,rfl,hK,hG,hb,k0⟩:=hrel;have hj1:(0:Int)≤(j:Int):=Int.natCast_nonneg _;by_cases hjl:j<H[t].reads.length
    ·have hj2:(j:Int)<(H[t].reads.length:Int):=(by omega);obtain⟨br,orr,rfl,hbr,x0',x1'⟩:=hrs.out.at_ hjl;have x0:=(hb.cell (p:=⟨br,orr+j*2,none⟩) hbr).trans x0';have x1:=(hb.cell (p:=⟨br,orr+j*2+1,none⟩) hbr).trans x1';clear x0' x1';have hpj:=hide (Vy.out j hjl);have hrk:=hkk.out.Rf _ (List.getElem_mem hjl);generalize H[t].reads[j]=x at*;obtain⟨xa,xb⟩:=x;dsimp only at*;obtain⟨κ,rfl⟩:∃κ:Nat,xa=κ:=⟨xa.toNat,by omega⟩;have hκ:κ<16:=(by omega);have hκ0:(0:Int)≤(κ:Int):=Int.natCast_nonneg _;have hκ1:(κ:Int)<16:=(by omega);clear hrk;have hfb:=hfr.out κ;obtain⟨fr,QE⟩:∃fr,fV H π (κ:Int) i=fr:=⟨_,rfl⟩;rw[QE]at hfb hpj;obtain⟨W6,hW6⟩:∃W6,wr.alloc (.cells #[.int .i64 κ,.int .i64 xb] 106)=W6:=⟨_,rfl⟩;have hB6:=ah (Below.refl wr.heap.size wr) hW6 (Nat.le_refl _);have m0:=Blk.newEq hW6;have hb6:=hb.trans (hB6.mono hb.size);have hK6:=hK.below hB6 hK.lt;have hG6:=hG.below hB6;have k6:=k0.below hB6 k0.lt;obtain⟨kc,_⟩:=hK6.cell κ hκ;try dsimp only at kc
     rw[QE]at kc;obtain⟨gc,gf,_⟩:=hG6.cell htl;have e0:=Blk.n0 m0;obtain⟨Av,cv,rfl⟩:=aU hG6.2.2.1;have hlj:((gI H π t).take j).length≤1000000:=(by rw[List.length_take];omega);generalize(gI H π t).take j=M at*;replace QE:=hide QE;replace hK6:=hide hK6;replace hG6:=hide hG6;clear hK hG hb k0 hB6;go_upto_region 11 with fail;clear hW6 x0 x1;have hwa:IntKind.i64.wrap (fr+1-1)=fr:=(by rw[Int.add_sub_cancel];exact Go.IntWalk.i64_in _ (by omega));have hwb:RowKit.wrap64 (fr+1-1)=fr:=(by rw[Int.add_sub_cancel];exact Go.IntWalk.wrap64_in _ (by omega));have hwc:IntKind.i64.wrap fr=fr:=Go.IntWalk.i64_in _ (by omega);have hwd:RowKit.wrap64 fr=fr:=Go.IntWalk.wrap64_in _ (by omega);refine eB [0,1,2,3,4,5,6,7,8,9,10,11,12,13] [14,15,16,17] (by kernel_rfl) (by kernel_rfl) (fun _ _ d _ _ h=>by cases d<;>exact h) ?_;simp only[List.filterMap_cons,List.filterMap_nil,gZ,gS];repeat still_step
     refine wpStill_nil ?_;refine wpList_plain rfl (fun K hK=> ?_);go_simp;refine hK _ _ ?_;clear hK K;have hGd:kU Wo W6.drew w.heap.size (Bl+1) H.length t (jc H π i) (.slice Av M.length cv) M:=hG6.out;have Ud:Below w.heap.size w W6.drew:=hb6.trans ⟨rfl,rfl,rfl,Nat.le_refl _,fun _ _=>rfl⟩;refine bF (enc:=It.enc) rfl (.tmp 42) (.tmp 51) 107 rfl Wo.heap.size 106 it _ 2 16 Tryz.underlying107 hit hz1 hz2 hz3 rfl (by decide) (.slice Av M.length cv) M rfl hGd.2.2.1 (fun _=>rfl) (⟨κ,fr⟩:It) _ rfl (by first|rfl|(simp[Act.eval];done)|(simp;rfl)) take_one (by unfold maxLen;omega) (by omega) hGd.2.2.2.2 w w.heap.size (by omega) Ud ?_;intro v7 w7 uD hg7 hb7 l5;have hg8:W6.drew.grownBy w7 (Value.slice Av M.length cv).ownBlock:=ak (World.grownBy_alloc _ _ _) hg7;obtain⟨M9,hM9⟩:∃M9,M++[(⟨(κ:Int),fr⟩:It)]=M9:=⟨_,rfl⟩;rw[hM9]at uD hpj;have hG9:=hGd.push (l':=M9) hg8 uD;obtain⟨_,_,csB,hkB⟩:=hGd.cell htl;have Sv:=hkB.grown hg8 (by
      intro e;obtain⟨cs',h9⟩:=lI hGd.2.2.1 e.symm;have:=hkB.symm.trans h9;simp at this)
     obtain⟨gcd,_,_⟩:=hGd.cell htl;have z1:=(Sv.cell t).trans ((hkB.cell t).symm.trans gcd);have z2:=Sv.frozen t;have hoff:∀{g:Nat} {ty:TypeId} {cs:Array Value},Blk W6.drew g ty cs→ty≠106→some g≠(Value.slice Av M.length cv).ownBlock:=fun{g ty cs} hk2 ht2 e=>by
      obtain⟨cs',h9⟩:=lI hGd.2.2.1 e.symm;have:=hk2.symm.trans h9;simp at this;exact ht2 this.2
     have hK9:iQ (w7.setCell ⟨Bl+1,t,none⟩ v7) Bl 277 16 (fun κ=>fV H π κ i+1):=by
      obtain⟨csK,hk1,hk2⟩:=hK6.out;have hk3:Blk W6.drew Bl 277 csK:=hk1;exact⟨csK,(hk3.grown hg8 (hoff hk3 (by decide))).far (p:=⟨Bl+1,t,none⟩) (show Bl≠Bl+1 by omega) _,hk2⟩
     have hk6:Blk W6.drew w.heap.size 24 #[.slice (some ⟨b,off,none⟩) H.length c]:=k6;have hk9:=(hk6.grown hg8 (hoff hk6 (by decide))).far (p:=⟨Bl+1,t,none⟩) (show w.heap.size≠Bl+1 by omega) v7;have hb9:=hb7.setCell (p:=⟨Bl+1,t,none⟩) (show w.heap.size≤Bl+1 by omega) v7;obtain⟨A7,c7,rfl⟩:=aU uD;replace hM9:=hide hM9;clear hGd hkB Sv hoff hg8 hg7 uD hb7 l5 hk6 k6 Ud hb6 gcd gc gf kc e0 m0 hK6 hG6 csB hwa hwb hwc hwd;go_wp2;go_roundw;case rel=>exact⟨j+1,_,by omega,by go_num,hK9,by rw[hpj.out];exact hG9,hb9,hk9⟩
     case measure=>simp[intOf];omega
    ·obtain rfl:j=H[t].reads.length:=(by omega);rw[List.take_of_length_le (by rw[hlp.out];exact Nat.le_refl _)]at hG;have hPd:=hG.done htl;have hPe:fD wr w.heap.size (Bl+1) H.length (jc H π (i+1)):=hPd.congr fun u hu=>by
      unfold jc;by_cases e:u=t
      ·subst e;rw[if_pos rfl,if_pos ((hmt.out _).2 (.inr rfl))]
      ·rw[if_neg e];by_cases g:(u:Int)∈π.take i
       ·rw[if_pos g,if_pos ((hmt.out _).2 (.inl g))]
       ·rw[if_neg g,if_neg (fun q=>(hmt.out _).1 q|>.elim g (fun e'=>e (by omega)))]
     have hZe:Hid (∀u,u<H.length→(u:Int)∉π.take (i+1)→wr.cell? ⟨Bl+1,u,none⟩=some (.slice none 0 0)):=hide fun u hu hn'=>by
      have hut:u≠t:=(by rintro rfl;exact hn' ((hmt.out _).2 (.inr rfl)));rw[hG.other hut];exact hZ.out u hu fun g=>hn' ((hmt.out _).2 (.inl g))
     have c0:=Blk.n0 k0;have d2:=(hb.cell (p:=⟨b,off+t*3+1,none⟩) hbK).trans d2o.out;clear hG hPd hZ;go_wp2_with fail;clear c0 d2;have hj0:Hid (∀κ:Int,fV H π κ i+1=if((H[t].writes.take 0).contains κ)then(t:Int)+1 else fV H π κ i+1):=hide fun κ=>(by simp);have Vz:=hide (fun j (hj:j<H[t].writes.length) (κ:Int)=>(by
      rw[take_snoc' hj,List.contains_append,List.contains_cons,List.contains_nil,Bool.or_false]:(H[t].writes.take (j+1)).contains κ=((H[t].writes.take j).contains κ||κ==H[t].writes[j])))
     go_loopw [62] (fun s62 wq=>∃j:Nat,j≤H[t].writes.length∧s62= .int .i64 j∧iQ wq Bl 277 16 (fun κ=>if((H[t].writes.take j).contains κ)then(t:Int)+1 else fV H π κ i+1)∧fD wq w.heap.size (Bl+1) H.length (jc H π (i+1))∧Hid (∀u,u<H.length→(u:Int)∉π.take (i+1)→wq.cell? ⟨Bl+1,u,none⟩=some (.slice none 0 0))∧Below w.heap.size w wq∧Blk wq w.heap.size 24 #[.slice (some ⟨b,off,none⟩) H.length c]) (fun s62 _=>H[t].writes.length-(intOf s62).toNat);case atStart=>exact⟨0,Nat.zero_le _,by go_num,hK.congr hj0.out,hPe,hZe,hb,k0⟩
     case round=>
      clear hK hPe hZe hb k0 hj0;obtain⟨j,hj,rfl,hK,hP,hZ,hb,k0⟩:=hrel;have hj1:(0:Int)≤(j:Int):=Int.natCast_nonneg _;by_cases hjl:j<H[t].writes.length
      ·have hj2:(j:Int)<(H[t].writes.length:Int):=(by omega);obtain⟨bw,ow,rfl,hbw,x0'⟩:=hws.out.at_ hjl;have x0:=(hb.cell (p:=⟨bw,ow+j,none⟩) hbw).trans x0';clear x0';have hwj:=hide (Vz.out j hjl);have hwk:=hkk.out.MJ _ (List.getElem_mem hjl);generalize H[t].writes[j]=xa at*;obtain⟨κ,rfl⟩:∃κ:Nat,xa=κ:=⟨xa.toNat,by omega⟩;have hκ:κ<16:=(by omega);have hκ0:(0:Int)≤(κ:Int):=Int.natCast_nonneg _;have hκ1:(κ:Int)<16:=(by omega);obtain⟨kc,kf⟩:=hK.cell κ hκ;have hK9:=(hK.store κ hκ ((t:Int)+1)).congr (g:=fun κ'=>if((H[t].writes.take (j+1)).contains κ')then(t:Int)+1 else fV H π κ' i+1) fun κ'=>by
        rw[hwj.out κ'];by_cases e:κ'=(κ:Int)
        ·rw[if_pos e,e,beq_self_eq_true,Bool.or_true,if_pos rfl]
        ·rw[if_neg e,show(κ'==(κ:Int))=false from beq_eq_false_iff_ne.2 e,Bool.or_false]
       have hP9:fD (wr.setCell ⟨Bl,κ,none⟩ (.int .i64 ((t:Int)+1))) w.heap.size (Bl+1) H.length (jc H π (i+1)):=hP.key hK (by decide) (by omega) κ _;have hZ9:Hid (∀u,u<H.length→(u:Int)∉π.take (i+1)→(wr.setCell ⟨Bl,κ,none⟩ (.int .i64 ((t:Int)+1))).cell? ⟨Bl+1,u,none⟩=some (.slice none 0 0)):=hide fun u hu hn'=>by
        obtain⟨cs,g1,_⟩:=hP;rw[(g1.far (p:=⟨Bl,κ,none⟩) (show Bl+1≠Bl by omega) (.int .i64 ((t:Int)+1))).cell,←g1.cell];exact hZ.out u hu hn'
       have hk9:=k0.far (p:=⟨Bl,κ,none⟩) (show w.heap.size≠Bl by omega) (.int .i64 ((t:Int)+1));have hb9:=hb.setCell (p:=⟨Bl,κ,none⟩) (show w.heap.size≤Bl by omega) (.int .i64 ((t:Int)+1));clear hK hP hZ k0 hb hwk hwj;go_wp2;go_roundw;case rel=>exact⟨j+1,by omega,by go_num,hK9,hP9,hZ9,hb9,hk9⟩
       case measure=>simp[intOf];omega
      ·obtain rfl:j=H[t].writes.length:=(by omega);have hK9:=hK.congr (g:=fun κ=>fV H π κ (i+1)+1) fun κ=>by
        rw[List.take_length,hfs.out κ]
       go_wp2;go_roundw;case rel=>exact⟨i+1,by omega,by go_num,hK9,hP,hZ,hb,k0⟩
       case measure=>simp[intOf];omega
  ·obtain rfl:i=π.length:=(by omega);have hPf:=hP.congr hall.out;rw[hll.out];go_wp2;go_ret;exact⟨_,rfl,hPf,hb⟩
end Go.Proofs.YtfhnamomiaekdaaGreatDoor
