/-
  Walks: layer 9's reference: who writes a key.
-/
import Derived.Test.YtfhnamomiaekdaaGreatDoorY28
import Derived.Test.YtfhnamomiaekdaaGreatDoorY29
import Derived.Test.YtfhnamomiaekdaaGreatDoorY05
set_option linter.unusedVariables false
set_option linter.unusedSimpArgs false
namespace Go.Proofs.YtfhnamomiaekdaaGreatDoor
open Go.RowKit Go.Inq
set_option maxHeartbeats 8000000
attribute [local go_sem↓] Go.wp_at_zero Go.wp_at_succ
set_option maxRecDepth 100000 in
theorem yF(A:Option Addr)(c:Nat)(H:List Txn)(key:Int)(w:World)(h:aF w (Old w) (.slice A H.length c) H)(hr:aC H=true)(hn:aB H):
 Calls Tryz.prog 121 #[.agg #[.slice A H.length c],.int .i64 key] w (yR w (au (fE H key))):=by
 obtain⟨ii,hii,hi1,hi2,hi3⟩:=info_parts gW;have h32:H.length≤32:=((aA H).1 hr).1;obtain⟨W0,hW0⟩:∃W0,w.alloc (.cells #[.slice A H.length c] 24)=W0:=⟨_,rfl⟩;have hB:=ah (Below.refl w.heap.size w) hW0 (Nat.le_refl _);have k0:=Blk.newEq hW0;have h0:=h.below hB;have hrc:=hide (gG A c H W0 h0 hn);rw[hr]at hrc;have c0:=Blk.n0 k0;go_enter Tryz.func121,Tryz.ntmps121;go_wp2_with fail;clear hW0 c0;refine hrc.out.mono ?_;rintro e w1 ⟨rfl,hb1⟩;have hB1:=hB.trans (hb1.mono hB.size);replace k0:=k0.below hb1 k0.lt;clear hrc h0 hb1 hB;go_wp2_with fail;go_loopw [5,7] (fun s5 s7 wr=>∃k:Nat,k≤H.length∧s7= .int .i64 k∧aS wr (w.heap.size+1) s5 (au (fO H key k))∧Below w.heap.size w wr∧Blk wr w.heap.size 24 #[.slice A H.length c]) (fun _ s7 _=>H.length-(intOf s7).toNat);case atStart=>exact⟨0,Nat.zero_le _,by go_num,aS.nil _ _,hB1,k0⟩
 case round=>
  clear k0 hB1;obtain⟨k,hk,rfl,hown,hb,k0⟩:=hrel;have hk1:(0:Int)≤(k:Int):=Int.natCast_nonneg _;have c0:=Blk.n0 k0;by_cases hlt:k<H.length
  ·have hk2:(k:Int)<(H.length:Int):=(by omega);obtain⟨b,off,Aw,cw,Ar,cr,rfl,_,d0,d1,d2,hws,_⟩:=aF.at_ (h.below hb) hlt;have hwl:H[k].writes.length≤maxLen:=(by have:=(hn.2 _ (List.getElem_mem hlt)).1;unfold maxLen;omega);have hst:=hide (wP H key k);rw[aO hlt]at hst;have hcnt:(fO H key k).length≤k:=Nat.le_trans (List.length_filter_le _ _) (by simp);have hsn:=hide (gX (fO H key k) k);have hlq:=hide (aN (fO H key k));have hcw:=hide (eF H[k].bL Aw cw H[k].writes (.slice Ar H[k].reads.length cr) key (Old wr) wr hws (fun b h=>h) hwl);generalize H[k].writes=L at*;generalize H[k].bL=sy at*;generalize H[k].reads=Ry at*;generalize L.contains key=cb at*;obtain⟨Av,cv,rfl⟩:=hown.form;replace hown:=hide hown;clear hws;go_wp2_with fail;clear c0 d0 d1 d2;refine hcw.out.mono ?_;rintro e w3 ⟨rfl,hb2⟩;have hb3:=hb.trans (hb2.mono hb.size);have k3:=k0.below hb2 k0.lt;have hown3:=hide (own_below hown.out hb2 (Nat.le_refl _));have hsz2:=hb3.size;clear hcw hown hb2;cases cb with
   |true=>
    have rZ:Hid (fO H key (k+1)=fO H key k++[k]):=hide (by rw[hst.out];rfl);clear hst;generalize fO H key k=L at*;have hkL:(au L).length+1≤maxLen:=(by rw[hlq.out];unfold maxLen;omega);have hkb:((au L).length+1)*8≤140737488355328:=(by rw[hlq.out];omega);generalize au L=D at*;go_wp2_with (at_builtin;go_loud (refine aT (enc:=Go.Inq.encI) rfl (.tmp 29) (.tmp 31) 33 rfl (w.heap.size+1) 3 ii _ 1 8 Tryz.underlying33 hii hi1 hi2 hi3 rfl (by decide) (.slice Av D.length cv) D rfl hown3.out (fun _=>rfl) (k:Int) _ rfl rfl Go.Inq.fH hkL hkb k3.lt w w.heap.size (by omega) hb3 ?_);intro v1 w6 hown1 hg1 hb1 ji);have k6:=(k3.alloc (.cells #[.int .i64 (k:Int)] 3)).grown hg1 (fun e=>by have:=(hown3.out.lt _ e.symm).1;omega);go_roundw;case rel=>exact⟨k+1,by omega,by go_num,by rw[rZ.out,hsn.out];exact hown1,hb1,k6⟩
    case measure=>simp[intOf];omega
   |false=>
    have rZ:Hid (fO H key (k+1)=fO H key k):=hide (by rw[hst.out];simp);clear hst;go_wp2;go_roundw;case rel=>exact⟨k+1,by omega,by go_num,by rw[rZ.out];exact hown3.out,hb3,k3⟩
    case measure=>simp[intOf];omega
  ·obtain rfl:k=H.length:=(by omega);go_wp2;go_ret;exact⟨_,rfl,own_base' hown (by omega),hb⟩
def lI(H:List Txn)(k:Nat):List Cho:=((List.range k).map fun(key:Nat)=>fJ (key:Int) (fE H (key:Int))).flatten
theorem vC(H:List Txn)(k:Nat):lI H (k+1)=lI H k++fJ (k:Int) (fE H (k:Int)):=by
 unfold lI;rw[List.range_succ,List.map_append,List.flatten_append];simp
theorem vD{α β:Type}(p:α→Bool)(f:α→List β):∀l:List α,(∀x∈l,p x=false→f x=[])→((l.filter p).map f).flatten=(l.map f).flatten
 |[],_=>rfl
 |x::l,h=>by
  have ih:=vD p f l fun y hy=>h y (by simp[hy]);cases hp:p x with
  |true=>simp[hp,ih]
  |false=>simp[hp,ih,h x (by simp) hp]
theorem F8{H:List Txn}(hr:aC H=true):lI H 16=aM H:=by
 have hb:∀t∈H,∀k∈t.writes,0≤k∧k<16:=fun t ht k hk=>by
  obtain⟨i,hi,rfl⟩:=List.getElem_of_mem ht;exact(((aA H).1 hr).2 i hi).PL k hk
 unfold lI aM;rw[wQ hb,List.map_map];symm;refine vD _ _ _ fun k _ hk=> ?_;have:fE H (k:Int)=[]:=(by simpa using hk);show fJ (k:Int) (fE H (k:Int))=[];rw[this];rfl
theorem yG{H:List Txn}(h32:H.length≤32):∀k,(lI H k).length≤k*1024
 |0=>by simp[lI]
 |k+1=>by
  rw[vC,List.length_append];have h1:=yG h32 k;have h2:=qP (k:Int) (fE H (k:Int));have h3:=og H (k:Int);have h4:(fE H (k:Int)).length*(fE H (k:Int)).length≤32*32:=Nat.mul_le_mul (by omega) (by omega);omega
theorem DV{L:List Nat}{key:Int}{i y:Nat}(hi:i<L.length)(hy:y<L.length)(hiy:i+1≤y)(P:List Cho):
 P++(((L.drop (i+1)).take (y+1-(i+1))).map fun(b:Nat)=>(⟨key,(L[i]:Nat),b⟩:Cho))=(P++(((L.drop (i+1)).take (y-(i+1))).map fun(b:Nat)=>(⟨key,(L[i]:Nat),b⟩:Cho)))++[⟨key,(L[i]:Nat),(L[y]:Nat)⟩]:=by
 have hd:y-(i+1)<(L.drop (i+1)).length:=(by rw[List.length_drop];omega);rw[show y+1-(i+1)=y-(i+1)+1 by omega,List.take_succ_eq_append_getElem hd,List.map_append,←List.append_assoc];congr 1;simp only[List.map_cons,List.map_nil,List.getElem_drop];congr 3;congr 1;congr 1;omega
set_option maxRecDepth 100000 in
theorem nK(A:Option Addr)(c:Nat)(H:List Txn)(w:World)(h:aF w (Old w) (.slice A H.length c) H)(hr:aC H=true)(hn:aB H):
 Calls Tryz.prog 58 #[.agg #[.slice A H.length c]] w (Kq w (aM H)):=by
 obtain⟨ic,hic,hi1,hi2,hi3⟩:=info_parts mP;have h32:H.length≤32:=((aA H).1 hr).1;have hall:=hide (F8 hr);have hlen:=hide (yG h32);obtain⟨W0,hW0⟩:∃W0,w.alloc (.cells #[.slice A H.length c] 24)=W0:=⟨_,rfl⟩;have hB:=ah (Below.refl w.heap.size w) hW0 (Nat.le_refl _);have k0:=Blk.newEq hW0;go_enter Tryz.func58,Tryz.ntmps58;go_wp2_with fail;clear hW0;go_loopw [3,4] (fun s3 s4 wr=>∃k:Nat,k≤16∧s4= .int .i64 k∧dw wr (w.heap.size+1) s3 (lI H k)∧Below w.heap.size w wr∧Blk wr w.heap.size 24 #[.slice A H.length c]) (fun _ s4 _=>16-(intOf s4).toNat);case atStart=>exact⟨0,Nat.zero_le _,by go_num,dw.nil _ _,hB,k0⟩
 case round=>
  clear k0 hB;obtain⟨k,hk,rfl,hown,hb,k0⟩:=hrel;have hk1:(0:Int)≤(k:Int):=Int.natCast_nonneg _;have c0:=Blk.n0 k0;by_cases hlt:k<16
  ·have hk2:(k:Int)<16:=(by omega);have hst:=hide (vC H k);have hlk:=hlen.out k;have hcw:=hide (yF A c H (k:Int) wr (h.below hb) hr hn);have hLn:=og H (k:Int);have hpa:=hide (qO (k:Int) (fE H (k:Int)));have hpi:=hide (fun i (hi:i<(fE H (k:Int)).length)=>uN (k:Int) (fE H (k:Int)) hi);have hpl:=hide (qQ (k:Int) (fE H (k:Int)));generalize fE H (k:Int)=L at*;obtain⟨Av,cv,rfl⟩:=hown.form;replace hr:=hide hr;generalize hq:lI H k=Q at*;replace hq:=hide hq;go_wp2_with fail;clear c0;refine hcw.out.mono ?_;rintro e wl ⟨vl,rfl,hLO,hbl⟩;obtain⟨Al,cl,hv⟩:=hLO.form;rw[aN]at hv;subst hv;have hLS:=hLO.sl (K:=fun b=>wr.heap.size≤b∧b<wl.heap.size) (fun g h1 h2=>⟨h1,h2⟩);have hb2:=hb.trans (hbl.mono hb.size);have k2:=k0.below hbl k0.lt;have hown2:dw wl (w.heap.size+1) (.slice Av Q.length cv) Q:=own_below hown hbl (Nat.le_refl _);have hlt2:=hide (fun g hg=>hown.lt g hg);clear hcw hLO hbl hb hown k0;go_wp2_with fail;go_loopw [3,6] (fun s3 s6 wq=>∃i:Nat,i≤L.length∧s6= .int .i64 i∧dw wq (w.heap.size+1) s3 (Q++bI k L i)∧bO NoS wl (.slice Av Q.length cv) wq s3) (fun _ s6 _=>L.length-(intOf s6).toNat);case atStart=>exact⟨0,Nat.zero_le _,by go_num,by simpa[bI]using hown2,bO.refl _ _ _⟩
   case round=>
    clear hown2;obtain⟨Wo,rfl⟩:∃Wo,Wo=wr:=⟨_,rfl⟩;obtain⟨i,hi,rfl,hown,hg⟩:=hrel;have Kn:(0:Int)≤(i:Int):=Int.natCast_nonneg _;by_cases hil:i<L.length
    ·have Ko:(i:Int)<(L.length:Int):=(by omega);have MO:=hide (hpi.out i hil);have rW:=hpl.out i;have hlen3:i*L.length≤32*32:=Nat.mul_le_mul (by omega) (by omega);obtain⟨Ar,cr,rfl⟩:=dw.form hown;replace hown:=hide hown;go_wp2_with fail;go_loopw [3,7] (fun s3 s7 wq=>∃y:Nat,i+1≤y∧y≤L.length∧s7= .int .i64 y∧dw wq (w.heap.size+1) s3 (Q++bI k L i++(((L.drop (i+1)).take (y-(i+1))).map fun(b:Nat)=>(⟨k,(L[i]:Nat),b⟩:Cho)))∧bO NoS wl (.slice Av Q.length cv) wq s3) (fun _ s7 _=>L.length-(intOf s7).toNat);case atStart=>exact⟨i+1,Nat.le_refl _,hil,by go_num,by simpa using hown.out,hg⟩
     case round=>
      clear hown hg;obtain⟨Wp,rfl⟩:∃Wp,Wp=wr:=⟨_,rfl⟩;obtain⟨y,hiy,hy,rfl,hown,hg⟩:=hrel;have Tc:(0:Int)≤(y:Int):=Int.natCast_nonneg _;by_cases hyl:y<L.length
      ·have Td:(y:Int)<(L.length:Int):=(by omega);have hin:=hide (DV (key:=(k:Int)) hil hyl hiy (Q++bI k L i));have hLq:=hLS.keep (K':=fun b=>wr.heap.size≤b∧b<wl.heap.size) (hg.agree fun b hb=>⟨hb.2,fun e=>by have:=(hlt2.out b e).2;omega,noS b⟩) (fun b h=>h);obtain⟨bl,ol,rfl,-,z0⟩:=hLq.at_ (i:=i) (by rw[aN];exact hil);have z1:=(hLq.cells (i:=y) (by rw[aN];exact hyl)).2;rw[iF hil]at z0;rw[iF hyl]at z1;have hDl:(Q++bI k L i++(((L.drop (i+1)).take (y-(i+1))).map fun(b:Nat)=>(⟨k,(L[i]:Nat),b⟩:Cho))).length≤100000:=by
        simp only[List.length_append,List.length_map,List.length_take,List.length_drop];omega
       generalize Q++bI k L i++(((L.drop (i+1)).take (y-(i+1))).map fun(b:Nat)=>(⟨k,(L[i]:Nat),b⟩:Cho))=D at*;generalize L[i]=a at*;generalize L[y]=b at*;obtain⟨Ad,cd,rfl⟩:=dw.form hown;have hkD:D.length+1≤maxLen:=(by unfold maxLen;omega);have hkb:(D.length+1)*24≤140737488355328:=(by omega);replace hown:=hide hown;have hsz2:w.heap.size+1≤Wp.heap.size:=(by have:=k2.lt;have:=hg.size;omega);go_wp2_with fail;refine aY [0,1,2,3,4,5,6,7,8,9,10] [11,12,13] (by kernel_rfl) (by kernel_rfl) (fun _ _ d _ _ h=>by cases d<;>exact h) ?_;simp only[List.filterMap_cons,List.filterMap_nil,gZ,gS];repeat still_step
       refine wpStill_nil ?_;have hown':=hide (show dw Wp.drew (w.heap.size+1) (.slice Ad D.length cd) D from hown.out);have hg':=hg.drew;have QB:w.heap.size+1≤Wp.drew.heap.size:=hsz2;clear hg hsz2;change wpList _ _ _ _ _ Wp.drew;generalize Wp.drew=Wx at*;refine wpList_plain rfl (fun K hK=> ?_);go_simp;refine hK _ _ ?_;clear hK K;refine BG (enc:=jJ) rfl (.tmp 29) (.tmp 40) 65 rfl (w.heap.size+1) 102 ic _ 3 24 Tryz.underlying65 hic hi1 hi2 hi3 rfl (by decide) (.slice Ad D.length cd) D rfl hown'.out (fun _=>rfl) (⟨(k:Int),(a:Int),(b:Int)⟩:Cho) _ rfl rfl iG hkD hkb QB ?_;intro v1 w6 hown1 hg1;go_wp2;go_roundw;case rel=>exact⟨y+1,by omega,by omega,by go_num,by rw[hin.out];exact hown1,hg'.trans hg1⟩
       case measure=>simp[intOf];omega
      ·obtain rfl:y=L.length:=(by omega);have hq2:Q++bI k L i++(((L.drop (i+1)).take (L.length-(i+1))).map fun(b:Nat)=>(⟨k,(L[i]:Nat),b⟩:Cho))=Q++bI k L (i+1):=by
        rw[List.take_of_length_le (by simp),MO.out,List.append_assoc]
       rw[hq2]at hown;clear hq2;go_wp2;go_roundw;case rel=>exact⟨i+1,by omega,by go_num,hown,hg⟩
       case measure=>simp[intOf];omega
    ·obtain rfl:i=L.length:=(by omega);have GN:=hide (show dw Wo (w.heap.size+1) u3 (lI H (k+1)) by rw[hst.out,←hpa.out];exact hown);have hbF:=hide (hg.fD hb2 hb2.size (fun g e=>by have:=(hlt2.out g e).1;omega));have k4:=hide (hg.blk k2 (fun e=>by have:=(hlt2.out _ e).1;omega) (noS _));clear hown hg;go_wp2;go_roundw;case rel=>exact⟨k+1,by omega,by go_num,GN.out,hbF.out,k4.out⟩
     case measure=>simp[intOf];omega
  ·obtain rfl:k=16:=(by omega);rw[hall.out]at hown;go_wp2;go_ret;exact⟨_,rfl,own_base' hown (by omega),hb⟩
theorem jg(k a b:Int)(w:World):Calls Tryz.prog 62 #[.agg #[.int .i64 k,.int .i64 a,.int .i64 b]] w fun e w'=>e= .returned (.agg #[.int .i64 k,.int .i64 b,.int .i64 a])∧Below w.heap.size w w':=by
 obtain⟨W0,hW0⟩:∃W0,(w.alloc (.cells #[.int .i64 k,.int .i64 a,.int .i64 b] 102)).alloc (.cells #[.int .i64 0,.int .i64 0,.int .i64 0] 102)=W0:=⟨_,rfl⟩;have hb:=aG hW0;have k1:=Blk.fC hW0;have k2:=Blk.dQ hW0;have a0:=Blk.n0 k1;have a1:=Blk.n1 k1;have a2:=Blk.n2 k1;have b0:=Blk.n0 k2;have b1:=Blk.n1 k2;have b2:=Blk.n2 k2;have f0:=k2.frozen 0;have f1:=k2.frozen 1;have f2:=k2.frozen 2;have hz:=hide (((hb.setCell (p:=⟨w.heap.size+1,0,none⟩) (by simp) (.int .i64 k)).setCell (p:=⟨w.heap.size+1,1,none⟩) (by simp) (.int .i64 b)).setCell (p:=⟨w.heap.size+1,2,none⟩) (by simp) (.int .i64 a));have hq:=((k2.aD 0 (.int .i64 k)).aD 1 (.int .i64 b)).aD 2 (.int .i64 a);simp only[sA,sZ,sS]at hq;have y0:=Blk.n0 hq;have y1:=Blk.n1 hq;have y2:=Blk.n2 hq;clear hq;go_enter Tryz.func62,Tryz.ntmps62;go_wp2_with fail;exact bodyPost_ret (v:= .agg #[.int .i64 k,.int .i64 b,.int .i64 a]) (by simp[results,Tryz.results62,go_sem,y0,y1,y2]) rfl ⟨rfl,hz.out⟩
end Go.Proofs.YtfhnamomiaekdaaGreatDoor
