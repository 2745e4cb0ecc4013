/-
  Walks: layer 21: do rows show snapshots?
-/
import Derived.Laws.EntriesVeiled
import Derived.Deep.OwnRows
import Derived.Test.YtfhnamomiaekdaaGreatDoorV30
import Derived.Test.YtfhnamomiaekdaaGreatDoorV31
import Derived.Test.YtfhnamomiaekdaaGreatDoorV02
import Derived.Test.YtfhnamomiaekdaaGreatDoorV32
import Derived.Test.YtfhnamomiaekdaaGreatDoorV05
set_option linter.unusedVariables false
set_option linter.unusedSimpArgs false
namespace Go.Proofs.YtfhnamomiaekdaaGreatDoor
open Go.RowKit Go.Inq
set_option maxHeartbeats 4000000
attribute [local go_sem↓] Go.wp_at_zero Go.wp_at_succ
def jL(W:World)(Bm:Nat)(v:Value)(P:Int→Int→Int):Prop:=∃cs,Blk W Bm 164 cs∧cs.size=513∧cs[0]?=some v∧∀κ t:Nat,κ<16→t<32→cs[1+κ*32+t]?=some (.int .i64 (P (κ:Int) (t:Int)))
theorem jL.lt{W:World}{Bm:Nat}{v:Value}{P:Int→Int→Int}(h:jL W Bm v P):Bm<W.heap.size:=by
 obtain⟨cs,h1,_⟩:=h;exact h1.lt
theorem jL.below{W W':World}{Bm B:Nat}{v:Value}{P:Int→Int→Int}(h:jL W Bm v P)(hb:Below B W W')(hB:Bm<B):jL W' Bm v P:=by
 obtain⟨cs,h1,h2⟩:=h;exact⟨cs,h1.below hb hB,h2⟩
theorem jL.store{W:World}{Bm:Nat}{v:Value}{P:Int→Int→Int}(h:jL W Bm v P)(κ t:Nat)(hκ:κ<16)(ht:t<32)(x:Int):jL (W.setCell ⟨Bm,1+κ*32+t,none⟩ (.int .i64 x)) Bm v fun a b=>if a=(κ:Int)∧b=(t:Int)then x else P a b:=by
 obtain⟨cs,h1,h2,h3,h4⟩:=h;refine⟨_,h1.aM _ _,by simpa using h2,?_,fun κ' t' hκ' ht'=> ?_⟩
 ·rw[Array.getElem?_setIfInBounds,if_neg (by omega)];exact h3
 ·rw[Array.getElem?_setIfInBounds];by_cases e:κ'=κ∧t'=t
  ·obtain⟨rfl,rfl⟩:=e;dsimp only;rw[if_pos rfl,if_pos (by rw[h2];omega),if_pos ⟨rfl,rfl⟩]
  ·dsimp only;rw[if_neg (by omega),if_neg (by omega)];exact h4 κ' t' hκ' ht'
theorem jL.cell{W:World}{Bm:Nat}{v:Value}{P:Int→Int→Int}(h:jL W Bm v P)(κ t:Nat)(hκ:κ<16)(ht:t<32):W.cell? ⟨Bm,1+κ*32+t,none⟩=some (.int .i64 (P (κ:Int) (t:Int)))∧W.frozen? ⟨Bm,1+κ*32+t,none⟩=false:=by
 obtain⟨cs,h1,h2,h3,h4⟩:=h;exact⟨(h1.cell _).trans (h4 κ t hκ ht),h1.frozen _⟩
theorem jL.done{W:World}{Bm:Nat}{A:Option Addr}{c n:Nat}{R:List aT}{P:Int→Int→Int}(h:jL W Bm (.slice A n c) P)(hP:∀κ t,P κ t=dx R κ t):mU W Bm A c n R:=by
 obtain⟨cs,h1,h2,h3,h4⟩:=h;exact⟨(h1.cell 0).trans h3,fun k t hk ht=>(h1.cell _).trans (by rw[h4 k t hk ht,hP])⟩
set_option maxRecDepth 100000 in
theorem I5(A:Option Addr)(c:Nat)(H:List Txn)(Ar:Option Addr)(cr:Nat)(R:List aT)(w:World)(h:aD w (Old w) (.slice A H.length c) H)(hn:aH H)(hR:l7 w (Old w) (.slice Ar R.length cr) R)(hf:Po R):
 Calls Tryz.prog 36 #[.agg #[.slice A H.length c],.slice Ar R.length cr] w fun e w'=>e= .returned (.bool (iZ H R))∧Below w.heap.size w w':=by
 obtain⟨W0,hW0⟩:∃W0,w.alloc (.cells #[.slice A H.length c] 24)=W0:=⟨_,rfl⟩;have hB:=ah (Below.refl w.heap.size w) hW0 (Nat.le_refl _);have k0:=Blk.newEq hW0;have h0:=hide (h.below hB);have hR0:=hide (hR.below hB);have hdef:Hid (iZ H R=(fO H R&& !gu H.length (gK H R))):=hide rfl;have hok:=hide (fun(e:fO H R=true)=>(qL H R).1 e);have hRl:=hf.1;have hHl:=hn.1;have hfl:=hide (fun i (hi:i<R.length)=>hf.2 _ (List.getElem_mem hi));replace hf:=hide hf;replace hn:=hide hn;replace h:=hide h;replace hR:=hide hR;have c0:=Blk.n0 k0;go_enter Tryz.func36,Tryz.ntmps36;go_wp2_with fail;clear hW0 c0;refine(I4 A c H Ar cr R _ h0.out hn.out hR0.out hf.out).mono ?_;rintro e w1 ⟨rfl,hb1⟩;have hb:=hB.trans (hb1.mono hB.size);replace k0:=k0.below hb1 k0.lt;clear hb1 hB h0 hR0;cases hr:fO H R with
 |false=>
  have hx:Hid (iZ H R=false):=hide (by rw[hdef.out,hr];rfl);clear hr hdef hok;go_wp2;go_ret;exact⟨aV hx.out.symm,hb⟩
 |true=>
  have hO:=hide (hok.out hr);have hdx:Hid (iZ H R= !gu H.length (gK H R)):=hide (by rw[hdef.out,hr];rfl);clear hdef hok hr;have c0:=Blk.n0 k0;have hbd:=Pn (.slice A H.length c);have hC1:=FT (.slice A H.length c);have hC2:=hide (fun i hi=>Pm (.slice A H.length c) (i:=i) hi);have hC3:=hide (zP (.slice A H.length c));generalize rE (.slice A H.length c)=C at*;go_upto_region 4 with fail;obtain⟨W4,hW4⟩:∃W4,(w1.alloc (.cells C 164)).alloc (.cells #[.pointer (some ⟨w1.heap.size,0,none⟩)] 160)=W4:=⟨_,rfl⟩;rw[hW4];have hB4:Below w1.heap.size w1 W4:=(by rw[←hW4];exact((Below.refl _ w1).alloc (Nat.le_refl _) _).alloc (by simp) _);have hm4:jL W4 w1.heap.size (.slice A H.length c) (gP R 0):=⟨C,by rw[←hW4];exact(Blk.new _ _ _).alloc _,hC3.out,hC1,fun κ t hκ ht=>by rw[Nat.add_assoc];exact hC2.out _ (by omega)⟩;have kp:Blk W4 (w1.heap.size+1) 160 #[.pointer (some ⟨w1.heap.size,0,none⟩)]:=by
   rw[←hW4];have:=Blk.new (w1.alloc (.cells C 164)) 160 #[.pointer (some ⟨w1.heap.size,0,none⟩)];simpa using this
  have k4:=k0.below hB4 k0.lt;have hb4:=hb.trans (hB4.mono hb.size);have hw1:=hb.size;have hk1:w.heap.size<w1.heap.size:=k0.lt;clear hW4 hB4 hC1 hC2 hC3 hbd c0 hb k0;generalize w1.heap.size=Bm at*;go_wp2_with fail;go_loopw [22] (fun s22 wr=>∃k:Nat,k≤R.length∧s22= .int .i64 k∧jL wr Bm (.slice A H.length c) (gP R k)∧Blk wr (Bm+1) 160 #[.pointer (some ⟨Bm,0,none⟩)]∧Blk wr w.heap.size 24 #[.slice A H.length c]∧Below w.heap.size w wr) (fun s22 _=>R.length-(intOf s22).toNat);case atStart=>exact⟨0,Nat.zero_le _,by go_num,hm4,kp,k4,hb4⟩
  case round=>
   clear hm4 kp k4 hb4;obtain⟨Wo,rfl⟩:∃Wo,Wo=wr:=⟨_,rfl⟩;obtain⟨k,hk,rfl,hm,kp,k4,hb⟩:=hrel;have GL:(0:Int)≤(k:Int):=Int.natCast_nonneg _;by_cases hlt:k<R.length
   ·have GN:(k:Int)<(R.length:Int):=(by omega);obtain⟨br,or_,Ay,cy,rfl,hbK,d0',d1',hy'⟩:=hR.out.at_ hlt;have d0:=(hb.cell (p:=⟨br,or_+k*2,none⟩) hbK).trans d0';have d1:=(hb.cell (p:=⟨br,or_+k*2+1,none⟩) hbK).trans d1';clear d0' d1' hbK;have hst:=hide (zQ hlt);have hyl:=hfl.out k hlt;have hky:=hO.out.key (List.getElem_mem hlt);have hmem:=hide (fun i (hi:i<R[k].l.length)=>(hO.out.mem (List.getElem_mem hlt)).1 (List.getElem_mem hi));have hfa:=hide (fun i (hi:i<R[k].l.length)=>Cv (gP R k) R[k].key hi);generalize R[k]=row at*;obtain⟨rk,rl⟩:=row;dsimp only at*;obtain⟨kn,rfl⟩:∃kn:Nat,rk=kn:=⟨rk.toNat,by omega⟩;have hkn:kn<16:=(by omega);have WE:(0:Int)≤(kn:Int):=Int.natCast_nonneg _;have WG:(kn:Int)<16:=(by omega);have hy:=hide hy';clear hy' hky;obtain⟨W2,hW2⟩:∃W2,Wo.alloc (.cells #[.int .i64 kn,.slice Ay rl.length cy] 72)=W2:=⟨_,rfl⟩;have hB2:=ah (Below.refl Wo.heap.size Wo) hW2 (Nat.le_refl _);have n0:=Blk.newEq hW2;have e1:=Blk.n1 n0;go_wp2_with fail;clear hW2 d0 d1 e1;have hm2:=hm.below hB2 hm.lt;have kp2:=kp.below hB2 kp.lt;have k42:=k4.below hB2 k4.lt;have hb2:=hb.trans (hB2.mono hb.size);have hBr:Bm+1<Wo.heap.size:=kp.lt;clear hm kp k4 hb hB2;generalize Wo.heap.size=pr at*;go_loopw [29] (fun s29 wq=>∃i:Nat,i≤rl.length∧s29= .int .i64 i∧jL wq Bm (.slice A H.length c) (jI (gP R k) kn rl i)∧Blk wq (Bm+1) 160 #[.pointer (some ⟨Bm,0,none⟩)]∧Blk wq w.heap.size 24 #[.slice A H.length c]∧Below w.heap.size w wq∧Blk wq pr 72 #[.int .i64 kn,.slice Ay rl.length cy]) (fun s29 _=>rl.length-(intOf s29).toNat);case atStart=>exact⟨0,Nat.zero_le _,by go_num,hm2,kp2,k42,hb2,n0⟩
    case round=>
     clear hm2 kp2 k42 hb2 n0;obtain⟨i,hi,rfl,hm,kp,k4,hb,n0⟩:=hrel;have hj1:(0:Int)≤(i:Int):=Int.natCast_nonneg _;by_cases hil:i<rl.length
     ·have hj2:(i:Int)<(rl.length:Int):=(by omega);obtain⟨bl,ol,rfl,hbl,x0'⟩:=hy.out.at_ hil;have x0:=(hb.cell (p:=⟨bl,ol+i,none⟩) hbl).trans x0';clear x0' hbl;obtain⟨tn,htn,htH,_⟩:=hmem.out i hil;have hff:=hide (hfa.out i hil);generalize rl[i]=tv at*;subst htn;have WH:(0:Int)≤(tn:Int):=Int.natCast_nonneg _;have WI:(tn:Int)<32:=(by have:=((aB H).1 hO.out.right).1;omega);have T9:tn<32:=(by omega);have p0:=Blk.n0 kp;have n1:=Blk.n0 n0;have hmc:=hm.cell kn tn hkn T9;obtain⟨m1,m2⟩:=hmc;go_wp2_with fail;go_region;have hm5:jL (wr.setCell ⟨Bm,1+kn*32+tn,none⟩ (.int .i64 ((i:Int)+1))).drew Bm (.slice A H.length c) (jI (gP R k) kn rl (i+1)):=by
       rw[hff.out];exact hm.store kn tn hkn T9 ((i:Int)+1)
      have kp5:=kp.far (p:=⟨Bm,1+kn*32+tn,none⟩) (show Bm+1≠Bm by omega) (.int .i64 ((i:Int)+1));have k45:=k4.far (p:=⟨Bm,1+kn*32+tn,none⟩) (show w.heap.size≠Bm by omega) (.int .i64 ((i:Int)+1));have n05:=n0.far (p:=⟨Bm,1+kn*32+tn,none⟩) (show pr≠Bm by omega) (.int .i64 ((i:Int)+1));have hb5:Below w.heap.size w (wr.setCell ⟨Bm,1+kn*32+tn,none⟩ (.int .i64 ((i:Int)+1))).drew:=(hb.setCell (p:=⟨Bm,1+kn*32+tn,none⟩) hw1 _).trans ⟨rfl,rfl,rfl,Nat.le_refl _,fun _ _=>rfl⟩;clear hm kp k4 n0 hb m1 m2 p0 n1 x0;go_wp2;go_roundw;case rel=>exact⟨i+1,by omega,by go_num,hm5,kp5,k45,hb5,n05⟩
      case measure=>simp[intOf];omega
     ·obtain rfl:i=rl.length:=(by omega);rw[←hst.out]at hm;go_wp2;go_roundw;case rel=>exact⟨k+1,by omega,by go_num,hm,kp,k4,hb⟩
      case measure=>simp[intOf];omega
   ·obtain rfl:k=R.length:=(by omega);have hM:=hm.done (n:=H.length) (FU hO.out);have c0:=Blk.n0 k4;have hmk:∀W:World,(Instr.makeSlice 33 (.int .i64 (H.length:Int)) (.int .i64 (H.length:Int))).run Tryz.prog W= .ok (.slice (some ⟨W.heap.size,0,none⟩) H.length H.length) (W.alloc (.cells (madeCells #[.int .i64 0] H.length) 3)):=
     fun W=>run_make_row' (P:=Tryz.prog) 33 3 (.int .i64 0) 8 Tryz.underlying33 gL rfl .i64 .i64 _ (by have:=hn.out.1;omega) (by have:=hn.out.1;omega) W
    have hmc:madeCells #[.int .i64 0] H.length=gG (List.replicate H.length 0):=by
     refine Array.ext (by simp[size_madeCells,gG]) fun i h1 h2=> ?_;simp[madeCells,Nat.mod_one,gG]
    rw[hmc]at hmk;generalize hs0:List.replicate H.length (0:Int)=s0 at*;have hst:=hide (l6.start H.length (gK H R));rw[hs0]at hst;have hz0:Hid (∀g,g<H.length→mkD s0 g≠1):=hide fun g hg=>by
     rw[←hs0];unfold mkD;rw[List.getD_eq_getElem?_getD,List.getElem?_replicate];split<;>simp
    replace hs0:=hide hs0;go_upto_region 16 with fail;have Ua:=hb.size;obtain⟨W6,hW6⟩:∃W6,((Wo.alloc (.cells (gG s0) 3)).alloc (.cells #[.slice (some ⟨Wo.heap.size,0,none⟩) H.length H.length] 33)).alloc (.cells #[.func (.func 94) #[] #[.pointer (some ⟨Wo.heap.size+1,0,none⟩),.pointer (some ⟨Bm+1,0,none⟩),.pointer (some ⟨Wo.heap.size+1+1,0,none⟩)]] 165)=W6:=⟨_,rfl⟩;rw[hW6];have hB6:Below Wo.heap.size Wo W6:=(by rw[←hW6];exact(((Below.refl _ Wo).alloc (Nat.le_refl _) _).alloc (by simp) _).alloc (by simp;omega) _);have x0:Blk W6 Wo.heap.size 3 (gG s0):=(by rw[←hW6];exact((Blk.new _ _ _).alloc _).alloc _);have x1:Blk W6 (Wo.heap.size+1) 33 #[.slice (some ⟨Wo.heap.size,0,none⟩) H.length H.length]:=by
     rw[←hW6];have:=Blk.new (Wo.alloc (.cells (gG s0) 3)) 33 #[.slice (some ⟨Wo.heap.size,0,none⟩) H.length H.length];simp only[World.size_alloc]at this;exact this.alloc _
    have x2:Blk W6 (Wo.heap.size+1+1) 165 #[.func (.func 94) #[] #[.pointer (some ⟨Wo.heap.size+1,0,none⟩),.pointer (some ⟨Bm+1,0,none⟩),.pointer (some ⟨Wo.heap.size+1+1,0,none⟩)]]:=by
     rw[←hW6];have:=Blk.new ((Wo.alloc (.cells (gG s0) 3)).alloc (.cells #[.slice (some ⟨Wo.heap.size,0,none⟩) H.length H.length] 33)) 165 #[.func (.func 94) #[] #[.pointer (some ⟨Wo.heap.size+1,0,none⟩),.pointer (some ⟨Bm+1,0,none⟩),.pointer (some ⟨Wo.heap.size+1+1,0,none⟩)]];simpa using this
    have hF6:Cx W6 Wo.heap.size (Wo.heap.size+1) (Wo.heap.size+1+1) Bm H.length A c R s0:=⟨x0,x1,kp.below hB6 kp.lt,x2,hM.below hB6 hM.lt,by have:=hM.lt;omega⟩;have hb6:=hb.trans (hB6.mono Ua);have Vu:=hide (fun m s x W=>zS H R A c hn.out hO.out w h.out Wo.heap.size (Wo.heap.size+1) (Wo.heap.size+1+1) Bm Ua m s x W);have hfin:=hide (fun s (g:l6 H.length (gK H R) s)=>g.fine);clear hW6 hB6 x0 x1 x2 hM hm kp k4 hb c0 hmk hmc;generalize Wo.heap.size=S0 at*;have e1:=Blk.n0 hF6.k1;replace hF6:=hide hF6;go_wp2_with fail;clear e1;go_loopw [53] (fun s53 wr=>∃(x:Nat) (s:List Int),x≤H.length∧s53= .int .i64 x∧Cx wr S0 (S0+1) (S0+1+1) Bm H.length A c R s∧Below w.heap.size w wr∧Hid (l6 H.length (gK H R) s)∧Hid (∀g,g<H.length→mkD s g≠1)∧Hid (∀g,g<x→mkD s g=2)) (fun s53 _=>H.length-(intOf s53).toNat);case atStart=>exact⟨0,s0,Nat.zero_le _,by go_num,hF6.out,hb6,hst,hz0,hide (fun g hg=>absurd hg (by omega))⟩
    case round=>
     clear hF6 hb6 hst hz0;obtain⟨x,s,hx,rfl,hF,hb,hI,hno,hbl⟩:=hrel;have hx0:(0:Int)≤(x:Int):=Int.natCast_nonneg _;by_cases hxl:x<H.length
     ·have hx1:(x:Int)<(H.length:Int):=(by omega);have hcall:=hide (Vu.out (p9 s) s x wr (Nat.le_refl _) hI.out hxl (FH hno.out) hb hF);have e2:=Blk.n0 hF.kf;replace hF:=hide hF;go_wp2_with fail;refine hcall.out.mono ?_;rintro e w4 ⟨b4,s4,rfl,k4,hg4,hgood,hbad⟩;have hb4:=below_grown hb hg4 hb.size (fun k e=>by injection e with e;omega);cases b4 with
      |true=>
       obtain⟨hD4,hx4⟩:=hgood rfl;have hF4:=hF.out.grown hg4 k4;have Vv:=hide (fun g (hg:g<H.length) e=>hno.out g hg ((hD4.grey g hg).1 e));have Vw:=hide (fun g (hg:g<x+1)=>(by
        by_cases q:g=x
        ·subst q;exact hx4
        ·exact hD4.black g (by omega) (hbl.out g (by omega)):mkD s4 g=2))
       have hI4:=hide hD4.inv;clear hgood hbad hD4 hx4 hcall hno hbl hI e2;go_wp2;go_roundw;case rel=>exact⟨x+1,s4,by omega,by go_num,hF4,hb4,hI4,Vv,Vw⟩
       case measure=>simp[intOf];omega
      |false=>
       have hq:Hid (iZ H R=false):=hide (by rw[hdx.out,hbad rfl];rfl);clear hgood hbad hcall hno hbl hI e2;go_wp2;go_ret;exact⟨aV hq.out.symm,hb4⟩
     ·obtain rfl:x=H.length:=(by omega);have hq:Hid (iZ H R=true):=hide (by rw[hdx.out,hfin.out s hI.out hbl.out];rfl);go_wp2;go_ret;exact⟨aV hq.out.symm,hb⟩
end Go.Proofs.YtfhnamomiaekdaaGreatDoor
