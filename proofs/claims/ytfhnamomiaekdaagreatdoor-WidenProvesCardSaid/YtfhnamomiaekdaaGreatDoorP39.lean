/-
  Plain words of layer 20: sessions held against an order, number by number; no program in sight.
-/
import Derived.Test.YtfhnamomiaekdaaGreatDoorP24
import Derived.Test.YtfhnamomiaekdaaGreatDoorP35
import Derived.Test.YtfhnamomiaekdaaGreatDoorP38
set_option linter.unusedVariables false
set_option linter.unusedSimpArgs false
namespace Go.Proofs.YtfhnamomiaekdaaGreatDoor
open Go.RowKit Go.Inq
def jS(H:List Txn)(x:Int):Int:=(aF H x.toNat).dH
def dX(H:List Txn)(π:List Int):Nat→Int→Int
 |0=>fun _=>0
 |i+1=>fun s=>if s=jS H (π.getD i 0)then π.getD i 0+1 else dX H π i s
def sO(H:List Txn)(π:List Int)(i:Nat):Prop:=∀a,a<i→∀b,b<a→¬(π.getD b 0>π.getD a 0∧jS H (π.getD b 0)=jS H (π.getD a 0))
theorem yK(H:List Txn)(π:List Int):r9 H π=true↔sO H π π.length:=by
 unfold r9 sO jS;rw[List.all_eq_true];constructor
 ·intro h a ha b hb hn;have h1:=h a (List.mem_range.2 ha);rw[List.all_eq_true]at h1;have h2:=h1 b (List.mem_range.2 hb);rw[decide_eq_true hn.1,decide_eq_true hn.2]at h2;cases h2
 ·intro h a ha;rw[List.all_eq_true];intro b hb;have h1:=h a (List.mem_range.1 ha) b (List.mem_range.1 hb);rw[Bool.not_eq_true',Bool.and_eq_false_iff,decide_eq_false_iff_not,decide_eq_false_iff_not];by_cases h2:π.getD b 0>π.getD a 0
  ·exact .inr fun h3=>h1 ⟨h2,h3⟩
  ·exact .inl h2
theorem nI(H:List Txn)(π:List Int)(s:Int):∀i,sO H π i→(dX H π i s=0∧∀k,k<i→jS H (π.getD k 0)≠s)∨∃k,k<i∧jS H (π.getD k 0)=s∧dX H π i s=π.getD k 0+1∧∀j,j<i→jS H (π.getD j 0)=s→π.getD j 0≤π.getD k 0
 |0,_=> .inl ⟨rfl,fun k hk=>absurd hk (by omega)⟩
 |i+1,h=>by
  have hi:sO H π i:=fun a ha b hb=>h a (by omega) b hb;by_cases e:s=jS H (π.getD i 0)
  ·refine .inr ⟨i,by omega,e.symm,by show(if s=_ then _ else _)=_;rw[if_pos e],fun j hj hs=> ?_⟩;by_cases hji:j=i
   ·subst hji;exact Int.le_refl _
   ·have:=h i (by omega) j (by omega);exact Int.not_lt.1 fun g=>this ⟨g,by rw[hs,e]⟩
  ·have hl:dX H π (i+1) s=dX H π i s:=(by show(if s=_ then _ else _)=_;rw[if_neg e]);rw[hl];rcases nI H π s i hi with⟨g1,g2⟩|⟨k,g1,g2,g3,g4⟩
   ·refine .inl ⟨g1,fun k hk=> ?_⟩;by_cases hki:k=i
    ·subst hki;exact fun g=>e g.symm
    ·exact g2 k (by omega)
   ·refine .inr ⟨k,by omega,g2,g3,fun j hj hs=> ?_⟩;by_cases hji:j=i
    ·subst hji;exact absurd hs.symm e
    ·exact g4 j (by omega) hs
theorem KI{H:List Txn}{π:List Int}{i:Nat}(h:sO H π i)(hg:¬π.getD i 0<dX H π i (jS H (π.getD i 0))):sO H π (i+1):=by
 intro a ha b hb;by_cases hai:a=i
 ·subst hai;rintro⟨h1,h2⟩;rcases nI H π (jS H (π.getD a 0)) a h with⟨g1,g2⟩|⟨k,g1,g2,g3,g4⟩
  ·exact g2 b hb h2
  ·have:=g4 b hb h2;omega
 ·exact h a (by omega) b hb
theorem LB{H:List Txn}{π:List Int}{n i:Nat}(hp:aT π n=true)(hi:i<π.length)(h:sO H π i)(hg:π.getD i 0<dX H π i (jS H (π.getD i 0))):r9 H π=false:=by
 rw[Bool.eq_false_iff];intro hs;have hs:=(yK H π).1 hs;rcases nI H π (jS H (π.getD i 0)) i h with⟨g1,g2⟩|⟨k,g1,g2,g3,g4⟩
 ·have:=iV hp hi;rw[getD_at hi]at*;omega
 ·have hne:=nQ hp g1 hi;refine hs i hi k g1 ⟨?_,g2⟩;rw[getD_at hi,getD_at (by omega)]at*;omega
end Go.Proofs.YtfhnamomiaekdaaGreatDoor
namespace Go.Proofs.YtfhnamomiaekdaaGreatDoor
open Go.RowKit Go.Inq
set_option maxHeartbeats 2000000
attribute [local go_sem↓] Go.wp_at_zero Go.wp_at_succ
theorem EG(A1 A2:Option Addr)(c1 c2:Nat)(l m:List It)(K1 K2:Nat→Prop)(w:World)(h1:ItS w K1 (.slice A1 l.length c1) l)(h2:ItS w K2 (.slice A2 m.length c2) m)(hl:l.length≤1000000000)(hm:m.length≤1000000000):
 Calls Tryz.prog 157 #[.slice A1 l.length c1,.slice A2 m.length c2] w fun e w'=>e= .returned (.bool (decide (l=m)))∧Below w.heap.size w w':=by
 by_cases hlen:l.length=m.length
 ·have hne:=hide (fun k (g1:k<l.length) (g2:k<m.length)=>Fz g1 g2);have hst:=hide (fun k (g1:k<l.length) (g2:k<m.length)=>Fy g1 g2);have hend:=hide (fun(e:l.take l.length=m.take l.length)=>(by rw[List.take_length,hlen,List.take_length]at e;exact e:l=m));have hn1:((l.length:Int) !=(m.length:Int))=false:=(by rw[hlen];exact bne_self_eq_false _);have hle:=hide hlen;clear hlen;replace h1:=hide h1;replace h2:=hide h2;go_enter Tryz.func157,Tryz.ntmps157;go_wp2;go_loopw [13] (fun s13 wr=>∃k:Nat,k≤l.length∧s13= .int .i64 k∧Hid (l.take k=m.take k)∧Below w.heap.size w wr) (fun s13 _=>l.length-(intOf s13).toNat);case atStart=>exact⟨0,Nat.zero_le _,by go_num,hide (by simp),Below.refl _ _⟩
  case round=>
   obtain⟨k,hk,rfl,htk,hb⟩:=hrel;have hk1:(0:Int)≤(k:Int):=Int.natCast_nonneg _;by_cases hlt:k<l.length
   ·have hi2:(k:Int)<(l.length:Int):=(by omega);have g1:k<m.length:=(by rw[←hle.out];exact hlt);have hi3:(k:Int)<(m.length:Int):=(by omega);obtain⟨b1,o1,rfl,_,x0,x1⟩:=ItS.at_ h1.out hlt;obtain⟨b2,o2,rfl,_,y0,y1⟩:=ItS.at_ h2.out g1;replace x0:=(hb.cell (p:=⟨b1,o1+k*2,none⟩) (block_lt_of_cell x0)).trans x0;replace x1:=(hb.cell (p:=⟨b1,o1+k*2+1,none⟩) (block_lt_of_cell x1)).trans x1;replace y0:=(hb.cell (p:=⟨b2,o2+k*2,none⟩) (block_lt_of_cell y0)).trans y0;replace y1:=(hb.cell (p:=⟨b2,o2+k*2+1,none⟩) (block_lt_of_cell y1)).trans y1;have hn:=hide (hne.out k hlt g1);have hs:=hide (hst.out k hlt g1 htk.out);generalize l[k]=x at*;generalize m[k]=y at*;obtain⟨xa,xb⟩:=x;obtain⟨ya,yb⟩:=y;dsimp only at*;by_cases q1:xa=ya
    ·have q1b:(xa==ya)=true:=(by simpa using q1);by_cases q2:xb=yb
     ·have q2b:(xb==yb)=true:=(by simpa using q2);have hr:=hide (hs.out (by rw[q1,q2]));clear hn hs q1 q2;go_wp2;go_quiet (fail);go_wp2;go_roundw;case rel=>exact⟨k+1,by omega,by go_num,hr,hb.trans ⟨rfl,rfl,rfl,Nat.le_refl _,fun _ _=>rfl⟩⟩
      case measure=>simp[intOf];omega
     ·have q2b:(xb==yb)=false:=(by simpa using q2);have hr2:Hid (decide (l=m)=false):=hide (decide_eq_false (hn.out (fun e=>q2 (by injection e))));clear hn hs q1 q2;go_wp2;go_quiet (fail);go_wp2;go_ret;exact⟨aR hr2.out.symm,hb.trans ⟨rfl,rfl,rfl,Nat.le_refl _,fun _ _=>rfl⟩⟩
    ·have q1b:(xa==ya)=false:=(by simpa using q1);have hr2:Hid (decide (l=m)=false):=hide (decide_eq_false (hn.out (fun e=>q1 (by injection e))));clear hn hs q1;go_wp2;go_quiet (fail);go_wp2;go_ret;exact⟨aR hr2.out.symm,hb.trans ⟨rfl,rfl,rfl,Nat.le_refl _,fun _ _=>rfl⟩⟩
   ·obtain rfl:k=l.length:=(by omega);have hr2:Hid (decide (l=m)=true):=hide (decide_eq_true (hend.out htk.out));go_wp2;go_ret;exact⟨aR hr2.out.symm,hb⟩
 ·have hn1:((l.length:Int) !=(m.length:Int))=true:=bne_iff_ne.2 (by omega);have hr2:Hid (decide (l=m)=false):=hide (decide_eq_false fun e=>hlen (by rw[e]));clear hlen;go_enter Tryz.func157,Tryz.ntmps157;go_wp2;go_ret;exact⟨aR hr2.out.symm,Below.refl _ _⟩
set_option maxHeartbeats 8000000
theorem z8:(#[.int .i64 0,.int .i64 0,.int .i64 0,.int .i64 0,.int .i64 0,.int .i64 0,.int .i64 0,.int .i64 0]:Array Value)=Array.replicate 8 (.int .i64 0):=rfl
def rP(H:List Txn)(π:List Int):Bool:=ay H&&vB H π
theorem LC(H:List Txn)(π:List Int):rP H π=(fT H π&&(oW H π&&r9 H π)):=by
 unfold rP vB fT;cases ay H<;>cases aT π H.length<;>simp
theorem EH(H:List Txn)(π:List Int):oW H π=true↔∀t (ht:t<H.length),fD H π t=H[t].reads:=by
 unfold oW;rw[List.all_eq_true];constructor
 ·intro h t ht;have:=of_decide_eq_true (h t (List.mem_range.2 ht));rw[aH ht]at this;exact this.symm
 ·intro h t ht;have ht:=List.mem_range.1 ht;rw[aH ht];exact decide_eq_true (h t ht).symm
set_option maxRecDepth 100000 in
theorem KJ(A:Option Addr)(c:Nat)(H:List Txn)(Ap:Option Addr)(cp:Nat)(π:List Int)(w:World)(h:aA w (Old w) (.slice A H.length c) H)(hn:aG H)(hπ:aB w (Old w) (.slice Ap π.length cp) π)(hpl:π.length≤1000000):
 Calls Tryz.prog 88 #[.agg #[.slice A H.length c],.slice Ap π.length cp] w fun e w'=>e= .returned (.bool (rP H π))∧Below w.heap.size w w':=by
 obtain⟨W0,hW0⟩:∃W0,w.alloc (.cells #[.slice A H.length c] 24)=W0:=⟨_,rfl⟩;have hB:=ah (Below.refl w.heap.size w) hW0 (Nat.le_refl _);have k0:=Blk.newEq hW0;have h0:=hide (h.below hB);have hπ0:=hide (hπ.below hB);have hdef:=hide (LC H π);have hrb:Hid (fT H π=(ay H&&aT π H.length)):=hide rfl;replace hn:=hide hn;replace h:=hide h;replace hπ:=hide hπ;have c0:=Blk.n0 k0;go_enter Tryz.func88,Tryz.ntmps88;go_wp2_with fail;clear hW0 c0;refine(Ci A c H Ap cp π _ h0.out hn.out hπ0.out hpl).mono ?_;rintro e w1 ⟨rfl,hb1⟩;have hb:=hB.trans (hb1.mono hB.size);replace k0:=k0.below hb1 k0.lt;clear hb1 hB h0 hπ0;cases hr:fT H π with
 |false=>
  have hx:Hid (rP H π=false):=hide (by rw[hdef.out,hr];rfl);clear hr hdef hrb;go_wp2;go_ret;exact⟨aR hx.out.symm,hb⟩
 |true=>
  rw[hr]at hrb;have hrp:ay H=true∧aT π H.length=true:=Bool.and_eq_true_iff.1 hrb.out.symm;have hdx:Hid (rP H π=(oW H π&&r9 H π)):=hide (by rw[hdef.out,hr];rfl);have hlen:=hide (BD hrp.2);have h32:H.length≤32:=((aC H).1 hrp.1).1;have hok:=hide ((aC H).1 hrp.1).2;have hrd:=hide (EH H π);have hbd:=hide (fun i (hi:i<π.length)=>iV hrp.2 hi);have hsb:=hide (fun i (hi:i<π.length)=>LB (H:=H) hrp.2 hi);have hse:=hide (yK H π);have hcp:=hide (EF A c H Ap cp π w1 (h.out.below hb) hn.out (hπ.out.below hb) hrp.1 hrp.2);have hrl:=hide (fun i (hi:i<H.length)=>(hn.out.2 _ (List.getElem_mem hi)).2);have OP:=hide (fun t (ht:t<H.length)=>Cj (π:=π) ht);have c0:=Blk.n0 k0;clear hdef hrb hr hrp;go_wp2_with fail;refine hcp.out.mono ?_;rintro e w2 ⟨Bo,rfl,hP,hb2⟩;have hb3:=hb.trans (hb2.mono hb.size);have k2:=k0.below hb2 k0.lt;have hw1:=hb.size;clear hb2 hb k0 hcp c0;go_wp2_with fail;go_loopw [19] (fun s19 wr=>∃t:Nat,t≤H.length∧s19= .int .i64 t∧eF wr w1.heap.size Bo H.length (fun t=>fD H π t)∧Hid (∀u (hu:u<H.length),u<t→fD H π u=H[u].reads)∧Below w.heap.size w wr∧Blk wr w.heap.size 24 #[.slice A H.length c]) (fun s19 _=>H.length-(intOf s19).toNat);case atStart=>exact⟨0,Nat.zero_le _,by go_num,hP,hide (fun u _ hu=>absurd hu (by omega)),hb3,k2⟩
  case round=>
   clear hP hb3 k2;obtain⟨t,ht,rfl,hP,hall,hb,k0⟩:=hrel;have ht0:(0:Int)≤(t:Int):=Int.natCast_nonneg _;by_cases hlt:t<H.length
   ·have ht1:(t:Int)<(H.length:Int):=(by omega);obtain⟨Ao,co,po,hpo⟩:=hP.at_ hlt;obtain⟨b,off,Aw,cw,Ar,cr,rfl,_,d0,d1,d2,hws,hrs⟩:=aA.at_ (h.out.below hb) hlt;have c0:=Blk.n0 k0;have hrl2:=hrl.out t hlt;have Ir:=OP.out t hlt;have hce:=hide (EG Ao Ar co cr (fD H π t) H[t].reads _ _ wr hpo hrs (by omega) (by omega));have hst:=hide (fun(e:fD H π t=H[t].reads) u (hu:u<H.length) (hut:u<t+1)=>(by
     by_cases g:u=t
     ·subst g;exact e
     ·exact hall.out u hu (by omega):fD H π u=H[u].reads))
    have hbad:=hide (fun(e:fD H π t≠H[t].reads)=>(by
     rw[Bool.eq_false_iff];intro g;exact e (hrd.out.1 g t hlt):oW H π=false))
    replace hP:=hide hP;clear Ir hws hrs hpo;go_wp2_with fail;refine hce.out.mono ?_;rintro e w4 ⟨rfl,hb4⟩;have hP4:=hP.out.below hb4;have hb5:=hb.trans (hb4.mono hb.size);have k4:=k0.below hb4 k0.lt;by_cases hE:fD H π t=H[t].reads
    ·rw[decide_eq_true hE];have OQ:=hide (hst.out hE);clear hE hst hbad hce hP hb4 hb k0 hall c0;go_wp2;go_roundw;case rel=>exact⟨t+1,by omega,by go_num,hP4,OQ,hb5,k4⟩
     case measure=>simp[intOf];omega
    ·rw[decide_eq_false hE];have hx:Hid (rP H π=false):=hide (by rw[hdx.out,hbad.out hE];rfl);clear hE hst hbad hce hP hb4 hb k0 hall c0;go_wp2;go_ret;exact⟨aR hx.out.symm,hb5⟩
   ·obtain rfl:t=H.length:=(by omega);have hdy:Hid (rP H π=r9 H π):=hide (by rw[hdx.out,hrd.out.2 (fun u hu=>hall.out u hu hu)];rfl);clear hP hall hdx hrd OP;have hw3:=hb.size;have hkl:=k0.lt;go_upto_region 10 with fail;rw[z8];obtain⟨W5,hW5⟩:∃W5,wr.alloc (.cells (Array.replicate 8 (.int .i64 0)) 239)=W5:=⟨_,rfl⟩;rw[hW5];have hB5:=ah (Below.refl wr.heap.size wr) hW5 (Nat.le_refl _);have hK5:gU W5 wr.heap.size 239 8 (dX H π 0):=gU.new (Blk.newEq hW5);have hb5:=hb.trans (hB5.mono hb.size);have k5:=k0.below hB5 k0.lt;clear hW5 hB5 hb k0;generalize wr.heap.size=Bl at*;go_wp2_with fail;go_loopw [36] (fun s36 wq=>∃i:Nat,i≤π.length∧s36= .int .i64 i∧gU wq Bl 239 8 (dX H π i)∧Hid (sO H π i)∧Below w.heap.size w wq∧Blk wq w.heap.size 24 #[.slice A H.length c]) (fun s36 _=>π.length-(intOf s36).toNat);case atStart=>exact⟨0,Nat.zero_le _,by go_num,hK5,hide (fun a ha=>absurd ha (by omega)),hb5,k5⟩
    case round=>
     clear hK5 hb5 k5;obtain⟨i,hi,rfl,hK,hs,hb,k0⟩:=hrel;have hi1:(0:Int)≤(i:Int):=Int.natCast_nonneg _;by_cases hil:i<π.length
     ·have hi2:(i:Int)<(π.length:Int):=(by omega);obtain⟨bp,op,rfl,hbp,d0'⟩:=hπ.out.at_ hil;have x0:=(hb.cell (p:=⟨bp,op+i,none⟩) hbp).trans d0';clear d0' hbp;have OM:=hbd.out i hil;have hsn:=hide (fun g=>KI (i:=i) hs.out g);have hbad:=hide (fun g=>hsb.out i hil hs.out g);have hls:Hid (∀s,dX H π (i+1) s=if s=jS H (π.getD i 0)then π.getD i 0+1 else dX H π i s):=hide fun _=>rfl;have hso:Hid (jS H (π.getD i 0)=(aF H (π.getD i 0).toNat).dH):=hide rfl;rw[getD_at hil]at hsn hbad hls hso;obtain⟨t,ht⟩:∃t:Nat,π[i]=(t:Int):=⟨π[i].toNat,by omega⟩;have htl:t<H.length:=(by omega);rw[ht]at x0 hsn hbad hls hso;rw[Int.toNat_natCast,aH htl]at hso;rw[hso.out]at hsn hbad hls;clear OM;have ht0:(0:Int)≤(t:Int):=Int.natCast_nonneg _;have ht1:(t:Int)<(H.length:Int):=(by omega);have hsv:=(hok.out t htl).dH;obtain⟨b,off,Aw,cw,Ar,cr,rfl,_,d0,d1,d2,hws,hrs⟩:=aA.at_ (h.out.below hb) htl;have c0:=Blk.n0 k0;generalize H[t].dH=sv at*;obtain⟨sn,rfl⟩:∃sn:Nat,sv=sn:=⟨sv.toNat,by omega⟩;have OT:sn<8:=(by omega);have Rw:(0:Int)≤(sn:Int):=Int.natCast_nonneg _;have Rx:(sn:Int)<8:=(by omega);obtain⟨kc,kf⟩:=hK.cell sn OT;replace ht:=hide ht;clear hws hrs d1 d2 hsv hso;by_cases hq:(t:Int)<dX H π i sn
      ·have hx:Hid (rP H π=false):=hide (by rw[hdy.out,hbad.out hq]);have hqb:decide ((t:Int)<dX H π i sn)=true:=decide_eq_true hq;generalize dX H π i sn=lv at*;clear hq hsn hbad hls hs hK;go_wp2;go_ret;exact⟨aR hx.out.symm,hb⟩
      ·have hqb:decide ((t:Int)<dX H π i sn)=false:=decide_eq_false hq;have hs2:=hide (hsn.out hq);have hK9:=(hK.store sn OT ((t:Int)+1)).congr (g:=dX H π (i+1)) fun κ'=>(hls.out κ').symm;have hk9:=k0.far (p:=⟨Bl,sn,none⟩) (show w.heap.size≠Bl by omega) (.int .i64 ((t:Int)+1));have hb9:=hb.setCell (p:=⟨Bl,sn,none⟩) (show w.heap.size≤Bl by omega) (.int .i64 ((t:Int)+1));generalize dX H π i sn=lv at*;clear hq hsn hbad hls hs hK hb k0;go_wp2;go_roundw;case rel=>exact⟨i+1,by omega,by go_num,hK9,hs2,hb9,hk9⟩
       case measure=>simp[intOf];omega
     ·obtain rfl:i=π.length:=(by omega);have hx:Hid (rP H π=true):=hide (by rw[hdy.out,hse.out.2 hs.out]);go_wp2;go_ret;exact⟨aR hx.out.symm,hb⟩
end Go.Proofs.YtfhnamomiaekdaaGreatDoor
