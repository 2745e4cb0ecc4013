/-
  Plain words of layer 20: sessions held against an order, number by number; no program in sight.
-/
import Derived.Shelf.SlSortCmp.Whole1
import Derived.BigQuiet
import Derived.Test.YtfhnamomiaekdaaGreatDoorV29
import Derived.Test.YtfhnamomiaekdaaGreatDoorV32
import Derived.Test.YtfhnamomiaekdaaGreatDoorV35
import Derived.Test.YtfhnamomiaekdaaGreatDoorV25
import Derived.Test.YtfhnamomiaekdaaGreatDoorV33
import Derived.Test.YtfhnamomiaekdaaGreatDoorV30
import Derived.Test.YtfhnamomiaekdaaGreatDoorV05
import Derived.Test.YtfhnamomiaekdaaGreatDoorV03
import Derived.Test.YtfhnamomiaekdaaGreatDoorV01
set_option linter.unusedVariables false
set_option linter.unusedSimpArgs false
namespace Go.Proofs.YtfhnamomiaekdaaGreatDoor
open Go.RowKit Go.Inq
def lT(H:List Txn)(x:Int):Int:=(aI H x.toNat).dM
def eZ(H:List Txn)(π:List Int):Nat→Int→Int
 |0=>fun _=>0
 |i+1=>fun s=>if s=lT H (π.getD i 0)then π.getD i 0+1 else eZ H π i s
def xG(H:List Txn)(π:List Int)(i:Nat):Prop:=∀a,a<i→∀b,b<a→¬(π.getD b 0>π.getD a 0∧lT H (π.getD b 0)=lT H (π.getD a 0))
theorem Cy(H:List Txn)(π:List Int):wW H π=true↔xG H π π.length:=by
 unfold wW xG lT;rw[List.all_eq_true];constructor
 ·intro h a ha b hb hn;have h1:=h a (List.mem_range.2 ha);rw[List.all_eq_true]at h1;have h2:=h1 b (List.mem_range.2 hb);rw[decide_eq_true hn.1,decide_eq_true hn.2]at h2;cases h2
 ·intro h a ha;rw[List.all_eq_true];intro b hb;have h1:=h a (List.mem_range.1 ha) b (List.mem_range.1 hb);rw[Bool.not_eq_true',Bool.and_eq_false_iff,decide_eq_false_iff_not,decide_eq_false_iff_not];by_cases h2:π.getD b 0>π.getD a 0
  ·exact .inr fun h3=>h1 ⟨h2,h3⟩
  ·exact .inl h2
theorem ql(H:List Txn)(π:List Int)(s:Int):∀i,xG H π i→(eZ H π i s=0∧∀k,k<i→lT H (π.getD k 0)≠s)∨∃k,k<i∧lT H (π.getD k 0)=s∧eZ H π i s=π.getD k 0+1∧∀j,j<i→lT H (π.getD j 0)=s→π.getD j 0≤π.getD k 0
 |0,_=> .inl ⟨rfl,fun k hk=>absurd hk (by omega)⟩
 |i+1,h=>by
  have hi:xG H π i:=fun a ha b hb=>h a (by omega) b hb;by_cases e:s=lT H (π.getD i 0)
  ·refine .inr ⟨i,by omega,e.symm,by show(if s=_ then _ else _)=_;rw[if_pos e],fun j hj hs=> ?_⟩;by_cases hji:j=i
   ·subst hji;exact Int.le_refl _
   ·have:=h i (by omega) j (by omega);exact Int.not_lt.1 fun g=>this ⟨g,by rw[hs,e]⟩
  ·have hl:eZ H π (i+1) s=eZ H π i s:=(by show(if s=_ then _ else _)=_;rw[if_neg e]);rw[hl];rcases ql H π s i hi with⟨g1,g2⟩|⟨k,g1,g2,g3,g4⟩
   ·refine .inl ⟨g1,fun k hk=> ?_⟩;by_cases hki:k=i
    ·subst hki;exact fun g=>e g.symm
    ·exact g2 k (by omega)
   ·refine .inr ⟨k,by omega,g2,g3,fun j hj hs=> ?_⟩;by_cases hji:j=i
    ·subst hji;exact absurd hs.symm e
    ·exact g4 j (by omega) hs
theorem Pv{H:List Txn}{π:List Int}{i:Nat}(h:xG H π i)(hg:¬π.getD i 0<eZ H π i (lT H (π.getD i 0))):xG H π (i+1):=by
 intro a ha b hb;by_cases hai:a=i
 ·subst hai;rintro⟨h1,h2⟩;rcases ql H π (lT H (π.getD a 0)) a h with⟨g1,g2⟩|⟨k,g1,g2,g3,g4⟩
  ·exact g2 b hb h2
  ·have:=g4 b hb h2;omega
 ·exact h a (by omega) b hb
theorem QF{H:List Txn}{π:List Int}{n i:Nat}(hp:bg π n=true)(hi:i<π.length)(h:xG H π i)(hg:π.getD i 0<eZ H π i (lT H (π.getD i 0))):wW H π=false:=by
 rw[Bool.eq_false_iff];intro hs;have hs:=(Cy H π).1 hs;rcases ql H π (lT H (π.getD i 0)) i h with⟨g1,g2⟩|⟨k,g1,g2,g3,g4⟩
 ·have:=jU hp hi;rw[getD_at hi]at*;omega
 ·have hne:=qK hp g1 hi;refine hs i hi k g1 ⟨?_,g2⟩;rw[getD_at hi,getD_at (by omega)]at*;omega
end Go.Proofs.YtfhnamomiaekdaaGreatDoor
namespace Go.Proofs.YtfhnamomiaekdaaGreatDoor
open Go.RowKit Go.Inq
set_option maxHeartbeats 2000000
attribute [local go_sem↓] Go.wp_at_zero Go.wp_at_succ
theorem I8(A1 A2:Option Addr)(c1 c2:Nat)(l m:List It)(K1 K2:Nat→Prop)(w:World)(h1:ItS w K1 (.slice A1 l.length c1) l)(h2:ItS w K2 (.slice A2 m.length c2) m)(hl:l.length≤1000000000)(hm:m.length≤1000000000):
 Calls Tryz.prog 157 #[.slice A1 l.length c1,.slice A2 m.length c2] w fun e w'=>e= .returned (.bool (decide (l=m)))∧Below w.heap.size w w':=by
 by_cases hlen:l.length=m.length
 ·have hne:=hide (fun k (g1:k<l.length) (g2:k<m.length)=>JM g1 g2);have hst:=hide (fun k (g1:k<l.length) (g2:k<m.length)=>JL g1 g2);have hend:=hide (fun(e:l.take l.length=m.take l.length)=>(by rw[List.take_length,hlen,List.take_length]at e;exact e:l=m));have hn1:((l.length:Int) !=(m.length:Int))=false:=(by rw[hlen];exact bne_self_eq_false _);have hle:=hide hlen;clear hlen;replace h1:=hide h1;replace h2:=hide h2;go_enter Tryz.func157,Tryz.ntmps157;go_wp2;go_loopw [13] (fun s13 wr=>∃k:Nat,k≤l.length∧s13= .int .i64 k∧Hid (l.take k=m.take k)∧Below w.heap.size w wr) (fun s13 _=>l.length-(intOf s13).toNat);case atStart=>exact⟨0,Nat.zero_le _,by go_num,hide (by simp),Below.refl _ _⟩
  case round=>
   obtain⟨k,hk,rfl,htk,hb⟩:=hrel;have hk1:(0:Int)≤(k:Int):=Int.natCast_nonneg _;by_cases hlt:k<l.length
   ·have hi2:(k:Int)<(l.length:Int):=(by omega);have g1:k<m.length:=(by rw[←hle.out];exact hlt);have hi3:(k:Int)<(m.length:Int):=(by omega);obtain⟨b1,o1,rfl,_,x0,x1⟩:=ItS.at_ h1.out hlt;obtain⟨b2,o2,rfl,_,y0,y1⟩:=ItS.at_ h2.out g1;replace x0:=(hb.cell (p:=⟨b1,o1+k*2,none⟩) (block_lt_of_cell x0)).trans x0;replace x1:=(hb.cell (p:=⟨b1,o1+k*2+1,none⟩) (block_lt_of_cell x1)).trans x1;replace y0:=(hb.cell (p:=⟨b2,o2+k*2,none⟩) (block_lt_of_cell y0)).trans y0;replace y1:=(hb.cell (p:=⟨b2,o2+k*2+1,none⟩) (block_lt_of_cell y1)).trans y1;have hn:=hide (hne.out k hlt g1);have hs:=hide (hst.out k hlt g1 htk.out);generalize l[k]=x at*;generalize m[k]=y at*;obtain⟨xa,xb⟩:=x;obtain⟨ya,yb⟩:=y;dsimp only at*;by_cases q1:xa=ya
    ·have q1b:(xa==ya)=true:=(by simpa using q1);by_cases q2:xb=yb
     ·have q2b:(xb==yb)=true:=(by simpa using q2);have hr:=hide (hs.out (by rw[q1,q2]));clear hn hs q1 q2;go_wp2;go_quiet (fail);go_wp2;go_roundw;case rel=>exact⟨k+1,by omega,by go_num,hr,hb.trans ⟨rfl,rfl,rfl,Nat.le_refl _,fun _ _=>rfl⟩⟩
      case measure=>simp[intOf];omega
     ·have q2b:(xb==yb)=false:=(by simpa using q2);have hr2:Hid (decide (l=m)=false):=hide (decide_eq_false (hn.out (fun e=>q2 (by injection e))));clear hn hs q1 q2;go_wp2;go_quiet (fail);go_wp2;go_ret;exact⟨aV hr2.out.symm,hb.trans ⟨rfl,rfl,rfl,Nat.le_refl _,fun _ _=>rfl⟩⟩
    ·have q1b:(xa==ya)=false:=(by simpa using q1);have hr2:Hid (decide (l=m)=false):=hide (decide_eq_false (hn.out (fun e=>q1 (by injection e))));clear hn hs q1;go_wp2;go_quiet (fail);go_wp2;go_ret;exact⟨aV hr2.out.symm,hb.trans ⟨rfl,rfl,rfl,Nat.le_refl _,fun _ _=>rfl⟩⟩
   ·obtain rfl:k=l.length:=(by omega);have hr2:Hid (decide (l=m)=true):=hide (decide_eq_true (hend.out htk.out));go_wp2;go_ret;exact⟨aV hr2.out.symm,hb⟩
 ·have hn1:((l.length:Int) !=(m.length:Int))=true:=bne_iff_ne.2 (by omega);have hr2:Hid (decide (l=m)=false):=hide (decide_eq_false fun e=>hlen (by rw[e]));clear hlen;go_enter Tryz.func157,Tryz.ntmps157;go_wp2;go_ret;exact⟨aV hr2.out.symm,Below.refl _ _⟩
set_option maxHeartbeats 8000000
theorem z8:(#[.int .i64 0,.int .i64 0,.int .i64 0,.int .i64 0,.int .i64 0,.int .i64 0,.int .i64 0,.int .i64 0]:Array Value)=Array.replicate 8 (.int .i64 0):=rfl
def wo(H:List Txn)(π:List Int):Bool:=ay H&&zK H π
theorem QG(H:List Txn)(π:List Int):wo H π=(gX H π&&(sN H π&&wW H π)):=by
 unfold wo zK gX;cases ay H<;>cases bg π H.length<;>simp
theorem I9(H:List Txn)(π:List Int):sN H π=true↔∀t (ht:t<H.length),gI H π t=H[t].reads:=by
 unfold sN;rw[List.all_eq_true];constructor
 ·intro h t ht;have:=of_decide_eq_true (h t (List.mem_range.2 ht));rw[aJ ht]at this;exact this.symm
 ·intro h t ht;have ht:=List.mem_range.1 ht;rw[aJ ht];exact decide_eq_true (h t ht).symm
set_option maxRecDepth 100000 in
theorem Pw(A:Option Addr)(c:Nat)(H:List Txn)(Ap:Option Addr)(cp:Nat)(π:List Int)(w:World)(h:aD w (Old w) (.slice A H.length c) H)(hn:aH H)(hπ:aP w (Old w) (.slice Ap π.length cp) π)(hpl:π.length≤1000000):
 Calls Tryz.prog 88 #[.agg #[.slice A H.length c],.slice Ap π.length cp] w fun e w'=>e= .returned (.bool (wo H π))∧Below w.heap.size w w':=by
 obtain⟨W0,hW0⟩:∃W0,w.alloc (.cells #[.slice A H.length c] 24)=W0:=⟨_,rfl⟩;have hB:=ah (Below.refl w.heap.size w) hW0 (Nat.le_refl _);have k0:=Blk.newEq hW0;have h0:=hide (h.below hB);have hπ0:=hide (hπ.below hB);have hdef:=hide (QG H π);have hrb:Hid (gX H π=(ay H&&bg π H.length)):=hide rfl;replace hn:=hide hn;replace h:=hide h;replace hπ:=hide hπ;have c0:=Blk.n0 k0;go_enter Tryz.func88,Tryz.ntmps88;go_wp2_with fail;clear hW0 c0;refine(FV A c H Ap cp π _ h0.out hn.out hπ0.out hpl).mono ?_;rintro e w1 ⟨rfl,hb1⟩;have hb:=hB.trans (hb1.mono hB.size);replace k0:=k0.below hb1 k0.lt;clear hb1 hB h0 hπ0;cases hr:gX H π with
 |false=>
  have hx:Hid (wo H π=false):=hide (by rw[hdef.out,hr];rfl);clear hr hdef hrb;go_wp2;go_ret;exact⟨aV hx.out.symm,hb⟩
 |true=>
  rw[hr]at hrb;have hrp:ay H=true∧bg π H.length=true:=Bool.and_eq_true_iff.1 hrb.out.symm;have hdx:Hid (wo H π=(sN H π&&wW H π)):=hide (by rw[hdef.out,hr];rfl);have hlen:=hide (FD hrp.2);have h32:H.length≤32:=((aB H).1 hrp.1).1;have hok:=hide ((aB H).1 hrp.1).2;have hrd:=hide (I9 H π);have hbd:=hide (fun i (hi:i<π.length)=>jU hrp.2 hi);have hsb:=hide (fun i (hi:i<π.length)=>QF (H:=H) hrp.2 hi);have hse:=hide (Cy H π);have hcp:=hide (I7 A c H Ap cp π w1 (h.out.below hb) hn.out (hπ.out.below hb) hrp.1 hrp.2);have hrl:=hide (fun i (hi:i<H.length)=>(hn.out.2 _ (List.getElem_mem hi)).2);have Ue:=hide (fun t (ht:t<H.length)=>FW (π:=π) ht);have c0:=Blk.n0 k0;clear hdef hrb hr hrp;go_wp2_with fail;refine hcp.out.mono ?_;rintro e w2 ⟨Bo,rfl,hP,hb2⟩;have hb3:=hb.trans (hb2.mono hb.size);have k2:=k0.below hb2 k0.lt;have hw1:=hb.size;clear hb2 hb k0 hcp c0;go_wp2_with fail;go_loopw [19] (fun s19 wr=>∃t:Nat,t≤H.length∧s19= .int .i64 t∧fD wr w1.heap.size Bo H.length (fun t=>gI H π t)∧Hid (∀u (hu:u<H.length),u<t→gI H π u=H[u].reads)∧Below w.heap.size w wr∧Blk wr w.heap.size 24 #[.slice A H.length c]) (fun s19 _=>H.length-(intOf s19).toNat);case atStart=>exact⟨0,Nat.zero_le _,by go_num,hP,hide (fun u _ hu=>absurd hu (by omega)),hb3,k2⟩
  case round=>
   clear hP hb3 k2;obtain⟨t,ht,rfl,hP,hall,hb,k0⟩:=hrel;have ht0:(0:Int)≤(t:Int):=Int.natCast_nonneg _;by_cases hlt:t<H.length
   ·have ht1:(t:Int)<(H.length:Int):=(by omega);obtain⟨Ao,co,po,hpo⟩:=hP.at_ hlt;obtain⟨b,off,Aw,cw,Ar,cr,rfl,_,d0,d1,d2,hws,hrs⟩:=aD.at_ (h.out.below hb) hlt;have c0:=Blk.n0 k0;have hrl2:=hrl.out t hlt;have E9:=Ue.out t hlt;have hce:=hide (I8 Ao Ar co cr (gI H π t) H[t].reads _ _ wr hpo hrs (by omega) (by omega));have hst:=hide (fun(e:gI H π t=H[t].reads) u (hu:u<H.length) (hut:u<t+1)=>(by
     by_cases g:u=t
     ·subst g;exact e
     ·exact hall.out u hu (by omega):gI H π u=H[u].reads))
    have hbad:=hide (fun(e:gI H π t≠H[t].reads)=>(by
     rw[Bool.eq_false_iff];intro g;exact e (hrd.out.1 g t hlt):sN H π=false))
    replace hP:=hide hP;clear E9 hws hrs hpo;go_wp2_with fail;refine hce.out.mono ?_;rintro e w4 ⟨rfl,hb4⟩;have hP4:=hP.out.below hb4;have hb5:=hb.trans (hb4.mono hb.size);have k4:=k0.below hb4 k0.lt;by_cases hE:gI H π t=H[t].reads
    ·rw[decide_eq_true hE];have iC:=hide (hst.out hE);clear hE hst hbad hce hP hb4 hb k0 hall c0;go_wp2;go_roundw;case rel=>exact⟨t+1,by omega,by go_num,hP4,iC,hb5,k4⟩
     case measure=>simp[intOf];omega
    ·rw[decide_eq_false hE];have hx:Hid (wo H π=false):=hide (by rw[hdx.out,hbad.out hE];rfl);clear hE hst hbad hce hP hb4 hb k0 hall c0;go_wp2;go_ret;exact⟨aV hx.out.symm,hb5⟩
   ·obtain rfl:t=H.length:=(by omega);have hdy:Hid (wo H π=wW H π):=hide (by rw[hdx.out,hrd.out.2 (fun u hu=>hall.out u hu hu)];rfl);clear hP hall hdx hrd Ue;have hw3:=hb.size;have hkl:=k0.lt;go_upto_region 10 with fail;rw[z8];obtain⟨W5,hW5⟩:∃W5,wr.alloc (.cells (Array.replicate 8 (.int .i64 0)) 239)=W5:=⟨_,rfl⟩;rw[hW5];have hB5:=ah (Below.refl wr.heap.size wr) hW5 (Nat.le_refl _);have hK5:iQ W5 wr.heap.size 239 8 (eZ H π 0):=iQ.new (Blk.newEq hW5);have hb5:=hb.trans (hB5.mono hb.size);have k5:=k0.below hB5 k0.lt;clear hW5 hB5 hb k0;generalize wr.heap.size=Bl at*;go_wp2_with fail;go_loopw [36] (fun s36 wq=>∃i:Nat,i≤π.length∧s36= .int .i64 i∧iQ wq Bl 239 8 (eZ H π i)∧Hid (xG H π i)∧Below w.heap.size w wq∧Blk wq w.heap.size 24 #[.slice A H.length c]) (fun s36 _=>π.length-(intOf s36).toNat);case atStart=>exact⟨0,Nat.zero_le _,by go_num,hK5,hide (fun a ha=>absurd ha (by omega)),hb5,k5⟩
    case round=>
     clear hK5 hb5 k5;obtain⟨i,hi,rfl,hK,hs,hb,k0⟩:=hrel;have hi1:(0:Int)≤(i:Int):=Int.natCast_nonneg _;by_cases hil:i<π.length
     ·have hi2:(i:Int)<(π.length:Int):=(by omega);obtain⟨bp,op,rfl,hbp,d0'⟩:=hπ.out.at_ hil;have x0:=(hb.cell (p:=⟨bp,op+i,none⟩) hbp).trans d0';clear d0' hbp;have Uc:=hbd.out i hil;have hsn:=hide (fun g=>Pv (i:=i) hs.out g);have hbad:=hide (fun g=>hsb.out i hil hs.out g);have hls:Hid (∀s,eZ H π (i+1) s=if s=lT H (π.getD i 0)then π.getD i 0+1 else eZ H π i s):=hide fun _=>rfl;have hso:Hid (lT H (π.getD i 0)=(aI H (π.getD i 0).toNat).dM):=hide rfl;rw[getD_at hil]at hsn hbad hls hso;obtain⟨t,ht⟩:∃t:Nat,π[i]=(t:Int):=⟨π[i].toNat,by omega⟩;have htl:t<H.length:=(by omega);rw[ht]at x0 hsn hbad hls hso;rw[Int.toNat_natCast,aJ htl]at hso;rw[hso.out]at hsn hbad hls;clear Uc;have ht0:(0:Int)≤(t:Int):=Int.natCast_nonneg _;have ht1:(t:Int)<(H.length:Int):=(by omega);have hsv:=(hok.out t htl).dM;obtain⟨b,off,Aw,cw,Ar,cr,rfl,_,d0,d1,d2,hws,hrs⟩:=aD.at_ (h.out.below hb) htl;have c0:=Blk.n0 k0;generalize H[t].dM=sv at*;obtain⟨sn,rfl⟩:∃sn:Nat,sv=sn:=⟨sv.toNat,by omega⟩;have Uf:sn<8:=(by omega);have WL:(0:Int)≤(sn:Int):=Int.natCast_nonneg _;have WM:(sn:Int)<8:=(by omega);obtain⟨kc,kf⟩:=hK.cell sn Uf;replace ht:=hide ht;clear hws hrs d1 d2 hsv hso;by_cases hq:(t:Int)<eZ H π i sn
      ·have hx:Hid (wo H π=false):=hide (by rw[hdy.out,hbad.out hq]);have hqb:decide ((t:Int)<eZ H π i sn)=true:=decide_eq_true hq;generalize eZ H π i sn=lv at*;clear hq hsn hbad hls hs hK;go_wp2;go_ret;exact⟨aV hx.out.symm,hb⟩
      ·have hqb:decide ((t:Int)<eZ H π i sn)=false:=decide_eq_false hq;have hs2:=hide (hsn.out hq);have hK9:=(hK.store sn Uf ((t:Int)+1)).congr (g:=eZ H π (i+1)) fun κ'=>(hls.out κ').symm;have hk9:=k0.far (p:=⟨Bl,sn,none⟩) (show w.heap.size≠Bl by omega) (.int .i64 ((t:Int)+1));have hb9:=hb.setCell (p:=⟨Bl,sn,none⟩) (show w.heap.size≤Bl by omega) (.int .i64 ((t:Int)+1));generalize eZ H π i sn=lv at*;clear hq hsn hbad hls hs hK hb k0;go_wp2;go_roundw;case rel=>exact⟨i+1,by omega,by go_num,hK9,hs2,hb9,hk9⟩
       case measure=>simp[intOf];omega
     ·obtain rfl:i=π.length:=(by omega);have hx:Hid (wo H π=true):=hide (by rw[hdy.out,hse.out.2 hs.out]);go_wp2;go_ret;exact⟨aV hx.out.symm,hb⟩
set_option maxHeartbeats 4000000
def zV(H:List Txn)(level:Int)(yes:Bool)(O:List Int)(R:List aT)(T:List Nod):Bool:=
 if yes then if level=0 then(R.length==0)&&(T.length==0)&&wo H O
  else if level=1 then(O.length==0)&&(T.length==0)&&iZ H R else false
 else(O.length==0)&&(R.length==0)&&lJ H level [] T
theorem DK{α:Type}(l:List α):((l.length:Int)==0)=(l.length==0):=by rw[Bool.eq_iff_iff];simp
set_option maxRecDepth 100000 in
theorem Cz (A:Option Addr) (c:Nat) (H:List Txn) (level:Int) (yes:Bool) (Ao:Option Addr) (co:Nat) (O:List Int) (Ar:Option Addr) (cr:Nat) (R:List aT) (At:Option Addr) (ct:Nat) (T:List Nod) (w:World) (h:aD w (Old w) (.slice A H.length c) H) (hn:aH H)
 (hO:aP w (Old w) (.slice Ao O.length co) O) (hol:O.length≤1000000) (hR:l7 w (Old w) (.slice Ar R.length cr) R) (hf:Po R) (hT:bJ w (Old w) (.slice At T.length ct) T) (htl:T.length≤100000000) (hcy:kW T):
 Calls Tryz.prog 45 #[.agg #[.slice A H.length c],.agg #[.int .i64 level,.bool yes,.slice Ao O.length co,.slice Ar R.length cr,.slice At T.length ct]] w fun e w'=>e= .returned (.bool (zV H level yes O R T))∧Below w.heap.size w w':=by
 obtain⟨W0,hW0⟩:∃W0,(w.alloc (.cells #[.slice A H.length c] 24)).alloc (.cells #[.int .i64 level,.bool yes,.slice Ao O.length co,.slice Ar R.length cr,.slice At T.length ct] 94)=W0:=⟨_,rfl⟩;have hB:=aS hW0;have k0:=Blk.kG hW0;have k1:=Blk.jk hW0;have f1:=hide (fun W (hb:Below w.heap.size w W)=>Pw A c H Ao co O W (h.below hb) hn (hO.below hb) hol);have f2:=hide (fun W (hb:Below w.heap.size w W)=>I5 A c H Ar cr R W (h.below hb) hn (hR.below hb) hf);have f3:=hide (fun W (hb:Below w.heap.size w W)=>wT A c H level none 0 [] At ct T W (h.below hb) hn (SlR.nil _ _ _ _ _ _) (Nat.zero_le _) (hT.below hb) htl hcy);have hdef:Hid (zV H level yes O R T=if yes then if level=0 then(R.length==0)&&(T.length==0)&&wo H O
  else if level=1 then(O.length==0)&&(T.length==0)&&iZ H R else false
  else(O.length==0)&&(R.length==0)&&lJ H level [] T):=hide rfl
 have z1:=DK O;have z2:=DK R;have z3:=DK T;have hl0:(if level=0 then true else false)=(level==0):=(by by_cases e:level=0<;>simp[e]);have c0:=Blk.n0 k0;have d0:=Blk.n0 k1;have d1:=Blk.n1 k1;have d2:=Blk.n2 k1;have d3:=Blk.n3 k1;have d4:=Blk.n4 k1;clear hl0 h hO hR hf hT htl hcy hn hol k0 k1;generalize zV H level yes O R T=r at*;generalize wo H O=sv at*;generalize iZ H R=cv at*;generalize lJ H level [] T=tv at*;generalize(O.length==0)=bo at*;generalize(R.length==0)=br at*;generalize(T.length==0)=bt at*;go_enter Tryz.func45,Tryz.ntmps45;go_wp2_with fail;clear hW0;go_quiet (fail);have hB2:Below w.heap.size w (W0.drewN nq):=hB.trans ⟨rfl,rfl,rfl,Nat.le_refl _,fun _ _=>rfl⟩;cases yes with
 |false=>
  have hr:r=(bo&&br&&tv):=hdef.out;subst hr;clear hdef f1 f2;cases bo with
  |false=>
   go_wp2;go_ret;exact⟨rfl,hB2⟩
  |true=>
   cases br with
   |false=>
    go_wp2;go_ret;exact⟨rfl,hB2⟩
   |true=>
    go_wp2_with fail;refine(f3.out _ hB2).mono ?_;rintro e w1 ⟨rfl,hb1⟩;have hB2:=hB2.trans (hb1.mono hB2.size);go_wp2;go_ret;exact⟨rfl,hB2⟩
 |true=>
  by_cases h0:level=0
  ·subst h0;have hr:r=(br&&bt&&sv):=hdef.out;subst hr;clear hdef f2 f3;cases br with
   |false=>
    go_wp2;go_ret;exact⟨rfl,hB2⟩
   |true=>
    cases bt with
    |false=>
     go_wp2;go_ret;exact⟨rfl,hB2⟩
    |true=>
     go_wp2_with fail;refine(f1.out _ hB2).mono ?_;rintro e w1 ⟨rfl,hb1⟩;have hB2:=hB2.trans (hb1.mono hB2.size);go_wp2;go_ret;exact⟨rfl,hB2⟩
  ·have hz4:(level==0)=false:=beq_eq_false_iff_ne.2 h0;have hr:r=if level=1 then(bo&&bt&&cv)else false:=hdef.out.trans (if_neg h0);clear hdef f1 f3 h0;by_cases h1:level=1
   ·subst h1;have hr:r=(bo&&bt&&cv):=hr;subst hr;cases bo with
    |false=>
     go_wp2;go_ret;exact⟨rfl,hB2⟩
    |true=>
     cases bt with
     |false=>
      go_wp2;go_ret;exact⟨rfl,hB2⟩
     |true=>
      go_wp2_with fail;refine(f2.out _ hB2).mono ?_;rintro e w1 ⟨rfl,hb1⟩;have hB2:=hB2.trans (hb1.mono hB2.size);go_wp2;go_ret;exact⟨rfl,hB2⟩
   ·have hz5:(level==1)=false:=beq_eq_false_iff_ne.2 h1;rw[if_neg h1]at hr;subst hr;clear h1 f2;go_wp2;go_ret;exact⟨rfl,hB2⟩
end Go.Proofs.YtfhnamomiaekdaaGreatDoor
namespace Go.Proofs.YtfhnamomiaekdaaGreatDoor
open Go.RowKit Go.Inq
theorem JN{f:Int→Int}:∀{a b:List Int},a.Pairwise (fun x y=>¬f y<f x)→b.Pairwise (fun x y=>¬f y<f x)→(∀x∈a,∀y∈a,f x=f y→x=y)→a.Perm b→a=b
 |[],b,_,_,_,h=>by rw[h.nil_eq]
 |x::a,[],_,_,_,h=>by have:=h.length_eq;simp at this
 |x::a,y::b,ha,hb,hf,h=>by
  rw[List.pairwise_cons]at ha hb;have hx:x∈y::b:=h.mem_iff.1 (by simp);have hy:y∈x::a:=h.mem_iff.2 (by simp);have hxy:x=y:=by
   have hx':=hx;have hy':=hy;rw[List.mem_cons]at hx hy;rcases hx with rfl|hx
   ·rfl
   ·rcases hy with rfl|hy
    ·rfl
    ·have h1:=hb.1 x hx;have h2:=ha.1 y hy;exact hf x (by simp) y hy' (by omega)
  subst hxy;rw[JN ha.2 hb.2 (fun u hu v hv e=>hf u (by simp[hu]) v (by simp[hv]) e) ((List.perm_cons x).1 h)]
theorem QH{π:List Int}{n:Nat}(hp:bg π n=true):π.Pairwise fun x y=>¬dQ π y<dQ π x:=by
 rw[List.pairwise_iff_getElem];intro i j hi hj hij;rw[eU (List.getElem_mem hj),eU (List.getElem_mem hi),p8 hp hi,p8 hp hj];omega
theorem FX{H:List Txn}{π l:List Int}{k:Int}(hp:bg π H.length=true)(h1:l.Perm (aC (bG H k)))(h2:l.Pairwise fun x y=>dQ π x≤dQ π y):l=(zL H π k).l:=by
 replace h2:l.Pairwise fun x y=>¬dQ π y<dQ π x:=h2.imp fun h=>(by omega);have hpm:=h1.trans (Ct hp k).symm;refine JN h2 ((QH hp).sublist List.filter_sublist) (fun x hx y hy e=> ?_) hpm;have gx:=(List.mem_filter.1 (hpm.mem_iff.1 hx)).1;have gy:=(List.mem_filter.1 (hpm.mem_iff.1 hy)).1;rw[eU gx,eU gy]at e;have e1:=List.getElem_idxOf (List.idxOf_lt_length_of_mem gx);have e2:=List.getElem_idxOf (List.idxOf_lt_length_of_mem gy);have:π[π.idxOf x]'(List.idxOf_lt_length_of_mem gx)=π[π.idxOf y]'(List.idxOf_lt_length_of_mem gy):=(by simp only[show π.idxOf x=π.idxOf y by omega]);rw[e1,e2]at this;exact this
theorem Ja{π:List Int}{n:Nat}(hn:π.length=n):bg π n=decide (qd π=jC (List.range n)):=by
 rw[Bool.eq_iff_iff,decide_eq_true_eq];constructor
 ·intro hp;refine wm (zM _) (Co List.pairwise_lt_range) ((nS π).trans ?_);refine(List.perm_ext_iff_of_nodup (zI hp) (sO List.pairwise_lt_range)).2 fun x=> ?_;rw[qg];constructor
  ·intro hx;obtain⟨i,hi,e⟩:=List.getElem_of_mem hx;have:=jU hp hi;exact⟨x.toNat,List.mem_range.2 (by omega),by omega⟩
  ·rintro⟨m,hm,rfl⟩;exact mQ hp (List.mem_range.1 hm)
 ·intro he;have hp:π.Perm (jC (List.range n)):=(by rw[←he];exact(nS π).symm);unfold bg;rw[decide_eq_true hn,Bool.true_and,List.all_eq_true];intro i hi;exact List.contains_iff_mem.2 (hp.mem_iff.2 (qg.2 ⟨i,hi,rfl⟩))
theorem QI{Q:List Int}{n k:Nat}(h:Q=jC (List.range n))(hk:k<Q.length):Q[k]=(k:Int):=by
 subst h;simp[jC]
theorem Px{Q:List Int}(h:∀k (hk:k<Q.length),Q[k]=(k:Int)):Q=jC (List.range Q.length):=by
 refine List.ext_getElem (by simp[jC]) fun i h1 h2=> ?_;rw[h i h1];simp[jC]
def jd(H:List Txn)(π:List Int)(k:Nat):List aT:=(gF H k).map (zL H π)
theorem FY{H:List Txn}{π:List Int}{k:Nat}(h:bG H (k:Int)=[]):jd H π (k+1)=jd H π k:=by unfold jd;rw[xu h]
theorem FZ{H:List Txn}{π:List Int}{k:Nat}(h:bG H (k:Int)≠[]):jd H π (k+1)=jd H π k++[zL H π (k:Int)]:=by unfold jd;rw[qh h,List.map_append];rfl
theorem Jb(H:List Txn)(π:List Int)(k:Nat):(jd H π k).length≤k:=by unfold jd;rw[List.length_map];exact IQ H k
theorem Jc{H:List Txn}{π:List Int}(hr:ay H=true)(hp:bg π H.length=true):jd H π 16=gJ H π:=by unfold jd gJ;rw[if_pos ⟨hr,hp⟩,nU hr]
theorem Py{H:List Txn}{π:List Int}(h:ay H=false∨bg π H.length=false):gJ H π=[]:=by
 unfold gJ;rw[if_neg];rintro⟨h1,h2⟩;rcases h with h|h
 ·rw[h]at h1;cases h1
 ·rw[h]at h2;cases h2
theorem Ml{π:List Int}{n:Nat}(h:π.length≠n):bg π n=false:=by unfold bg;rw[decide_eq_false h,Bool.false_and]
end Go.Proofs.YtfhnamomiaekdaaGreatDoor
namespace Go.Proofs.YtfhnamomiaekdaaGreatDoor
open Go.RowKit Go.Inq
set_option maxHeartbeats 4000000
attribute [local go_sem↓] Go.wp_at_zero Go.wp_at_succ
theorem QJ(x y:Int)(w:World):Calls Tryz.prog 154 #[.int .i64 x,.int .i64 y] w fun e w'=>e= .returned (.int .i64 (Lib.compareInt x y))∧w'=w:=Go.Proofs.Tryz.cmp_Compare_int x y w
theorem Mq(x y:Int)(Bo:Nat)(Ao:Option Addr)(co:Nat)(π:List Int)(K:Nat→Prop)(W:World)(hc:W.cell? ⟨Bo,0,none⟩=some (.slice Ao π.length co))(hπ:aP W K (.slice Ao π.length co) π)(hn:π.length≤1000000):
 Calls Tryz.prog 153 #[.int .i64 x,.int .i64 y,.pointer (some ⟨Bo,0,none⟩)] W fun e w'=>e= .returned (.int .i64 (Lib.compareInt (dQ π x) (dQ π y)))∧∃q,w'=W.drewN q:=by
 have hca:=hide (fun W' z (hq:aP W' K (.slice Ao π.length co) π)=>(BM Ao co π z K W' hq (by unfold maxLen;omega)).mono fun _ _ h=>(⟨h.1,h.2.symm⟩:_∧_));have hcc:=hide (fun W'=>QJ (dQ π x) (dQ π y) W');replace hπ:=hide hπ;go_enter Tryz.func153,Tryz.ntmps153;go_wp2_with fail;go_quiet ((first|(go_at_call 91;exact Calls.quiet_of_same (hca.out _ _ (hπ.out.keep (Agree.drewN _ _ _) (fun _ h=>h))))|(go_at_call 154;exact Calls.quiet_of_same (hcc.out _))));go_wp2;go_ret;exact⟨rfl,_,rfl⟩
theorem permIn_all{d d':Array Int}(h:Go.Sort.PermIn 0 d.size d d'):d'.toList.Perm d.toList:=by
 obtain⟨hs,_,hp⟩:=h;rw[Array.extract_size,←hs,Array.extract_size]at hp;exact hp
theorem F3{lt:Int→Int→Bool}{d:Array Int}(h:Go.Sort.SortedIn lt 0 d.size d):d.toList.Pairwise fun x y=>lt y x=false:=by
 rw[List.pairwise_iff_getElem];intro i j hi hj hij;have hj':j<d.size:=(by simpa using hj);have hi':i<d.size:=(by omega);have:=h i j (Nat.zero_le _) hij hj';rw[getElem!_pos d j hj',getElem!_pos d i hi']at this;exact this
theorem QK(f:Int→Int):Go.Sort.SWO (Go.Proofs.ltOf fun x y=>Lib.compareInt (f x) (f y)):=by
 have hl:∀x y,Go.Proofs.ltOf (fun x y=>Lib.compareInt (f x) (f y)) x y=decide (f x<f y):=fun x y=>by
  unfold Go.Proofs.ltOf Lib.compareInt;by_cases h1:f x<f y
  ·simp[h1]
  ·by_cases h2:f y<f x<;>simp[h1,h2]
 exact⟨fun x=>by rw[hl];simp,fun x y z h1 h2=>by rw[hl]at*;simp at*;omega,fun x y z h1 h2=>by rw[hl]at*;simp at*;omega⟩
theorem Sw(f:Int→Int)(x y:Int):Go.Proofs.ltOf (fun x y=>Lib.compareInt (f x) (f y)) x y=decide (f x<f y):=by
 unfold Go.Proofs.ltOf Lib.compareInt;by_cases h1:f x<f y
 ·simp[h1]
 ·by_cases h2:f y<f x<;>simp[h1,h2]
theorem Mr (base:Nat) (A:Option Addr) (c:Nat) (l:List Int) (Bo:Nat) (Ao:Option Addr) (co:Nat) (π:List Int) (w:World) (h:aY w base (.slice A l.length c) l) (hl:l.length<4611686018427387904)
 (hBo:Bo<base) (hc:w.cell? ⟨Bo,0,none⟩=some (.slice Ao π.length co)) (hπ:aP w (fun b=>b<base) (.slice Ao π.length co) π) (hn:π.length≤1000000):
 Calls Tryz.prog 152 #[.slice A l.length c,.func (.func 153) #[] #[.pointer (some ⟨Bo,0,none⟩)]] w fun e w'=>e= .returned (.tuple #[])∧
  (∃l',l'.Perm l∧l'.Pairwise (fun x y=>dQ π x≤dQ π y)∧aY w' base (.slice A l.length c) l')∧Below base w w':=by
 unfold aY at h;rw[qI]at h;by_cases hv:(Value.slice A l.length c)= .slice none 0 0
 ·injection hv with h1 h2 h3
  subst h1 h3;have:l=[]:=List.eq_nil_of_length_eq_zero h2;subst this;refine(Go.Proofs.Tryz.slices_SortFunc_none (α:=Int) none 0 _ w).mono ?_;rintro e w' ⟨rfl,rfl⟩;exact⟨rfl,⟨[],List.Perm.refl _,List.Pairwise.nil,World.ownsRow_nil _ _ _ _⟩,Below.refl _ _⟩
 ·obtain⟨g,cap,hv',hbg,hgl,hnn,hm,_,hH⟩:=Go.Lib.holds_of_ownsRow h hv;injection hv' with h1 h2 h3
  subst h1 h3;have hW:∀(n:Nat) (d':Array Int) (os:Array Obj),Below base w (sortWorld (Value.int .i64) w g 0 n d' os):=fun n d' os=>by
   unfold sortWorld;have hb2:=Go.Lib.below_putRow (enc:=Value.int .i64) (q:=n) (d:=d') (Below.refl base w) hbg;exact hb2.trans ((below_grow _ os).mono (by have:=hb2.size;exact Nat.le_trans (by omega) this))
  have hcmp:CmpLays1 Tryz.prog 153 #[.pointer (some ⟨Bo,0,none⟩)] (Value.int .i64) (fun x y=>Lib.compareInt (dQ π x) (dQ π y)) g 0 l.toArray.size w:=fun m os dk _ x y=>by
   have hb:=hW m dk os;refine(Mq x y Bo Ao co π (fun b=>b<base) _ ((hb.cell (p:=⟨Bo,0,none⟩) hBo).trans hc) (aP.keep hπ (Agree.below hb fun b h=>h) (fun b h=>h)) hn).mono ?_;rintro e w' ⟨he,q,hq⟩;exact⟨he,q,#[],by rw[hq,Go.Sort.grow_empty]⟩
  refine(Go.Proofs.Tryz.slices_SortFunc (Value.int .i64) (fun _=>rfl) (fun x y=>Lib.compareInt (dQ π x) (dQ π y)) (QK (dQ π)) 153 #[.pointer (some ⟨Bo,0,none⟩)] g 0 c l.toArray w (enters_of Tryz.func153 (by kernel_rfl) rfl) hcmp hH hgl (by simpa using hl)).mono ?_;rintro e w' ⟨rfl,d',n,os,hp,hs,rfl⟩;have hp2:=permIn_all hp;have hsz:d'.size=l.toArray.size:=hp.1;have hsz2:d'.toList.length=l.length:=(by simpa using hsz);have hs2:=F3 (by rw[hsz];exact hs);have hr:=Go.Lib.ownsRow_putRow (q:=n) (k:=l.length) h hsz2 (Nat.le_refl _);rw[List.take_of_length_le (by rw[hsz2];exact Nat.le_refl _)]at hr;have hbw:=hW n d' os;refine⟨rfl,⟨d'.toList,by simpa using hp2,hs2.imp fun hlt=> ?_,?_⟩,hbw⟩
  ·rw[Sw]at hlt;have:=of_decide_eq_false hlt;omega
  ·unfold aY;rw[qI,hsz2];have hz:=(hr.lt g rfl).2;unfold sortWorld;have:=own_below hr (below_grow _ os) (Nat.le_refl _);simpa using this
theorem jK.one:∀(w:World) (K:Nat→Prop) (cs:List Value) (x:aT),jK w K cs x→∀u∈cs,u.oneCell'=true:=by
 rintro w K cs x ⟨A,c,rfl,_⟩ u hu;simp at hu;rcases hu with rfl|rfl<;>rfl
theorem QL:(Tryz.prog.info? 72).map (fun i=>(i.zero,i.size,i.bytes))=some (some (.agg #[.int .i64 0,.slice none 0 0]),2,32):=by kernel_rfl
def qP(w:World)(base:Nat)(v:Value)(l:List aT):Prop:=aG 2 jK w (TyK base [3] w) base 72 v l
def VA(w:World)(l:List aT)(e:Ending)(w':World):Prop:=∃v,e= .returned v∧qP w' w.heap.size v l∧Below w.heap.size w w'
theorem qP.nil(w:World)(base:Nat):qP w base (.slice none 0 0) []:=aG.nil _ _ _ _ _ _
theorem qP.form{w:World}{base:Nat}{v:Value}{l:List aT}(h:qP w base v l):∃A c,v= .slice A l.length c:=aG.form h
theorem qP.below{w w':World}{base B:Nat}{v:Value}{l:List aT}(h:qP w base v l)(hb:Below B w w')(hB:w.heap.size≤B):qP w' base v l:=aG.CZ jK.aO h hb hB
set_option maxRecDepth 100000 in
theorem Ms(A:Option Addr)(c:Nat)(H:List Txn)(Ap:Option Addr)(cp:Nat)(π:List Int)(w:World)(h:aD w (Old w) (.slice A H.length c) H)(hn:aH H)(hπ:aP w (Old w) (.slice Ap π.length cp) π)(hpl:π.length≤1000000):
 Calls Tryz.prog 87 #[.agg #[.slice A H.length c],.slice Ap π.length cp] w (VA w (gJ H π)):=by
 obtain⟨is,his,hq1,hq2,hq3⟩:=info_parts QL;obtain⟨W0,hW0⟩:∃W0,(w.alloc (.cells #[.slice A H.length c] 24)).alloc (.cells #[.slice Ap π.length cp] 33)=W0:=⟨_,rfl⟩;have hB:Below w.heap.size w W0:=(by rw[←hW0];exact((Below.refl _ w).alloc (Nat.le_refl _) _).alloc (by simp) _);have k0:Blk W0 w.heap.size 24 #[.slice A H.length c]:=(by rw[←hW0];exact(Blk.new _ _ _).alloc _);have kO:Blk W0 (w.heap.size+1) 33 #[.slice Ap π.length cp]:=by
  rw[←hW0];have:=Blk.new (w.alloc (.cells #[.slice A H.length c] 24)) 33 #[.slice Ap π.length cp];simpa using this
 have hs0:W0.heap.size=w.heap.size+2:=(by rw[←hW0];simp);have hπ0:=hide (hπ.below hB);have hbad:=hide (fun e=>Py (H:=H) (π:=π) e);have E9:=hide (fun(e:π.length≠H.length)=>Ml e);have hps:=hide (fun(e:π.length=H.length)=>Ja (π:=π) e);have hall:=hide (fun(e1:ay H=true) (e2:bg π H.length=true)=>Jc e1 e2);have hrs:=hide (fun(e2:bg π H.length=true) (k:Int) (l:List Int)=>FX (H:=H) (l:=l) (k:=k) e2);replace hπ:=hide hπ;replace hn:=hide hn;replace h:=hide h;replace hs0:=hide hs0;have c0:=Blk.n0 kO;go_enter Tryz.func87,Tryz.ntmps87;go_wp2_with fail;refine(xD Ap π.length cp _).mono ?_;rintro e w3 ⟨rfl,rfl⟩;obtain⟨W1,hW1⟩:∃W1,W0.alloc (.cells #[.slice Ap π.length cp] 33)=W1:=⟨_,rfl⟩;have hB1:=ah (Below.refl W0.heap.size W0) hW1 (Nat.le_refl _);have kv:=Blk.newEq hW1;have k1:=k0.au hW1;have kO1:=kO.au hW1;have hπ1:=hπ0.out.below hB1;have hb:=hB.trans (hB1.mono hB.size);have cv:=Blk.n0 kv;rw[hs0.out]at cv;rw[hW1];clear hW1 hW0 c0 kv k0 kO hB hB1 hπ0;simp only[hs0.out];go_wp2_with fail;refine(xE Ap (w.heap.size+2) cp π hpl W1 cv hπ1).mono ?_;rintro e w4 ⟨v4,rfl,ho4,hb4⟩;have hsl:(π.mergeSort fun x y=>decide (x≤y)).length=π.length:=List.length_mergeSort π;have hrw:=hide (show qd π=(π.mergeSort fun x y=>decide (x≤y)) from rfl);rw[hrw.out]at hps;generalize(π.mergeSort fun x y=>decide (x≤y))=Q at*;obtain⟨A4,c4,rfl⟩:=ho4.form;have hQ:=hide (ho4.sl (K:=Old w4) (fun g h1 h2=>h2));have hb5:=hb.trans (hb4.mono hb.size);have k5:=k1.below hb4 k1.lt;have kO5:=kO1.below hb4 kO1.lt;have hT5:=hide (h.out.below hb5);have c0:=Blk.n0 k5;replace hsl:=hide hsl;clear cv k1 kO1 hb hb4 ho4 hπ1 hrw hs0;go_wp2_with fail;clear c0;refine(dL A c H _ hT5.out hn.out).mono ?_;rintro e w6 ⟨rfl,hb6⟩;have hb7:=hb5.trans (hb6.mono hb5.size);have k7:=k5.below hb6 k5.lt;have kO7:=kO5.below hb6 kO5.lt;have hQ7:=hide (hQ.out.below hb6);clear hb5 hb6 k5 kO5 hQ hT5;cases hr:ay H with
 |false=>
  have hx:=hide (hbad.out (.inl hr));clear hr hbad E9 hps hall hrs;go_wp2;go_ret;exact⟨_,rfl,by rw[hx.out];exact qP.nil _ _,hb7⟩
 |true=>
  replace hall:=hide (hall.out hr);have hr':=hide hr;clear hr;have c0:=Blk.n0 k7;have cO:=Blk.n0 kO7;by_cases hlen:π.length=H.length
  ·have hz1:((π.length:Int) !=(H.length:Int))=false:=(by rw[hlen];exact bne_self_eq_false _);have hsl2:Q.length=H.length:=hsl.out.trans hlen;replace hps:=hide (hps.out hlen);have hsa:=hide (fun k (hk:k<Q.length) (e:Q=jC (List.range H.length))=>QI e hk);have hse:=hide (fun(e:∀k (hk:k<Q.length),Q[k]=(k:Int))=>(by have:=Px e;rw[hsl2]at this;exact this:Q=jC (List.range H.length)));have WO:Q.length≤1000000000:=(by have:=hsl.out;omega);clear E9 hsl;replace hlen:=hide hlen;replace hsl2:=hide hsl2;have Ug:π.length=Q.length:=(by rw[hlen.out,hsl2.out]);replace Ug:=hide Ug;go_wp2_with fail;clear c0 cO;go_loopw [27] (fun s27 wr=>∃k:Nat,k≤Q.length∧s27= .int .i64 k∧Hid (∀j (hj:j<Q.length),j<k→Q[j]=(j:Int))∧Below w.heap.size w wr∧Blk wr w.heap.size 24 #[.slice A H.length c]∧Blk wr (w.heap.size+1) 33 #[.slice Ap π.length cp]∧aP wr (Old wr) (.slice A4 Q.length c4) Q) (fun s27 _=>Q.length-(intOf s27).toNat);case atStart=>exact⟨0,Nat.zero_le _,by go_num,hide (fun j hj h=>absurd h (by omega)),hb7,k7,kO7,hQ7.out⟩
   case round=>
    clear hb7 k7 kO7 hQ7;obtain⟨k,hk,rfl,hj,hb,k7,kO7,hQ⟩:=hrel;have hk1:(0:Int)≤(k:Int):=Int.natCast_nonneg _;by_cases hlt:k<Q.length
    ·have hi2:(k:Int)<(Q.length:Int):=(by omega);obtain⟨b,off,rfl,_,d0⟩:=hQ.at_ hlt;have hne:=hide (hsa.out k hlt);have hst:=hide (fun(e:Q[k]=(k:Int)) j (hj2:j<Q.length) (hjk:j<k+1)=>(by
      by_cases g:j=k
      ·subst g;exact e
      ·exact hj.out j hj2 (by omega):Q[j]=(j:Int)))
     replace hQ:=hide hQ;generalize Q[k]=q at*;by_cases hq:q=(k:Int)
     ·have hz2:((k:Int) !=q)=false:=(by rw[hq];exact bne_self_eq_false _);have hj2:=hide (hst.out hq);clear hq hst hne hj;go_wp2;go_roundw;case rel=>exact⟨k+1,by omega,by go_num,hj2,hb,k7,kO7,hQ.out⟩
      case measure=>simp[intOf];omega
     ·have hz2:((k:Int) !=q)=true:=bne_iff_ne.2 (fun e=>hq e.symm);have hx:=hide (hbad.out (.inr (by rw[hps.out];exact decide_eq_false fun e=>hq (hne.out e))));clear hq hst hne hj;go_wp2;go_ret;exact⟨_,rfl,by rw[hx.out];exact qP.nil _ _,hb⟩
    ·obtain rfl:k=Q.length:=(by omega);have hp:bg π H.length=true:=(by rw[hps.out];exact decide_eq_true (hse.out fun j hj2=>hj.out j hj2 hj2));have hax:=hide (hall.out hp);replace hrs:=hide (hrs.out hp);have hR0:Hid (jd H π 0=[]):=hide rfl;have hrl:=hide (Jb H π);clear hp hj hps hsa hse hbad hall hQ;go_wp2_with fail;go_loopw [8,36] (fun s8 s36 wr=>∃k:Nat,k≤16∧s36= .int .i64 k∧qP wr w.heap.size s8 (jd H π k)∧Below w.heap.size w wr∧Blk wr w.heap.size 24 #[.slice A H.length c]∧Blk wr (w.heap.size+1) 33 #[.slice Ap π.length cp]∧w.heap.size+2≤wr.heap.size) (fun _ s36 _=>16-(intOf s36).toNat);case atStart=>exact⟨0,Nat.zero_le _,by go_num,by rw[hR0.out];exact qP.nil _ _,hb,k7,kO7,kO7.lt⟩
     case round=>
      clear hb k7 kO7;obtain⟨Wo,rfl⟩:∃Wo,Wo=wr:=⟨_,rfl⟩;obtain⟨k,hk,rfl,hown,hb,k7,kO7,hsz⟩:=hrel;have hk1:(0:Int)≤(k:Int):=Int.natCast_nonneg _;have c0:=Blk.n0 k7;obtain⟨Av,cv,rfl⟩:=hown.form;by_cases hlt:k<16
      ·have hi2:(k:Int)<16:=(by omega);go_wp2_with fail;clear c0;refine(uT A c H k _ (h.out.below hb) hn.out).mono ?_;rintro e wl ⟨vl,rfl,hLO,hbl⟩;have zU:=hide (fun e=>FY (H:=H) (π:=π) (k:=k) e);have hnext:=hide (fun e=>FZ (H:=H) (π:=π) (k:=k) e);have hrow:=hide (fun l=>hrs.out (k:Int) l);have hLn:=oI H k;have h32:H.length≤1000000:=hn.out.1;have hWe:=hide (fun(e:(aC (bG H (k:Int))).length=0)=>(by rw[aK]at e;exact List.eq_nil_of_length_eq_zero e:bG H (k:Int)=[]));have hWn:=hide (fun(e:(aC (bG H (k:Int))).length≠0)=>(by rintro e';rw[aK,e']at e;exact e rfl:bG H (k:Int)≠[]));have hLl:(aC (bG H (k:Int))).length≤1000000:=(by rw[aK];omega);have hcnt:=hrl.out k;clear hLn;replace h32:=hide h32;generalize aC (bG H (k:Int))=L at*;obtain⟨Al,cl,rfl⟩:=hLO.form;have hb2:=hb.trans (hbl.mono hb.size);have k8:=k7.below hbl k7.lt;have kO8:=kO7.below hbl kO7.lt;have hown2:=hown.below hbl (Nat.le_refl _);have P6:=hbl.size;replace hbl:=hide hbl;replace hown:=hide hown;clear hb k7 kO7;by_cases hL0:L.length=0
       ·have hz1:((L.length:Int)==0)=true:=(by rw[hL0];rfl);have hsk:=hide (zU.out (hWe.out hL0));clear hL0 zU hnext hrow hWe hWn hLO hown hbl;go_wp2;go_roundw;case rel=>exact⟨k+1,by omega,by go_num,by rw[hsk.out];exact hown2,hb2,k8,kO8,by omega⟩
        case measure=>simp[intOf];omega
       ·have hz1:((L.length:Int)==0)=false:=by
         rw[beq_eq_false_iff_ne];omega
        replace hnext:=hide (hnext.out (hWn.out hL0));have cO:=Blk.n0 kO8;have hπ8:aP wl (fun b=>b<Wo.heap.size) (.slice Ap π.length cp) π:=aP.keep hπ.out (Agree.below hb2 fun b h=>h) (fun b h=>Nat.lt_of_lt_of_le (show b<_ from h) (by omega));clear hL0 zU hWe hWn;replace hLO:=hide hLO;go_wp2_with fail;refine(Mr Wo.heap.size Al cl L (w.heap.size+1) Ap cp π wl hLO.out (by omega) (by omega) cO hπ8 hpl).mono ?_;rintro e w9 ⟨rfl,⟨M,hM1,hM2,hM3⟩,hb9⟩;have hML:=hM1.length_eq;have hMr:=hide (hrow.out M hM1 hM2);have VB:=hb2.trans (hb9.mono (by omega));have k10:=k8.below hb9 (by omega);have Uh:=kO8.below hb9 (by omega);have hs9:=hb9.size;rw[←hML]at hM3;have hMS:aP w9 (TyK w.heap.size [3] w9) (.slice Al M.length cl) M:=C8 (bH hM3 (by omega)) (fun _=>rfl) (by simp);have FR:=qP.below hown.out (hbl.out.trans hb9) (Nat.le_refl _);have hrw:jK w9 (TyK w.heap.size [3] w9) [.int .i64 k,.slice Al M.length cl] ⟨(k:Int),M⟩:=⟨Al,cl,rfl,hMS⟩;have hM4:(zL H π (k:Int))=⟨(k:Int),M⟩:=(by rw[hMr.out];rfl);rw[hM4]at hnext;rw[←hML];replace hML:=hide hML;replace hM4:=hide hM4;generalize jd H π k=D at*;replace FR:=hide FR;replace hrw:=hide hrw;clear hM1 hM2 hM3 hMS hown2 hown hbl hb9 hb2 k8 kO8 cO hπ8 hLO;go_wp2_with (at_builtin;go_loud (refine nG jK.aO jK.one rfl (.tmp 48) (.tmp 52) 69 rfl w.heap.size 72 is _ 2 32 Tryz.underlying69 his hq1 hq2 hq3 rfl (by decide) [3] (by decide) (.slice Av D.length cv) D rfl FR.out _ (⟨(k:Int),M⟩:aT) rfl hrw.out rfl (by unfold maxLen;omega) (by omega) (by omega) w w.heap.size (Nat.le_refl _) VB ?_);intro v1 w6 hown1 U8 hb1 nI Om);go_roundw;case rel=>exact⟨k+1,by omega,by go_num,by rw[hnext.out];exact hown1,hb1,Om _ _ _ k10 (by decide),Om _ _ _ Uh (by decide),(Om _ _ _ Uh (by decide)).lt⟩
        case measure=>simp[intOf];omega
      ·obtain rfl:k=16:=(by omega);go_wp2;go_ret;exact⟨_,rfl,by rw[←hax.out];exact hown,hb⟩
  ·have hz1:((π.length:Int) !=(H.length:Int))=true:=bne_iff_ne.2 (by omega);have hx:=hide (hbad.out (.inr (E9.out hlen)));clear hlen hbad E9 hps hall hrs;go_wp2;go_ret;exact⟨_,rfl,by rw[hx.out];exact qP.nil _ _,hb7⟩
end Go.Proofs.YtfhnamomiaekdaaGreatDoor
namespace Go.Inq
open Go
section
variable{ops:Array Oper}
def Jd(ms:List Nat)(i j:Nat):Bool:=(ms.getD i 0).testBit j
def JO(ops:Array Oper)(ms:List Nat):Bool:=(List.range ops.size).all fun n=>(List.range n).all fun i=> !Jd ms n i||(match ops[n]? with
 |some o=>o.after.any fun e=>Region.binds .any e&&(decide (e.on<n)&&(e.on==i||(decide (i<e.on)&&Jd ms e.on i)))
 |none=>false)
theorem kV{md:Region.Mode}:∀{f f' j i:Nat},bf md ops f j i=true→f≤f'→bf md ops f' j i=true
 |0,_,_,_,h,_=>by simp[bf]at h
 |f+1,0,_,_,_,hf=>by omega
 |f+1,f'+1,j,i,h,hf=>by
  unfold bf at h⊢;cases ho:ops[j]? with
  |none=>rw[ho]at h;exact h
  |some o=>
   rw[ho]at h;dsimp only at h⊢;rw[←Array.any_toList,List.any_eq_true]at h⊢;obtain⟨e,he,h2⟩:=h;refine⟨e,he,?_⟩;rw[Bool.and_eq_true,Bool.or_eq_true]at h2⊢;exact⟨h2.1,h2.2.imp id fun g=>kV g (by omega)⟩
theorem zW{ms:List Nat}(h:JO ops ms=true):∀(n:Nat),n<ops.size→∀i,i<n→Jd ms n i=true→bf .any ops (n+1) n i=true:=by
 intro n
 induction n using Nat.strongRecOn with
 |ind n ih=>
  intro hn i hi hm;unfold JO at h;have h1:=List.all_eq_true.1 (List.all_eq_true.1 h n (List.mem_range.2 hn)) i (List.mem_range.2 hi);rw[hm]at h1;unfold bf;cases ho:ops[n]? with
  |none=>rw[ho]at h1;simp at h1
  |some o=>
   rw[ho]at h1;dsimp only at h1⊢;simp only[Bool.not_true,Bool.false_or]at h1;rw[←Array.any_toList,List.any_eq_true]at h1⊢;obtain⟨e,he,h2⟩:=h1;refine⟨e,he,?_⟩;rw[Bool.and_eq_true,Bool.and_eq_true,decide_eq_true_eq,Bool.or_eq_true,Bool.and_eq_true,decide_eq_true_eq]at h2;rw[Bool.and_eq_true,Bool.or_eq_true];refine⟨h2.1,h2.2.2.imp id fun g=> ?_⟩;exact kV (ih e.on h2.2.1 (by omega) i g.1 g.2) (by omega)
def uU(ops:Array Oper)(ms:List Nat):Bool:=JO ops ms&&(Region.noSelect ops&&(List.range ops.size).all fun i=>match ops[i]? with
 |none=>true
 |some o=>(o.after.all fun e=> !Region.binds .any e||decide (e.on<i))&&
  (List.range ops.size).all fun j=>match ops[j]? with
   |none=>true
   |some oj=>match oj.dst with
    |none=>true
    |some t=>(i==j||o.dst !=some t)&&(!(iK ops o).contains t||(decide (j<i)&&Jd ms i j)||(decide (i<j)&&Jd ms j i)||i==j))
theorem Mt{ms:List Nat}(h:uU ops ms=true):eH ops=true:=by
 unfold uU at h;rw[Bool.and_eq_true,Bool.and_eq_true]at h;obtain⟨hm,hs,hall⟩:=h;have hw:=zW hm;unfold eH;rw[Bool.and_eq_true];refine⟨hs,List.all_eq_true.2 fun i hi=> ?_⟩;have hi':=List.mem_range.1 hi;have h1:=List.all_eq_true.1 hall i hi;cases ho:ops[i]? with
 |none=>rfl
 |some o=>
  rw[ho]at h1;dsimp only at h1⊢;rw[Bool.and_eq_true]at h1⊢;refine⟨h1.1,List.all_eq_true.2 fun j hj=> ?_⟩;have hj':=List.mem_range.1 hj;have h2:=List.all_eq_true.1 h1.2 j hj;cases hoj:ops[j]? with
  |none=>rfl
  |some oj=>
   rw[hoj]at h2;dsimp only at h2⊢;cases ht:oj.dst with
   |none=>rfl
   |some t=>
    rw[ht]at h2;dsimp only at h2⊢;rw[Bool.and_eq_true]at h2⊢;refine⟨h2.1,?_⟩;have h3:=h2.2;rw[Bool.or_eq_true,Bool.or_eq_true,Bool.or_eq_true,Bool.and_eq_true,Bool.and_eq_true,decide_eq_true_eq,decide_eq_true_eq]at h3⊢;rcases h3 with((g|g)|g)|g
    ·exact .inl (.inl (.inl g))
    ·exact .inl (.inl (.inr ⟨g.1,kV (hw i hi' j g.1 g.2) (by omega)⟩))
    ·exact .inl (.inr ⟨g.1,kV (hw j hj' i g.1 g.2) (by omega)⟩)
    ·exact .inr g
end
section
variable{P:Program}{Q:Exit→Act→World→Prop}{a:Act}
theorem zX {id:Nat} {w:World} {l:List Oper} (ms:List Nat) (Rs:Nat→(Nat→Value)→World→Prop) (S:World→Prop) (St:Nat→World→World→Prop) (dp:Nat→List Nat) (hm:P.follows .mixedOrders=true) (hB:uU l.toArray ms=true)
 (hdp:((List.range l.length).all fun i=>(dp i).all fun j=>decide (j<i)&&Jd ms i j)=true) (Rk:∀i,l.length≤i→dp i=[])
 (hcg:∀j vs vs' w,(∀k,k=j∨k∈dp j→vs k=vs' k)→Rs j vs w→Rs j vs' w) (hR:∀i j vs w w',j≠i→Rs j vs w→St i w w'→Rs j vs w') (hS:S w.drew)
 (hstep:∀i o,l[i]?=some o→∀(vs:Nat→Value) w,S w→(∀j∈dp i,Rs j vs w)→wpList P l.toArray (rX (fun v w'=>Rs i (bW vs i v) w'∧S w'∧St i w w') (acV l.toArray a vs i) o.dst) [o] (acV l.toArray a vs i) w)
 (hend:∀(vs:Nat→Value) w,S w→(∀j,j<l.length→Rs j vs w)→Q .normal (acV l.toArray a vs l.length) w):(Code.region id l.toArray true).wp P Q a w:=by
 have hsz:l.toArray.size=l.length:=(by simp);have hmb:JO l.toArray ms=true:=by
  unfold uU at hB;rw[Bool.and_eq_true]at hB;exact hB.1
 refine lW Rs S St dp hm (Mt hB) (List.all_eq_true.2 fun i hi=>List.all_eq_true.2 fun j hj=> ?_) Rk (fun _=>[]) (List.all_eq_true.2 fun i hi=>rfl) hcg (fun i j vs w w' h1 _ h2 h3=>hR i j vs w w' h1 h2 h3) hS hstep fun vs w h1 h2=>hend vs w h1 fun j hj=>h2 j hj fun i _ hn=>(by cases hn);have h1:=List.all_eq_true.1 (List.all_eq_true.1 hdp i hi) j hj;have hi':=List.mem_range.1 hi;rw[Bool.and_eq_true,decide_eq_true_eq]at h1;exact kV (zW hmb i (by rw[hsz];exact hi') j h1.1 h1.2) (by omega)
end
end Go.Inq
namespace Go.Inq
open Go Go.RowKit
structure Wq where
 p:Value→World→Prop
 st:∀(v:Value) (W W':World),p v W→Below W.heap.size W W'→p v W'
def qV(x:Value):Wq:=⟨fun v _=>v=x,fun _ _ _ h _=>h⟩
def RsB(ws:List Wq)(j:Nat)(vs:Nat→Value)(W:World):Prop:=
 match ws[j]? with
 |some q=>q.p (vs j) W
 |none=>True
section
variable{P:Program}{Q:Exit→Act→World→Prop}{a:Act}
theorem qz {id:Nat} {w W0:World} {l:List Oper} (ws:List Wq) (ms:List Nat) (dps:List (List Nat)) (hm:P.follows .mixedOrders=true) (hB:uU l.toArray ms=true)
 (hdp:((List.range l.length).all fun i=>(dps.getD i []).all fun j=>decide (j<i)&&Jd ms i j)=true) (hln:dps.length≤l.length) (hS:Below W0.heap.size W0 w)
 (hstep:∀i o,l[i]?=some o→∀(vs:Nat→Value) W,Below W0.heap.size W0 W→(∀j∈dps.getD i [],RsB ws j vs W)→wpList P l.toArray (rX (fun v w'=>RsB ws i (bW vs i v) w'∧Below W0.heap.size W0 w'∧Below W.heap.size W w') (acV l.toArray a vs i) o.dst) [o] (acV l.toArray a vs i) W)
 (hend:∀(vs:Nat→Value) W,Below W0.heap.size W0 W→(∀j,j<l.length→RsB ws j vs W)→Q .normal (acV l.toArray a vs l.length) W):(Code.region id l.toArray true).wp P Q a w:=by
 refine zX ms (RsB ws) (fun W=>Below W0.heap.size W0 W) (fun(_:Nat) (W W':World)=>Below W.heap.size W W') (fun i=>dps.getD i []) hm hB hdp (fun i hi=> ?_) (fun j vs vs' W hk h=> ?_) (fun i j vs W W' _ h hs=> ?_) hS.drew hstep hend
 ·rw[List.getD_eq_getElem?_getD,List.getElem?_eq_none (by omega)];rfl
 ·unfold RsB at h⊢;rw[←hk j (.inl rfl)];exact h
 ·unfold RsB at h⊢;cases hw:ws[j]? with
  |none=>trivial
  |some q=>rw[hw]at h;exact q.st _ _ _ h hs
end
end Go.Inq
