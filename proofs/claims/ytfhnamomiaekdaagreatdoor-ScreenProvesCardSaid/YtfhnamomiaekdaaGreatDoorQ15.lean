/-
  Walks: layer 8: few transactions.
-/
import Derived.Test.YtfhnamomiaekdaaGreatDoorProg
import Derived.Test.YtfhnamomiaekdaaGreatDoorRows
import Derived.Test.YtfhnamomiaekdaaGreatDoorCards
import Derived.Test.YtfhnamomiaekdaaGreatDoorTie
import Derived.ProofKit
import Derived.OpenShut
import Derived.LaidMore
import Derived.Lay
import Derived.SevenTiedAt
import Derived.Stop.Joined
import Derived.HandedShaped
import Derived.SliceStrings
import Derived.Deep.Slices
import Derived.Below
import Derived.Carry
import Derived.Lib.LaidU8
import Derived.Deep.Fields
import Derived.ChangeSame
import Derived.Lib.SmallJoins
import Derived.Deep.Strs
import Derived.JoinedOf
import Derived.Test.YtfhnamomiaekdaaGreatDoorQ04
import Derived.Test.YtfhnamomiaekdaaGreatDoorQ01
import Derived.Test.YtfhnamomiaekdaaGreatDoorQ14
set_option linter.unusedVariables false
set_option linter.unusedSimpArgs false
namespace Go.Proofs.YtfhnamomiaekdaaGreatDoor
open Go.RowKit Go.Inq
set_option maxHeartbeats 2000000
attribute [local go_sem↓] Go.wp_at_zero Go.wp_at_succ
def uL(N:Nat)(l:List Txn):Bool:=decide (l.length≤N)&&l.all fun t=>decide (t.writes.length≤20)&&decide (t.reads.length≤20)
theorem Kw{N:Nat}{l:List Txn}(h:uL N l=true):l.length≤N:=by
 unfold uL at h;rw[Bool.and_eq_true]at h;simpa using h.1
theorem Er{N:Nat}(hN:N≤40){l:List Txn}(h:uL N l=true):aC l:=by
 unfold uL at h;rw[Bool.and_eq_true,List.all_eq_true]at h;have h1:l.length≤N:=(by simpa using h.1);refine⟨by omega,fun t ht=> ?_⟩;have:=h.2 t ht;simp at this;omega
theorem Ky{N:Nat}{l:List Txn}{i:Nat}(hi:i<l.length)(h:20<l[i].writes.length∨20<l[i].reads.length):uL N l=false:=by
 rw[←Bool.not_eq_true];intro g;unfold uL at g;rw[Bool.and_eq_true,List.all_eq_true]at g;have:=g.2 _ (List.getElem_mem hi);simp at this;omega
theorem HY{N:Nat}{l:List Txn}(h:N<l.length):uL N l=false:=by
 unfold uL;rw[show decide (l.length≤N)=false by simpa using h];rfl
theorem HZ{N:Nat}{l:List Txn}(h:l.length≤N)(hall:∀i (hi:i<l.length),l[i].writes.length≤20∧l[i].reads.length≤20):uL N l=true:=by
 unfold uL;rw[Bool.and_eq_true,List.all_eq_true];refine⟨by simpa using h,fun t ht=> ?_⟩;obtain⟨i,hi,rfl⟩:=List.getElem_of_mem ht;have:=hall i hi;simp;omega
set_option maxRecDepth 100000 in
theorem H6(N:Nat)(A:Option Addr)(c:Nat)(H:List Txn)(w:World)(h:av w (Old w) (.slice A H.length c) H)(hn:H.length≤maxLen)(hns:∀t∈H,t.writes.length≤maxLen∧t.reads.length≤maxLen):
 Calls Tryz.prog 33 #[.agg #[.slice A H.length c],.int .i64 (N:Int)] w fun e w'=>e= .returned (.bool (uL N H))∧Below w.heap.size w w':=by
 unfold maxLen at hn hns;have hA:Below w.heap.size w (w.alloc (.cells #[.slice A H.length c] 24)):=(Below.refl _ _).alloc (Nat.le_refl _) _;have kh:Blk (w.alloc (.cells #[.slice A H.length c] 24)) w.heap.size 24 #[.slice A H.length c]:=Blk.new _ _ _;have h1:=av.below h hA;have y0:=Blk.n0 kh;have hl1:(0:Int)≤(H.length:Int):=Int.natCast_nonneg _;replace hns:=hide hns;by_cases hm:N<H.length
 ·have hr:=hide (HY hm);have hmb:decide ((H.length:Int)>(N:Int))=true:=(by simp;omega);have Qw:decide (N<H.length)=true:=(by simp;omega);clear hm;go_enter Tryz.func33,Tryz.ntmps33;go_wp2;go_ret;exact⟨by rw[hr.out];rfl,hA⟩
 ·have hmb:decide ((H.length:Int)>(N:Int))=false:=(by simp;omega);have Qw:decide (N<H.length)=false:=(by simp;omega);have hbad:=hide (fun i=>Ky (N:=N) (l:=H) (i:=i));have hgood:=hide (HZ (N:=N) (l:=H) (by omega));go_enter Tryz.func33,Tryz.ntmps33;go_wp2_with fail;generalize w.alloc (.cells #[.slice A H.length c] 24)=W at*
  go_loop [5] (fun s5=>∃i:Nat,i≤H.length∧s5= .int .i64 i∧Hid (∀j (hj:j<H.length),j<i→H[j].writes.length≤20∧H[j].reads.length≤20)) (fun s5=>H.length-(intOf s5).toNat)
  case atStart=>exact⟨0,Nat.zero_le _,by go_num,fun j hj h=>absurd h (by omega)⟩
  case round=>
   obtain⟨i,hi,rfl,hall⟩:=hrel;have hi1:(0:Int)≤(i:Int):=Int.natCast_nonneg _;by_cases hlt:i<H.length
   ·have hi2:(i:Int)<(H.length:Int):=(by omega);obtain⟨b,off,Aw,cw,Ar,cr,rfl,hbK,d0,d1,d2,hws,hrs⟩:=av.at_ h1 hlt;have hb:=hide (hbad.out i hlt);have hsm:=hns.out _ (List.getElem_mem hlt);have hst:Hid (H[i].writes.length≤20∧H[i].reads.length≤20→∀j (hj:j<H.length),j<i+1→H[j].writes.length≤20∧H[j].reads.length≤20):=fun g j hj hji=>by
     by_cases e:j=i
     ·subst e;exact g
     ·exact hall.out j hj (by omega)
    clear hall hws hrs;generalize H[i]=t at*;obtain⟨ts,ws,rs⟩:=t;dsimp only at*;by_cases g1:20<ws.length
    ·have g1b:decide ((ws.length:Int)>20)=true:=(by simp;omega);have hr:=hide (hb.out (.inl g1));clear g1 hb hst;go_wp2;go_ret;exact⟨by rw[hr.out];rfl,hA⟩
    ·have g1b:decide ((ws.length:Int)>20)=false:=(by simp;omega);by_cases g2:20<rs.length
     ·have g2b:decide ((rs.length:Int)>20)=true:=(by simp;omega);have hr:=hide (hb.out (.inr g2));clear g2 hb hst;go_wp2;go_ret;exact⟨by rw[hr.out];rfl,hA⟩
     ·have g2b:decide ((rs.length:Int)>20)=false:=(by simp;omega);have hr:=hide (hst.out ⟨by omega,by omega⟩);clear hb hst;go_wp2
      go_round
      case rel=>exact⟨i+1,by omega,by go_num,hr⟩
      case measure=>simp[intOf];omega
   ·have hr:=hide (hgood.out fun j hj=>hall.out j hj (by omega));go_wp2;go_ret;exact⟨by rw[hr.out];rfl,hA⟩
set_option maxHeartbeats 8000000
theorem lT(A:Option Addr)(c:Nat)(H:List Txn)(level:Int)(w:World)(h:av w (Old w) (.slice A H.length c) H)(hn:aC H)(hTB:gL w):
 Calls Tryz.prog 48 #[.agg #[.slice A H.length c],.int .i64 level] w (pV w (bq H level)):=by
 cases hb:dn H []&&(decide (level=0)||decide (level=1))with
 |false=>exact En A c H level w h hn hb
 |true=>
  rw[Bool.and_eq_true,Bool.or_eq_true,decide_eq_true_eq,decide_eq_true_eq]at hb;by_cases hf:dP H.length (bH H level [])=[]
  ·by_cases hp:bN H=[]
   ·obtain⟨O,hO⟩:=Option.isSome_iff_exists.1 (show(fZ H.length (bH H level [])).isSome=true by rw[pz,yQ.1 hf];rfl);exact Ep A c H level w h hn hb.1 hb.2 hf hp O hO hTB
   ·exact zY A c H level w h hn hb.1 hb.2 hf hp hTB
  ·exact Hr A c H level w h hn hb.1 hb.2 hf hTB
theorem mo.sl{w:World}{base:Nat}{v:Value}{l:List (Cho×Option Nat)}(h:mo w base v l){K:Nat→Prop}(hK:∀g,base≤g→g<w.heap.size→K g):SlR 7 (Flat JC) w K v l:=SlR.of_flat h rfl (fun _=>rfl) hK
theorem mo.at_{w:World}{base:Nat}{A:Option Addr}{n c:Nat}{l:List (Cho×Option Nat)}(h:mo w base (.slice A n c) l){i:Nat}(hi:i<l.length):
 ∃b off,A=some ⟨b,off,none⟩∧w.cell? ⟨b,off+i*7,none⟩=some (.int .i64 l[i].1.key)∧w.cell? ⟨b,off+i*7+1,none⟩=some (.int .i64 l[i].1.a)∧w.cell? ⟨b,off+i*7+2,none⟩=some (.int .i64 l[i].1.b)∧
  w.cell? ⟨b,off+i*7+3,none⟩=some (.int .i64 (mkF l[i].1 l[i].2).kind)∧w.cell? ⟨b,off+i*7+4,none⟩=some (.int .i64 (mkF l[i].1 l[i].2).i)∧w.cell? ⟨b,off+i*7+5,none⟩=some (.int .i64 0)∧w.cell? ⟨b,off+i*7+6,none⟩=some (.slice none 0 0):=by
 obtain⟨b,off,cs,hA,-,_,hR,hc⟩:=SlR.at_ (h.sl (K:=fun _=>True) fun _ _ _=>trivial) hi;unfold Flat at hR;subst hR;exact⟨b,off,hA,hc 0 _ rfl,hc 1 _ rfl,hc 2 _ rfl,hc 3 _ rfl,hc 4 _ rfl,hc 5 _ rfl,hc 6 _ rfl⟩
def Cq(w:World)(base:Nat)(v:Value)(r:Scr):Prop:=∃vo vt vf,v= .agg #[.int .i64 r.said,vo,vt,vf]∧aV w base vo (aB r.order)∧kU w base vt r.tree∧mo w base vf r.facts
theorem kU.below{w w':World}{base:Nat}{v:Value}{o:Option (List Nat)}(h:kU w base v o)(hb:Below w.heap.size w w'):kU w' base v o:=by
 cases o with
 |none=>exact h
 |some l=>
  obtain⟨g,vc,h1,h2,h3,h4⟩:=h;exact⟨g,vc,h1,h2,h3.below hb h3.lt,own_below h4 hb (Nat.le_refl _)⟩
theorem kU.type{w:World}{base:Nat}{v:Value}{o:Option (List Nat)}{g i:Nat}{cs:Array Value}{u:Value}(h:kU w base v o)(hk:Blk w g 36 cs):kU (w.setCell ⟨g,i,none⟩ u) base v o:=by
 cases o with
 |none=>exact h
 |some l=>
  obtain⟨g2,vc,h1,h2,h3,h4⟩:=h;exact⟨g2,vc,h1,h2,h3.far (p:=⟨g,i,none⟩) (Cn h3 hk (by decide)) _,h4.kept (aI g i u) (qY h4 hk (by decide))⟩
theorem Cq.below{w w':World}{base:Nat}{v:Value}{r:Scr}(h:Cq w base v r)(hb:Below w.heap.size w w'):Cq w' base v r:=by
 obtain⟨vo,vt,vf,h1,h2,h3,h4⟩:=h;exact⟨vo,vt,vf,h1,own_below h2 hb (Nat.le_refl _),h3.below hb,own_below h4 hb (Nat.le_refl _)⟩
theorem Cq.type{w:World}{base:Nat}{v:Value}{r:Scr}{g i:Nat}{cs:Array Value}{u:Value}(h:Cq w base v r)(hk:Blk w g 36 cs):Cq (w.setCell ⟨g,i,none⟩ u) base v r:=by
 obtain⟨vo,vt,vf,h1,h2,h3,h4⟩:=h;exact⟨vo,vt,vf,h1,h2.kept (aI g i u) (qY h2 hk (by decide)),h3.type hk,h4.kept (aI g i u) (qY h4 hk (by decide))⟩
def yj(w:World)(base g:Nat)(r:Scr):Prop:=∃vo vt vf,Blk w g 36 #[.int .i64 r.said,vo,vt,vf]∧aV w base vo (aB r.order)∧kU w base vt r.tree∧mo w base vf r.facts
theorem yj.below{w w':World}{base g:Nat}{r:Scr}(h:yj w base g r)(hb:Below w.heap.size w w'):yj w' base g r:=by
 obtain⟨vo,vt,vf,h1,h2,h3,h4⟩:=h;exact⟨vo,vt,vf,h1.below hb h1.lt,own_below h2 hb (Nat.le_refl _),h3.below hb,own_below h4 hb (Nat.le_refl _)⟩
theorem yj.lt{w:World}{base g:Nat}{r:Scr}(h:yj w base g r):g<w.heap.size:=by obtain⟨vo,vt,vf,h1,-⟩:=h;exact h1.lt
theorem av.two{W:World}{K:Nat→Prop}{g:Nat}{t0 t1:Txn}{vw0 vr0 vw1 vr1:Value}(h:Blk W g 109 #[.int .i64 t0.dh,vw0,vr0,.int .i64 t1.dh,vw1,vr1])(h0:aN W K vw0 t0.writes)(h1:ItS W K vr0 t0.reads)(h2:aN W K vw1 t1.writes)(h3:ItS W K vr1 t1.reads)(hK:K g):
 av W K (.slice (some ⟨g,0,none⟩) 2 2) [t0,t1]:=
 Fy (l:=[t0,t1]) [[.int .i64 t0.dh,vw0,vr0],[.int .i64 t1.dh,vw1,vr1]] h rfl (fun i cs x q1 q2=>by
  match i with
  |0=>simp at q1 q2;subst q1 q2;exact⟨rfl,_,_,rfl,h0,h1⟩
  |1=>simp at q1 q2;subst q1 q2;exact⟨rfl,_,_,rfl,h2,h3⟩
  |i+2=>simp at q1) hK (by simp)
def exA:List Txn:=[⟨0,[2],[]⟩,⟨0,[2],[]⟩]
def exB:List Txn:=[⟨0,[],[]⟩]
def exC:List Txn:=[⟨0,[],[⟨1,1⟩]⟩,⟨0,[1],[]⟩]
theorem H7:bN exA=[⟨2,0,1⟩]:=by
 unfold bN;rw[uX (by decide)]
 kernel_rfl
theorem NQ:bq exA 0=⟨3,[],none,[(⟨2,0,1⟩,none)]⟩:=by
 unfold bq;rw[H7]
 kernel_rfl
theorem NR:bq exB 1=⟨1,[0],none,[]⟩:=by kernel_rfl
theorem NS:bq exC 1=⟨2,[],some [0,1],[]⟩:=by kernel_rfl
def yY:Option (List Nat)→Nat
 |none=>0
 |some _=>1
theorem kU.form{w:World}{base:Nat}{v:Value}{o:Option (List Nat)}(h:kU w base v o):∃A c,v= .slice A (yY o) c:=by
 cases o with
 |none=>exact⟨_,_,h⟩
 |some l=>obtain⟨g,vc,q1,q2,-⟩:=h;exact⟨_,_,q2⟩
theorem pV.v{w W':World}{r:Scr}{e:Ending}(h:pV w r e W'):∃Ao no co At nt ct Af nf cf,no=r.order.length∧nt=yY r.tree∧nf=r.facts.length∧e= .returned (.agg #[.int .i64 r.said,.slice Ao no co,.slice At nt ct,.slice Af nf cf])∧Cq W' 0 (.agg #[.int .i64 r.said,.slice Ao no co,.slice At nt ct,.slice Af nf cf]) r∧Below w.heap.size w W':=by
 obtain⟨vo,vt,vf,h1,h2,h3,h4,h5⟩:=h;obtain⟨Ao,co,rfl⟩:=aM h2;obtain⟨At,ct,rfl⟩:=h3.form;obtain⟨Af,cf,rfl⟩:=aM h4;rw[aF]at h1;refine⟨Ao,_,co,At,_,ct,Af,_,cf,rfl,rfl,rfl,h1,⟨_,_,_,rfl,?_,?_,iw h4 (Nat.zero_le _)⟩,h5⟩
 ·rw[←aF];exact iw h2 (Nat.zero_le _)
 ·cases hr:r.tree with
  |none=>rw[hr]at h3;exact h3
  |some l=>
   rw[hr]at h3;obtain⟨g,vc,q1,q2,q3,q4⟩:=h3;exact⟨g,vc,Nat.zero_le _,q2,q3,iw q4 (Nat.zero_le _)⟩
theorem yj.made{w:World}{r:Scr}{vo vt vf:Value}(h:Cq w 0 (.agg #[.int .i64 r.said,vo,vt,vf]) r):
 ∃X,w.alloc (.cells #[.int .i64 r.said,vo,vt,vf] 36)=X∧yj X 0 w.heap.size r∧Below w.heap.size w X:=by
 have hb:=(Below.refl w.heap.size w).alloc (Nat.le_refl _) (.cells #[.int .i64 r.said,vo,vt,vf] 36);obtain⟨vo',vt',vf',h1,h2,h3,h4⟩:=h.below hb;simp only[Value.agg.injEq,Array.mk.injEq,List.cons.injEq,and_true,true_and]at h1;obtain⟨rfl,rfl,rfl⟩:=h1;exact⟨_,rfl,⟨_,_,_,Blk.new _ _ _,h2,h3,h4⟩,hb⟩
set_option maxRecDepth 100000 in
theorem Cr(w:World)(hTB:gL w):Calls Tryz.prog 47 #[] w fun e w'=>e= .returned (.bool true)∧Below w.heap.size w w':=by
 have hE1:=hide NQ;have hE2:=hide NR;have hE3:=hide NS;go_enter Tryz.func47,Tryz.ntmps47;go_wp2_with fail;obtain⟨W1,hW1⟩:∃W1,w.alloc (.cells #[.int .i64 2] 3)=W1:=⟨_,rfl⟩;obtain⟨W2,hW2⟩:∃W2,W1.alloc (.cells #[.int .i64 2] 3)=W2:=⟨_,rfl⟩;have s1:=ay hW1;have s2:=ay hW2;rw[hW1,hW2];obtain⟨W3,hW3⟩:∃W3,W2.alloc (.cells #[.int .i64 0,.slice (some ⟨w.heap.size,0,none⟩) 1 1,.slice none 0 0,.int .i64 0,.slice (some ⟨w.heap.size+1,0,none⟩) 1 1,.slice none 0 0] 109)=W3:=⟨_,rfl⟩;have s3:=ay hW3;have k1:=((Blk.newEq hW1).au hW2).au hW3;have k2:=(Blk.newEq hW2).au hW3;have k3:=Blk.newEq hW3;have b3:=ah (ah (ah (Below.refl w.heap.size w) hW1 (Nat.le_refl _)) hW2 (by omega)) hW3 (by omega);rw[hW3];clear hW1 hW2 hW3;have hA:av W3 (Old W3) (.slice (some ⟨w.heap.size+1+1,0,none⟩) 2 2) exA:=by
  rw[show W2.heap.size=w.heap.size+1+1 by omega]at k3;rw[show W1.heap.size=w.heap.size+1 by omega]at k2;exact av.two (t0:=⟨0,[2],[]⟩) (t1:=⟨0,[2],[]⟩) k3 (aN.bE (l:=[2]) k1 k1.lt) (SlR.nil _ _ _ _ _ _) (aN.bE (l:=[2]) k2 k2.lt) (SlR.nil _ _ _ _ _ _) k3.lt
 have hc:=lT (some ⟨w.heap.size+1+1,0,none⟩) 2 exA 0 W3 hA ⟨by decide,by decide⟩ (hTB.below b3);rw[hE1.out]at hc;refine Calls.mono (by exact hc) ?_;clear hc;rintro e W4 h4;obtain⟨Ao,no,co,At,nt,ct,Af,nf,cf,hno,hnt,hnf,rfl,v4,b4⟩:=(h4).v;simp only[List.length_nil,List.length_cons,Nat.zero_add,yY]at hno hnt hnf;subst hno hnt hnf;clear h4;obtain⟨W5,hX,q,bX⟩:=yj.made v4;replace q:=hide q;replace hX:=hide hX;clear v4;dsimp only at hX⊢;go_upto_region 2 with fail;rw[hX.out];have b5:=b3.trans (b4.mono b3.size);replace b5:=b5.trans (bX.mono b5.size);have q5:=q;clear hX bX b4 k1 k2 k3 hA b3 q;go_wp2_with fail;obtain⟨W6,hW6⟩:∃W6,W5.alloc (.cells #[.int .i64 0,.slice none 0 0,.slice none 0 0] 109)=W6:=⟨_,rfl⟩;rw[hW6];have k6:=Blk.newEq hW6;have b6:=ah (Below.refl W5.heap.size W5) hW6 (Nat.le_refl _);have hB:av W6 (Old W6) (.slice (some ⟨W5.heap.size,0,none⟩) 1 1) exB:=SlR.one k6 rfl ⟨_,_,rfl,SlR.nil _ _ _ _ _ _,SlR.nil _ _ _ _ _ _⟩ k6.lt;have hc:=lT (some ⟨W5.heap.size,0,none⟩) 1 exB 1 W6 hB ⟨by decide,by decide⟩ (hTB.below (b5.trans (b6.mono b5.size)));rw[hE2.out]at hc;refine Calls.mono (by exact hc) ?_;clear hc;rintro e W7 h7;obtain⟨Ao,no,co,At,nt,ct,Af,nf,cf,hno,hnt,hnf,rfl,v7,b7⟩:=(h7).v;simp only[List.length_nil,List.length_cons,Nat.zero_add,yY]at hno hnt hnf;subst hno hnt hnf;clear h7;obtain⟨W8,hX,q,bX⟩:=yj.made v7;replace q:=hide q;replace hX:=hide hX;clear v7;dsimp only at hX⊢;go_upto_region 3 with fail;rw[hX.out];have b8:=(b6.trans (b7.mono b6.size)).trans (bX.mono (by have:=b6.size;have:=b7.size;omega));have q8:=q;replace q5:=hide (q5.out.below b8);replace b5:=b5.trans (b8.mono b5.size);clear hX bX b7 b8 k6 hB b6 hW6 q;go_wp2_with fail;obtain⟨X1,hX1⟩:∃X1,W8.alloc (.cells #[.int .i64 1,.int .i64 1] 106)=X1:=⟨_,rfl⟩;obtain⟨X2,hX2⟩:∃X2,X1.alloc (.cells #[.int .i64 1] 3)=X2:=⟨_,rfl⟩;have s1:=ay hX1;have s2:=ay hX2;rw[hX1,hX2];obtain⟨X3,hX3⟩:∃X3,X2.alloc (.cells #[.int .i64 0,.slice none 0 0,.slice (some ⟨W8.heap.size,0,none⟩) 1 1,.int .i64 0,.slice (some ⟨W8.heap.size+1,0,none⟩) 1 1,.slice none 0 0] 109)=X3:=⟨_,rfl⟩;have s3:=ay hX3;have k1:=((Blk.newEq hX1).au hX2).au hX3;have k2:=(Blk.newEq hX2).au hX3;have k3:=Blk.newEq hX3;have b9:=ah (ah (ah (Below.refl W8.heap.size W8) hX1 (Nat.le_refl _)) hX2 (by omega)) hX3 (by omega);rw[hX3];clear hX1 hX2 hX3;have hC:av X3 (Old X3) (.slice (some ⟨W8.heap.size+1+1,0,none⟩) 2 2) exC:=by
  rw[show X2.heap.size=W8.heap.size+1+1 by omega]at k3;rw[show X1.heap.size=W8.heap.size+1 by omega]at k2;exact av.two (t0:=⟨0,[],[⟨1,1⟩]⟩) (t1:=⟨0,[1],[]⟩) k3 (SlR.nil _ _ _ _ _ _) (SlR.one k1 rfl rfl k1.lt) (aN.bE (l:=[1]) k2 k2.lt) (SlR.nil _ _ _ _ _ _) k3.lt
 have hc:=lT (some ⟨W8.heap.size+1+1,0,none⟩) 2 exC 1 X3 hC ⟨by decide,by decide⟩ (hTB.below (b5.trans (b9.mono b5.size)));rw[hE3.out]at hc;refine Calls.mono (by exact hc) ?_;clear hc;rintro e X4 h10;obtain⟨Ao,no,co,At,nt,ct,Af,nf,cf,hno,hnt,hnf,rfl,v10,b10⟩:=(h10).v;simp only[List.length_nil,List.length_cons,Nat.zero_add,yY]at hno hnt hnf;subst hno hnt hnf;clear h10;obtain⟨X5,hX,q,bX⟩:=yj.made v10;replace q:=hide q;replace hX:=hide hX;clear v10;dsimp only at hX⊢;go_upto_region 4 with fail;rw[hX.out];have b11:=(b9.trans (b10.mono b9.size)).trans (bX.mono (by have:=b9.size;have:=b10.size;omega));replace q5:=q5.out.below b11;replace q8:=q8.out.below b11;replace b5:=b5.trans (b11.mono b5.size);replace q:=q.out;clear hX bX b10 b11 k1 k2 k3 hC b9 hE1 hE2 hE3;generalize W4.heap.size=g1 at*;generalize W7.heap.size=g2 at*;generalize X4.heap.size=g3 at*;obtain⟨u1,u2,u3,k1,o1,t1,f1⟩:=q5;obtain⟨y1,y2,y3,k2,o2,t2,f2⟩:=q8;obtain⟨z1,z2,z3,k3,o3,t3,f3⟩:=q;obtain⟨A1,c1,rfl⟩:=aM f1;obtain⟨A2,c2,rfl⟩:=aM o2;obtain⟨p3,vc,-,rfl,kn,on⟩:=t3;obtain⟨A4,c4,rfl⟩:=aM on;obtain⟨bf,off,rfl,e0,e1,e2,e3,-⟩:=f1.at_ (i:=0) (by simp);have a0:=k1.cell 0;have a3:=k1.cell 3;have d0:=k2.cell 0;have d1:=k2.cell 1;have j0:=k3.cell 0;have j2:=k3.cell 2;have n3:=kn.cell 3;simp only[gA,gZ,gS,List.getElem_cons_zero,Nat.zero_mul,Nat.add_zero,List.length_cons,List.length_nil,Nat.zero_add,aF,mkF]at a0 a3 d0 d1 j0 j2 n3 e0 e1 e2 e3;clear k1 k2 k3 o1 o2 o3 t1 t2 f1 f2 f3 kn on;go_wp2;go_ret;exact⟨rfl,b5⟩
end Go.Proofs.YtfhnamomiaekdaaGreatDoor
namespace Go.Proofs.YtfhnamomiaekdaaGreatDoor
open Go.ChangeShapes Go.WideShapes Go.ChangeAt Go.RowKit Go.Inq
theorem own:ownKnob Tryz.prog.godebug=none:=by kernel_rfl
theorem laidOut:laidOutB Tryz.prog=true:=by kernel_rfl
theorem jq {H:Type} {enc:TypeId×Value→H} {a:Assume} {C:Checked} {os:Os} {f:FuncId} {fn:Func} {s:ChangeSpec} {conds:List PathCond} {apart fresh handsOn again:Bool} {X:World→Array Value→Prop}
 (hX:∀(w w':World) (args:Array Value),w.heap=w'.heap→X w args→X w' args)
 (own:ownKnob C.prog.godebug=none) (started:os.Started) (noInit:C.prog.inits.idxOf? f=none) (hfn:C.prog.funcs[f]?=some fn)
 (witness:∃(w:World) (tape:Tape) (i:Input),w.os=os∧(w.forCall tape i).Shaped C.prog∧i.vars=[]∧Input.okWide C.prog (w.forCall tape i) .any w.heap.size f i∧
  ((s.pre enc C.prog fn conds apart (w.forCall tape i).memory i.args∧X (w.forCall tape i).memory i.args)∧sizedMet enc C.prog fn (OpenSpec.ofChange s) apart (w.forCall tape i).memory i.args)∧a.holds C.prog (lone (Frame.enter C.prog f i.args .normal) [] (w.forCall tape i)))
 (contract:∀(W:World) (base:Nat) (args:Array Value) (ds gs:List (DataW H)) (before:List MemPlace),
  (∀(j:Nat) t v,fn.params[j]?=some t→args[j]?=some v→Value.okWide C.prog W .any base t v)→
  DataW.Whole enc C.prog fn.params.toList s.vars apart W args.toList ds gs before→
  X W args→W.ShapedOpen C.prog→
  Calls C.prog f args W fun e W'=>∃v,e= .returned v∧s.post enc C.prog fn apart fresh handsOn again W args v W'):
 ReturnsInHanded a C os f .any (fun w args=>(s.pre enc C.prog fn conds apart w args∧X w args)∧sizedMet enc C.prog fn (OpenSpec.ofChange s) apart w args) (s.post enc C.prog fn apart fresh handsOn again):=by
 refine returnsInHanded_of_calls own started noInit witness ?_;intro w tape i _ hsh _ hok hpre hholds;obtain⟨_,_,_,fn',hfn',_,_,_,_,hval⟩:=hok;have e:fn'=fn:=Option.some.inj (hfn'.symm.trans hfn);subst e;obtain⟨⟨⟨ds,gs,before,hw,hc⟩,hx⟩,hz⟩:=hpre;have hw':=DataW.Whole.of_heap (w':=w.forCall tape i) (by rfl) hw;refine(contract (w.forCall tape i) w.heap.size i.args ds gs before hval hw' (hX _ _ _ (by rfl) hx) hsh).mono fun e W' ⟨v,he,hp⟩=> ?_;subst he;exact ChangeSpec.post_blind hp
def sI(P:Program)(ts:List TypeId):Bool:=ts.all fun t=>P.readableRec t&&decide (t<P.types.size)
theorem Below.Kz{P:Program}(hl:laidOutB P=true){H:Type}{enc:TypeId×Value→H}{W W':World}(hb:Below W.heap.size W W'):∀(ts:List TypeId) (vs:List Value) (ds:List (DataW H)) (ps:List MemPlace),sI P ts=true→
 DataW.TrodAll enc P W 0 (fun _=>true) true ts vs ds ps→(∀x∈ps,x.block<W.heap.size)→DataW.TrodAll enc P W' 0 (fun b=>decide (b<W.heap.size)) true ts vs ds ps:=by
 intro ts
 induction ts with
 |nil=>
  intro vs ds ps _ h _;cases vs with
  |cons=>exact h.elim
  |nil=>
   cases ds with
   |cons=>exact h.elim
   |nil=>exact h
 |cons t ts ih=>
  intro vs ds ps hk h hlt;cases vs with
  |nil=>exact h.elim
  |cons v vs=>
   cases ds with
   |nil=>exact h.elim
   |cons d ds=>
    obtain⟨p,q,h1,h2,rfl⟩:=h;unfold sI at hk;rw[List.all_cons,Bool.and_eq_true,Bool.and_eq_true]at hk;exact⟨p,q,Below.trod hl hk.1.1 (of_decide_eq_true hk.1.2) h1 hb (fun x hx=>hlt x (List.mem_append.2 (.inl hx))),ih _ _ _ hk.2 h2 (fun x hx=>hlt x (List.mem_append.2 (.inr hx))),rfl⟩
theorem Below.trodAll {H:Type} {enc:TypeId×Value→H} {W W':World} (hb:Below W.heap.size W W') {ts:List TypeId} {vs:List Value} {ds:List (DataW H)} {ps:List MemPlace} (hk:sI Tryz.prog ts=true)
 (h:DataW.TrodAll enc Tryz.prog W 0 (fun _=>true) true ts vs ds ps) (hlt:∀x∈ps,x.block<W.heap.size):DataW.TrodAll enc Tryz.prog W' 0 (fun b=>decide (b<W.heap.size)) true ts vs ds ps:=
 Below.Kz laidOut hb ts vs ds ps hk h hlt
theorem gL.of{l:List (String×DataW Unit)}{W:World}(h:laidMetH Tryz.prog l W)(hp:laidMetH Tryz.prog l W=laidMet Tryz.prog l W)(hm:("math/bits.deBruijn64tab",Rows.laid_math_bits_deBruijn64tab)∈l):gL W:=by
 rw[hp]at h;obtain⟨g,t,cs,fuel,p,hg,ht,hv,hd⟩:=Lib.laidMet.reads h hm;obtain rfl:=Option.some.inj ((show Tryz.prog.globalNamed "math/bits.deBruijn64tab" =some 0 by kernel_rfl).symm.trans hg);obtain rfl:=Option.some.inj ((show(Tryz.prog.globals[0]?).map (·.type)=some 292 by kernel_rfl).symm.trans ht);have hc:=Lib.cells_of_tab (k:= .u8) (zs:=Lib.deBruijn64tab.map fun(x:Nat)=>(x:Int)) Tryz.underlying292 Tryz.underlying5 (by kernel_rfl) (by kernel_rfl) hd;intro j hj;rw[World.var?_cell hg hv j];have h1:cs.toList[j]?=some (.int .u8 (Lib.deBruijn64tab.getD j 0)):=by
  rw[hc,List.getElem?_map,List.getElem?_map,List.getElem?_eq_getElem hj];simp[List.getD_eq_getElem?_getD,List.getElem?_eq_getElem hj]
 simpa using h1
end Go.Proofs.YtfhnamomiaekdaaGreatDoor
namespace Go.Proofs.YtfhnamomiaekdaaGreatDoor
open Go.Joins Go.ChangeShapes Go.WideShapes Go.ChangeAt Go.RowKit Go.Deep Go.Inq
section
variable{H:Type}{enc:TypeId×Value→H}{w:World}{base:Nat}{spare:Nat→Bool}{held:Bool}
theorem sJ {α:Type} {size:Nat} {R:World→(Nat→Prop)→List Value→α→Prop} {te ts:TypeId} (P:α→Prop) (x0:α) (hT:Tryz.prog.underlying ts=some (.slice te)) (hC:Tryz.prog.cellsOf te=size) (hs0:0<size)
 (hop:∀n cs x,DataW.trod enc Tryz.prog w base spare held n te cs=some x→∃t,R w (Old w) cs t∧P t)
 {n:Nat} {v:Value} {x:DataW H×List MemPlace} (h:DataW.trod enc Tryz.prog w base spare held n ts [v]=some x):
 ∃(A:Option Addr) (c:Nat) (l:List α),v= .slice A l.length c∧SlR size R w (Old w) (.slice A l.length c) l∧l.length≤maxLen∧∀t∈l,P t:=by
 rcases open_slice hT h with⟨h1,_⟩|⟨a,len,cap,m,n',D,Pl,h1,_,hl,hm,hmm,hx,hi⟩
 ·injection h1 with h1
  exact⟨none,0,[],h1,SlR.nil _ _ _ _ _ _,Nat.zero_le _,fun t ht=>by simp at ht⟩
 ·injection h1 with h1
  subst h1;rw[hC]at hi;have hlm:len≤m:=(by rw[hmm];split<;>omega);have hex:∀i,∃p:α×List Value,i<len→p.2.length=size∧R w (Old w) p.2 p.1∧P p.1∧∀j u,p.2[j]?=some u→w.cell? (a.add (i*size+j))=some u:=fun i=>by
   by_cases hil:i<len
   ·obtain⟨cs,hc,ht⟩:=hi i (by omega);obtain⟨t,hR,hP⟩:=hop _ _ _ ht;obtain⟨_,hcl,hat⟩:=World.cells?_some hc;refine⟨(t,cs),fun _=>⟨by simpa using hcl,hR,hP,fun j u hj=> ?_⟩⟩;have hj4:j<size:=by
     rcases Nat.lt_or_ge j size with h|h
     ·exact h
     ·rw[List.getElem?_eq_none (by dsimp only;omega)]at hj;cases hj
    rw[←Go.Deep.add_add,hat j hj4];exact hj
   ·exact⟨(x0,[]),fun h=>absurd h hil⟩
  obtain⟨f,hf⟩:=Classical.axiomOfChoice hex;have hlen:((List.range len).map fun i=>(f i).1).length=len:=(by simp);refine⟨some a,cap,(List.range len).map fun i=>(f i).1,by rw[hlen],⟨some a,cap,(List.range len).map fun i=>(f i).2,rfl,by omega,by simp,fun i cs x h1 h2=> ?_,fun h0=> ?_⟩,by omega,fun t ht=> ?_⟩
  ·simp only[List.getElem?_map]at h1 h2;cases hr:(List.range len)[i]? with
   |none=>rw[hr]at h1;cases h1
   |some k=>
    rw[hr]at h1 h2;simp at h1 h2;subst h1 h2;have hk:k<len:=by
     rw[List.getElem?_eq_some_iff]at hr;obtain⟨h3,h4⟩:=hr;simp at h3 h4;omega
    exact⟨(hf k hk).1,(hf k hk).2.1⟩
  ·rw[hlen]at h0;obtain⟨g1,_,_,g4⟩:=hf 0 h0;have hc0:=g4 0 ((f 0).2[0]'(by omega)) (List.getElem?_eq_getElem (by omega));obtain⟨_,_,_,_,hs⟩:=World.shape?_of_cell? hc0;obtain⟨b,o,sp⟩:=a;have hsp:sp=none:=by
    cases sp with
    |none=>rfl
    |some q=>simp[Addr.add]at hs
   subst hsp;have hbl:b<w.heap.size:=(by have:=block_lt_of_cell hc0;rwa[Addr.add_lit]at this);refine⟨b,o,rfl,hbl,fun i j cs u h1 h2=> ?_⟩;simp only[List.getElem?_map]at h1;cases hr:(List.range len)[i]? with
   |none=>rw[hr]at h1;cases h1
   |some k=>
    rw[hr]at h1;simp at h1;subst h1;have hk:k=i∧i<len:=by
     rw[List.getElem?_eq_some_iff]at hr;obtain⟨h3,h4⟩:=hr;simp at h3 h4;exact⟨h4.symm,h3⟩
    have:=(hf i hk.2).2.2.2 j u (by rw[←hk.1];exact h2);rw[Addr.add_lit,←Nat.add_assoc]at this;exact this
  ·obtain⟨k,hk,rfl⟩:=List.mem_map.1 ht;exact(hf k (by simpa using hk)).2.2.1
theorem KA{n:Nat}{cs:List Value}{x:DataW H×List MemPlace}(h:DataW.trod enc Tryz.prog w base spare held n 3 cs=some x):∃k:Int,Go.Inq.Flat Go.Inq.encI w (Old w) cs k∧True:=by
 obtain⟨k,e,_⟩:=DataW.trod_int Tryz.underlying3 h;exact⟨k,e,trivial⟩
theorem H8{n:Nat}{v:Value}{x:DataW H×List MemPlace}(h:DataW.trod enc Tryz.prog w base spare held n 33 [v]=some x):
 ∃(A:Option Addr) (c:Nat) (l:List Int),v= .slice A l.length c∧aN w (Old w) (.slice A l.length c) l∧l.length≤maxLen:=by
 obtain⟨A,c,l,h1,h2,h3,_⟩:=sJ (R:=Go.Inq.Flat Go.Inq.encI) (size:=1) (fun _=>True) 0 Tryz.underlying33 (by kernel_rfl) (by decide) (fun n cs x h=>KA h) h;exact⟨A,c,l,h1,h2,h3⟩
theorem H9{n:Nat}{cs:List Value}{x:DataW H×List MemPlace}(hC:Tryz.prog.cellsOf 106=2)(h:DataW.trod enc Tryz.prog w base spare held n 106 cs=some x):∃e:It,Go.Inq.Flat It.enc w (Old w) cs e∧True:=by
 obtain⟨y0,y1,n',_,hl,h0,h1⟩:=trod_struct2 Tryz.underlying106 h;rw[hC]at hl;have h31:Tryz.prog.cellsOf 3=1:=(by kernel_rfl);simp only[h31]at h0 h1
 match cs,hl with
 |[a,b],_=>
  obtain⟨k0,e0,_⟩:=DataW.trod_int Tryz.underlying3 h0;obtain⟨k1,e1,_⟩:=DataW.trod_int Tryz.underlying3 h1;simp at e0 e1;exact⟨⟨k0,k1⟩,by unfold Go.Inq.Flat;simp[It.enc,e0,e1],trivial⟩
theorem Es{n:Nat}{v:Value}{x:DataW H×List MemPlace}(h:DataW.trod enc Tryz.prog w base spare held n 107 [v]=some x):
 ∃(A:Option Addr) (c:Nat) (l:List It),v= .slice A l.length c∧ItS w (Old w) (.slice A l.length c) l∧l.length≤maxLen:=by
 obtain⟨A,c,l,h1,h2,h3,_⟩:=sJ (R:=Go.Inq.Flat It.enc) (size:=2) (fun _=>True) ⟨0,0⟩ Tryz.underlying107 (by kernel_rfl) (by decide) (fun n cs x h=>H9 (by kernel_rfl) h) h;exact⟨A,c,l,h1,h2,h3⟩
theorem KD{n:Nat}{cs:List Value}{x:DataW H×List MemPlace}(hC:Tryz.prog.cellsOf 109=3)(h:DataW.trod enc Tryz.prog w base spare held n 109 cs=some x):
 ∃t:Txn,xS w (Old w) cs t∧t.writes.length≤maxLen∧t.reads.length≤maxLen:=by
 obtain⟨y0,y1,y2,n',_,hl,h0,h1,h2⟩:=trod_struct3 Tryz.underlying109 h;rw[hC]at hl;have e1:Tryz.prog.cellsOf 3=1:=(by kernel_rfl);have e2:Tryz.prog.cellsOf 33=1:=(by kernel_rfl);have e3:Tryz.prog.cellsOf 107=1:=(by kernel_rfl);simp only[e1,e2,e3]at h0 h1 h2
 match cs,hl with
 |[a,b,c],_=>
  obtain⟨k0,e0,_⟩:=DataW.trod_int Tryz.underlying3 h0;simp at e0;have h1':DataW.trod enc Tryz.prog w base spare held n' 33 [b]=some y1:=(by simpa using h1);have h2':DataW.trod enc Tryz.prog w base spare held n' 107 [c]=some y2:=(by simpa using h2);obtain⟨A,c',l,hv,hev,hlen⟩:=H8 h1';obtain⟨A2,c2',l2,hv2,Qx,JF⟩:=Es h2';exact⟨⟨k0,l,l2⟩,⟨b,c,by rw[e0],by rw[hv];exact hev,by rw[hv2];exact Qx⟩,hlen,JF⟩
theorem Ia{n:Nat}{v:Value}{x:DataW H×List MemPlace}(h:DataW.trod enc Tryz.prog w base spare held n 22 [v]=some x):
 ∃(A:Option Addr) (c:Nat) (l:List Txn),v= .slice A l.length c∧av w (Old w) (.slice A l.length c) l∧l.length≤maxLen∧∀t∈l,t.writes.length≤maxLen∧t.reads.length≤maxLen:=
 sJ (R:=xS) (size:=3) (fun t=>t.writes.length≤maxLen∧t.reads.length≤maxLen) ⟨0,[],[]⟩ Tryz.underlying22 (by kernel_rfl) (by decide) (fun n cs x h=>KD (by kernel_rfl) h) h
theorem Ib{n:Nat}{cs:List Value}{x:DataW H×List MemPlace}(hC:Tryz.prog.cellsOf 24=1)(h:DataW.trod enc Tryz.prog w base spare held n 24 cs=some x):
 ∃(A:Option Addr) (c:Nat) (l:List Txn),cs=[.slice A l.length c]∧av w (Old w) (.slice A l.length c) l∧l.length≤maxLen∧∀t∈l,t.writes.length≤maxLen∧t.reads.length≤maxLen:=by
 obtain⟨y0,n',_,hl,h0⟩:=trod_struct1 Tryz.underlying24 h;rw[hC]at hl;have e1:Tryz.prog.cellsOf 22=1:=(by kernel_rfl);simp only[e1]at h0
 match cs,hl with
 |[a],_=>
  have h0':DataW.trod enc Tryz.prog w base spare held n' 22 [a]=some y0:=(by simpa using h0);obtain⟨A,c,l,hv,h1,h2,h3⟩:=Ia h0';exact⟨A,c,l,by rw[hv],h1,h2,h3⟩
end
end Go.Proofs.YtfhnamomiaekdaaGreatDoor
namespace Go.Proofs.YtfhnamomiaekdaaGreatDoor
def KE(P:Program)(fn:Func)(s:ChangeSpec)(c:OpenClaim):Bool:=
 c.wf (OpenSpec.ofChange s)&&laidOutB P&&mapsRowed P&&fn.params.all (P.readableRec ·)&&namedTie P c.named s.vars
def Fz(P:Program)(fn:Func)(s:ChangeSpec)(c:OpenClaim):Bool:=
 (c.stops==[])&&(P.stops==[])&&(c.knobs==[])&&(P.stopKnobs==[])&&
 (c.maps==(fn.params.toList++s.plain.varTypes P).any (P.mapsRec ·))&&(c.ifaces==(fn.params.toList++s.plain.varTypes P).any (P.ifacesRec ·))&&(c.mapsOut==P.mapsAmong fn.resultTypes.toList)&&
 (c.loops==(fn.params.toList++s.plain.varTypes P).any (P.loopsFrom ·))&&(c.wideKeys==(fn.params.toList++s.plain.varTypes P++fn.resultTypes.toList).any (P.wideKeysFrom ·))&&
 s.vars.all (P.varReadable ·)&&fn.resultTypes.all (fun t=>P.readableRec t&&decide (t<P.types.size))&&(c.ifacesOut==fn.resultTypes.toList.any (P.ifacesRec ·))&&(c.loopsOut==fn.resultTypes.toList.any (P.loopsFrom ·))
def KF(P:Program)(fn:Func)(s:ChangeSpec)(c:OpenClaim):Bool:=
 (c.plainKeys==P.plainKeys)&&c.shortTexts.isNone&&P.stopsHeard&&P.mayEnter&&(c.lifted==P.liftsFinal)&&(P.make==some c.make)&&(c.kinds==(if c.domain.isEmpty then[]else fn.params.toList.map fun t=>match P.underlying t with|some (.int k)=>some k|_=>none))&&(c.pinned==c.pinnedBy)&&
 (c.veiled==(fn.params.toList++s.plain.varTypes P++fn.resultTypes.toList).any (P.veiledRec ·))&&c.veiledFits P fn.params.toList (fn.params.toList++s.plain.varTypes P++fn.resultTypes.toList)
theorem zZ {P:Program} {f:FuncId} {fn:Func} {s:ChangeSpec} {c:OpenClaim} (he:KE P fn s c=true)
 (ha:(c.inPlace==P.inPlace f)=true) (hb:(c.unfollowed==P.unfollowed f)=true) (hc:(c.recurses==P.recurses f)=true) (hd:(c.named==P.varsNamed f)=true)
 (hf:Fz P fn s c=true) (hg:KF P fn s c=true):joinedFacts P f fn s c=true:=by
 unfold KE at he;unfold Fz at hf;unfold KF at hg;unfold joinedFacts;rw[Bool.and_eq_true]at he hf hg;simp only[Bool.and_eq_true,and_assoc]at he hf hg⊢;obtain⟨e1,e2,e3,e4,e5⟩:=he;obtain⟨f1,f2,f3,f4,f5,f6,f7,f8,f9,f10,f11,f12,f13⟩:=hf;obtain⟨g1,g2,g3,g4,g5,g6,g7,g8,g9,g10⟩:=hg;exact⟨e1,e2,e3,e4,e5,f1,f2,f3,f4,ha,hb,hc,hd,f5,f6,f7,f8,f9,f10,f11,f12,f13,g1,g2,g3,g4,g5,g6,g7,g8,g9,g10⟩
end Go.Proofs.YtfhnamomiaekdaaGreatDoor
namespace Go.Inq
theorem KG{l l':List Cho}(h:∀c∈l,c∈l'){x y:Nat}(he:wwE l x y=true):wwE l' x y=true:=by
 unfold wwE at he⊢;rw[List.any_eq_true]at he⊢;obtain⟨c,hc,h2⟩:=he;exact⟨c,h c hc,h2⟩
theorem Ct{H:List Txn}{l l':List Cho}(h:∀c∈l,c∈l'){x y:Nat}(he:rwE H l x y=true):rwE H l' x y=true:=by
 unfold rwE at he⊢;rw[Bool.or_eq_true]at he⊢;rcases he with he|he
 ·exact .inl he
 ·rw[List.any_eq_true]at he⊢;obtain⟨c,hc,h2⟩:=he;exact .inr ⟨c,h c hc,h2⟩
theorem Et{H:List Txn}{level:Int}{l l':List Cho}(h:∀c∈l,c∈l'){x y:Nat}(he:bH H level l x y=true):bH H level l' x y=true:=by
 have hd:∀a b,orE (bG H) (wwE l) a b=true→orE (bG H) (wwE l') a b=true:=fun a b g=>by
  unfold orE at g⊢;rw[Bool.or_eq_true]at g⊢;exact g.imp id (KG h)
 show(orE (bG H) (wwE l') x y||(if level=1 then iY H.length (orE (bG H) (wwE l')) (rwE H l')else rwE H l') x y)=true;have he':(orE (bG H) (wwE l) x y||(if level=1 then iY H.length (orE (bG H) (wwE l)) (rwE H l)else rwE H l) x y)=true:=he;rw[Bool.or_eq_true]at he'⊢;rcases he' with g|g
 ·exact .inl (hd x y g)
 ·right;by_cases hl:level=1
  ·rw[if_pos hl]at g⊢;unfold iY at g⊢;rw[List.any_eq_true]at g⊢;obtain⟨b,hb,h2⟩:=g;rw[Bool.and_eq_true]at h2;exact⟨b,hb,by rw[hd x b h2.1,Ct h h2.2];rfl⟩
  ·rw[if_neg hl]at g⊢;exact Ct h g
theorem yZ{E F:ak}(h:∀x y,E x y=true→F x y=true):∀(l:List Nat) (x y:Nat),gF E x l y=true→gF F x l y=true
 |[],x,y,hw=>h x y hw
 |a::l,x,y,hw=>by
  have hw':(E x a&&gF E a l y)=true:=hw;rw[Bool.and_eq_true]at hw';show(F x a&&gF F a l y)=true;rw[h x a hw'.1,yZ h l a y hw'.2];rfl
theorem KH{n:Nat}{E F:ak}(h:∀x y,E x y=true→F x y=true)(hc:iA n E=true):iA n F=true:=by
 unfold iA at hc⊢;rw[List.any_eq_true]at hc⊢;obtain⟨x,hx,h2⟩:=hc;obtain⟨l,hl,hw⟩:=eB n x x h2;exact⟨x,hx,kD n l.length l x x (Nat.le_refl _) hl (yZ h l x x hw)⟩
def qZ(H:List Txn)(level:Int)(l:List Cho):Bool:= !iA H.length (bH H level l)
theorem Ic{H:List Txn}{level:Int}{l l':List Cho}(h:∀c∈l,c∈l')(hg:qZ H level l'=true):qZ H level l=true:=by
 unfold qZ at hg⊢;rw[Bool.not_eq_true']at hg⊢;rw[←Bool.not_eq_true]at hg⊢;exact fun hc=>hg (KH (fun x y=>Et h) hc)
theorem Eu(H:List Txn)(level:Int)(l:List Cho):(fZ H.length (bH H level l)).isSome=qZ H level l:=pz _ _
end Go.Inq
namespace Go.Proofs.YtfhnamomiaekdaaGreatDoor
open Go.RowKit Go.Inq
theorem sK{l:List Int}{x:Int}{i:Nat}(h:l.idxOf? x=some i):dB l x=i:=by
 unfold dB;have:l.findIdx? (·==x)=some i:=h;rw[this]
theorem Aa{l:List Int}{x:Int}(h:l.idxOf? x=none):dB l x= -1:=by
 unfold dB;have:l.findIdx? (·==x)=none:=h;rw[this]
theorem Ie{l:List Int}{x:Int}(h0:l.contains x=false):dB l x= -1:=by
 refine Aa ?_;rw[List.idxOf?,List.findIdx?_eq_none_iff];intro y hy;rw[beq_eq_false_iff_ne];rintro rfl;rw[Bool.eq_false_iff]at h0;exact h0 (List.contains_iff_mem.2 hy)
theorem KI{l:List Int}{x:Int}:dB l x<0↔l.contains x=false:=by
 constructor
 ·intro h;rw[Bool.eq_false_iff];intro hc;obtain⟨k,hk⟩:∃k,l.idxOf? x=some k:=by
   cases e:l.idxOf? x with
   |some k=>exact⟨k,rfl⟩
   |none=>
    rw[List.idxOf?,List.findIdx?_eq_none_iff]at e;have:=e x (List.contains_iff_mem.1 hc);simp at this
  rw[sK hk]at h;omega
 ·intro h;rw[Ie h];decide
theorem FB{l:List Int}{x:Int}(h:l.contains x=true):0≤dB l x:=by
 rcases Int.lt_or_le (dB l x) 0 with g|g
 ·rw[KI,h]at g;cases g
 ·exact g
def aT(l:List Int)(n:Nat):Bool:=decide (l.length=n)&&(List.range n).all fun i=>l.contains (i:Int)
def ofC(order:List Int)(p:Cho):Cho:=if dB order p.a>dB order p.b then⟨p.key,p.b,p.a⟩else p
def ofL(H:List Txn)(order:List Int):List Cho:=(bN H).map (ofC order)
theorem y5{α β:Type}{f g:α→Option β}:∀{l:List α},(∀x∈l,f x=g x)→l.filterMap f=l.filterMap g
 |[],_=>rfl
 |x::l,h=>by
  rw[List.filterMap_cons,List.filterMap_cons,h x (by simp),y5 fun y hy=>h y (by simp[hy])]
theorem FC{H:List Txn}{order:List Int}(h:aT order H.length=true):ofL H order=Nj H order:=by
 unfold ofL Nj;rw[←List.filterMap_eq_map];refine y5 fun p hp=> ?_;obtain⟨a,b,ha,hb,hab,hbn,-,-⟩:=vD hp;unfold aT at h;rw[Bool.and_eq_true,List.all_eq_true]at h;have h1:=h.2 a (List.mem_range.2 (by omega));have h2:=h.2 b (List.mem_range.2 hbn);rw[←ha]at h1;rw[←hb]at h2;have g1:=FB h1;have g2:=FB h2;unfold MQ ofC;show some (if _ then _ else _)=_;cases e1:order.idxOf? p.a with
 |none=>rw[Aa e1]at g1;omega
 |some i=>
  cases e2:order.idxOf? p.b with
  |none=>rw[Aa e2]at g2;omega
  |some j=>
   rw[sK e1,sK e2];dsimp only;by_cases hij:j<i
   ·rw[if_pos (by omega),if_pos hij]
   ·rw[if_neg (by omega),if_neg hij]
def Ig:List Cho→List Cho→Prop
 |[],[]=>True
 |p::P,c::C=>(c=p∨c=iI p)∧Ig P C
 |_,_=>False
theorem ru:∀{P C:List Cho},Ig P C→∀p∈P,p∈C∨iI p∈C
 |[],[],_,c,hc=>by cases hc
 |[],_::_,h,_,_=>h.elim
 |_::_,[],h,_,_=>h.elim
 |p::P,d::C,h,c,hc=>by
  rw[List.mem_cons]at hc;rcases hc with rfl|hc
  ·rcases h.1 with e|e
   ·exact .inl (by rw[←e];simp)
   ·exact .inr (by rw[←e];simp)
  ·rcases ru h.2 c hc with e|e
   ·exact .inl (by simp[e])
   ·exact .inr (by simp[e])
def KJ(H:List Txn)(level:Int):List Cho→List Cho→Bool
 |[],l=>qZ H level l
 |c::P,l=>KJ H level P (l++[c])||KJ H level P (l++[iI c])
def hasB(H:List Txn)(level:Int):Bool:=KJ H level (bN H) []
theorem y7{l:List Int}{n j:Nat}(h:aT l n=true)(hj:j<l.length)(hm:∀k,k<n→∃i,∃hi:i<l.length,i≠j∧l[i]=(k:Int)):False:=by
 unfold aT at h;rw[Bool.and_eq_true]at h;have hl:=of_decide_eq_true h.1;have:=iP (List.range n) ((l.eraseIdx j).map Int.toNat) List.nodup_range fun k hk=>by
  obtain⟨i,hi,hij,e⟩:=hm k (List.mem_range.1 hk);exact List.mem_map.2 ⟨l[i],List.mem_eraseIdx_iff_getElem.2 ⟨i,hi,hij,rfl⟩,by rw[e];simp⟩
 simp[List.length_eraseIdx,hj]at this;omega
theorem kW{l:List Int}{n k:Nat}(h:aT l n=true)(hk:k<n):(k:Int)∈l:=by
 unfold aT at h;rw[Bool.and_eq_true,List.all_eq_true]at h;exact List.contains_iff_mem.1 (h.2 k (List.mem_range.2 hk))
theorem Cu{l:List Int}{n:Nat}(h:aT l n=true):l.length=n:=by
 unfold aT at h;rw[Bool.and_eq_true]at h;exact of_decide_eq_true h.1
theorem iT{l:List Int}{n j:Nat}(h:aT l n=true)(hj:j<l.length):0≤l[j]∧l[j]<(n:Int):=by
 refine Classical.byContradiction fun hno=>y7 h hj fun k hk=> ?_;obtain⟨i,hi,e⟩:=List.getElem_of_mem (kW h hk);refine⟨i,hi,?_,e⟩;rintro rfl;omega
theorem nU{l:List Int}{n i j:Nat}(h:aT l n=true)(hij:i<j)(hj:j<l.length):l[i]'(by omega)≠l[j]:=by
 intro he;refine y7 h hj fun k hk=> ?_;obtain⟨m,hm,e⟩:=List.getElem_of_mem (kW h hk);by_cases hmj:m=j
 ·subst hmj;exact⟨i,by omega,by omega,by rw[he];exact e⟩
 ·exact⟨m,hm,hmj,e⟩
theorem wJ{l:List Int}{n:Nat}(h:aT l n=true):l.Nodup:=by
 rw[List.nodup_iff_pairwise_ne,List.pairwise_iff_getElem];intro i j hi hj hij;exact nU h hij hj
theorem FD{l:List Int}{n:Nat}(hl:l.length=n)(hd:l.Nodup)(hb:∀x∈l,0≤x∧x<(n:Int)):aT l n=true:=by
 unfold aT;rw[decide_eq_true hl,Bool.true_and,List.all_eq_true];intro k hk;have hk:=List.mem_range.1 hk;rw[List.contains_iff_mem];refine Classical.byContradiction fun hno=> ?_;have hnd:(l.map Int.toNat).Nodup:=by
  rw[List.nodup_iff_pairwise_ne,List.pairwise_map];exact(List.nodup_iff_pairwise_ne.1 hd).imp_of_mem fun ha hb' hne e=>hne (by have:=hb _ ha;have:=hb _ hb';omega)
 have:=iP (k::l.map Int.toNat) (List.range n) (List.nodup_cons.2 ⟨fun hm=>by
  obtain⟨y,hy,e⟩:=List.mem_map.1 hm;have:=hb y hy;exact hno (by rw[show(k:Int)=y by omega];exact hy),hnd⟩) fun x hx=>by
  rw[List.mem_cons]at hx;rw[List.mem_range];rcases hx with rfl|hx
  ·exact hk
  ·obtain⟨y,hy,rfl⟩:=List.mem_map.1 hx;have:=hb y hy;omega
 simp at this;omega
structure l5(n:Nat)(E:ak)(o:List Nat):Prop where
 t:MR n E o
 len:o.length=n
 all:∀y,y<n→y∈o
theorem Cv{n:Nat}{E:ak}{o:List Nat}(ho:fZ n E=some o):l5 n E o:=by
 have ht:=iQ n o ho;have hl:=fM ho;refine⟨ht,hl,fun y hy=>Classical.byContradiction fun hno=> ?_⟩;have:=iP (y::o) (List.range n) (List.nodup_cons.2 ⟨hno,ht.nd⟩) (fun x hx=>by
  rw[List.mem_cons]at hx;rw[List.mem_range];rcases hx with rfl|hx
  ·exact hy
  ·exact ht.lt x hx)
 simp at this;omega
theorem l5.perm{n:Nat}{E:ak}{o:List Nat}(h:l5 n E o):aT (o.map fun(x:Nat)=>(x:Int)) n=true:=by
 refine FD (by rw[List.length_map];exact h.len) ?_ fun x hx=> ?_
 ·rw[List.nodup_iff_pairwise_ne,List.pairwise_map];exact(List.nodup_iff_pairwise_ne.1 h.t.nd).imp fun hne e=>hne (by omega)
 ·obtain⟨y,hy,rfl⟩:=List.mem_map.1 hx;have:=h.t.lt y hy;omega
theorem l5.at_{n:Nat}{E:ak}{o:List Nat}(h:l5 n E o){x:Nat}(hx:x<n):∃hi:o.idxOf x<o.length,o[o.idxOf x]=x:=⟨List.idxOf_lt_length_of_mem (h.all x hx),List.getElem_idxOf _⟩
theorem l5.dB{n:Nat}{E:ak}{o:List Nat}(h:l5 n E o){x:Nat}(hx:x<n):dB (o.map fun(x:Nat)=>(x:Int)) (x:Int)=o.idxOf x:=by
 obtain⟨hi,he⟩:=h.at_ hx;refine uZ (by rw[List.length_map];exact hi) (by rw[List.getElem_map,he]) fun j hj hlt e=> ?_;rw[List.getElem_map]at e;have hnd:=List.pairwise_iff_getElem.1 (List.nodup_iff_pairwise_ne.1 h.t.nd) j (o.idxOf x) (by simpa using hj) hi hlt;exact hnd (by rw[he];omega)
theorem l5.up{n:Nat}{E:ak}{o:List Nat}(h:l5 n E o){x y:Nat}(hx:x<n)(hy:y<n)(he:E x y=true):o.idxOf x<o.idxOf y:=(h.t.up y (h.all y hy) x hx he).2
theorem Mi{H:List Txn}{m:List Cho}{E:ak}{o:List Nat}(hm:Ig (bN H) m)(ht:l5 H.length E o)(hw:∀a b,wwE m a b=true→E a b=true):∀c∈Nj H (o.map fun(x:Nat)=>(x:Int)),c∈m:=by
 intro c hc;rw[←FC ht.perm]at hc;unfold ofL at hc;obtain⟨p,hp,rfl⟩:=List.mem_map.1 hc;obtain⟨a,b,ha,hb,hab,hbn,-,-⟩:=vD hp;have hia:=ht.dB (x:=a) (by omega);have hib:=ht.dB (x:=b) hbn;unfold ofC;rw[ha,hb,hia,hib];have hin:∀q∈m,∀x y:Nat,q.a=x→q.b=y→x<H.length→y<H.length→o.idxOf x<o.idxOf y:=fun q hq x y hx hy hxn hyn=>ht.up hxn hyn (hw x y (by
  unfold wwE;rw[List.any_eq_true];exact⟨q,hq,by rw[hx,hy];simp⟩))
 rcases ru hm p hp with h|h
 ·have:=hin p h a b ha hb (by omega) hbn;rw[if_neg (by omega)];exact h
 ·have:=hin (iI p) h b a hb ha hbn (by omega);rw[if_pos (by omega)];have e:iI p=⟨p.key,b,a⟩:=(by unfold iI;rw[ha,hb]);rw[←e];exact h
def wrA(H:List Txn)(π:List Int)(key:Int)(i:Nat):Bool:=(aG H (π.getD i 0).toNat).writes.contains key
def eP(H:List Txn)(π:List Int)(key:Int):Nat→Int
 |0=> -1
 |k+1=>if wrA H π key k then π.getD k 0 else eP H π key k
theorem sM(H:List Txn)(π:List Int)(key:Int):∀k,(eP H π key k= -1∧∀i,i<k→wrA H π key i=false)∨∃i,i<k∧eP H π key k=π.getD i 0∧wrA H π key i=true∧∀j,i<j→j<k→wrA H π key j=false
 |0=> .inl ⟨rfl,fun i hi=>absurd hi (by omega)⟩
 |k+1=>by
  unfold eP;cases h:wrA H π key k with
  |true=>
   rw[if_pos rfl];exact .inr ⟨k,by omega,rfl,h,fun j h1 h2=>absurd h1 (by omega)⟩
  |false=>
   rw[if_neg (by decide)];rcases sM H π key k with⟨h1,h2⟩|⟨i,h1,h2,h3,h4⟩
   ·refine .inl ⟨h1,fun i hi=> ?_⟩;by_cases e:i=k
    ·subst e;exact h
    ·exact h2 i (by omega)
   ·refine .inr ⟨i,by omega,h2,h3,fun j hj1 hj2=> ?_⟩;by_cases e:j=k
    ·subst e;exact h
    ·exact h4 j hj1 (by omega)
def fB(H:List Txn)(π:List Int)(t:Nat):List It:=(aG H t).reads.map fun r=>⟨r.a,eP H π r.a (π.idxOf (t:Int))⟩
def tT(H:List Txn)(π:List Int):Bool:=(List.range π.length).all fun i=>(List.range i).all fun k=> !(decide (π.getD k 0>π.getD i 0)&&decide ((aG H (π.getD k 0).toNat).dh=(aG H (π.getD i 0).toNat).dh))
def pX(H:List Txn)(π:List Int):Bool:=(List.range H.length).all fun t=>decide ((aG H t).reads=fB H π t)
def wL(H:List Txn)(π:List Int):Bool:=aT π H.length&&pX H π&&tT H π
theorem jR{key:Int}{a b:Nat}:∀{l:List Nat},l.Pairwise (·<·)→a∈l→b∈l→a<b→(⟨key,a,b⟩:Cho)∈dG key l
 |[],_,h,_,_=>by cases h
 |x::r,hp,ha,hb,hab=>by
  rw[List.pairwise_cons]at hp;unfold dG;rw[List.mem_append];rw[List.mem_cons]at ha hb;rcases ha with rfl|ha
  ·rcases hb with rfl|hb
   ·omega
   ·exact .inl (List.mem_map.2 ⟨b,hb,rfl⟩)
  ·rcases hb with rfl|hb
   ·have:=hp.1 a ha;omega
   ·exact .inr (jR hp.2 ha hb hab)
theorem tV{H:List Txn}{key:Int}{a b:Nat}(hab:a<b)(hb:b<H.length)(ha1:key∈(aG H a).writes)(hb1:key∈(aG H b).writes):(⟨key,a,b⟩:Cho)∈bN H:=by
 unfold bN;refine List.mem_flatten.2 ⟨_,List.mem_map.2 ⟨key,?_,rfl⟩,jR (fK H key) (bB.2 ⟨by omega,ha1⟩) (bB.2 ⟨hb,hb1⟩) hab⟩;rw[aH hb]at hb1;exact j3.2 ⟨_,List.getElem_mem hb,hb1⟩
theorem rz{π:List Int}{n x:Nat}(h:aT π n=true)(hx:x<n):∃hi:π.idxOf (x:Int)<π.length,π[π.idxOf (x:Int)]=(x:Int):=⟨List.idxOf_lt_length_of_mem (kW h hx),List.getElem_idxOf _⟩
theorem KM{π:List Int}{n x y:Nat}(h:aT π n=true)(hx:x<n)(hy:y<n)(he:π.idxOf (x:Int)=π.idxOf (y:Int)):x=y:=by
 obtain⟨h1,e1⟩:=rz h hx;obtain⟨h2,e2⟩:=rz h hy;have:π[π.idxOf (x:Int)]=π[π.idxOf (y:Int)]:=(by simp only[he]);omega
theorem nD{π:List Int}{n i:Nat}(h:aT π n=true)(hi:i<π.length):π.idxOf π[i]=i:=by
 have h1:π.idxOf π[i]<π.length:=List.idxOf_lt_length_of_mem (List.getElem_mem hi);have h2:π[π.idxOf π[i]]=π[i]:=List.getElem_idxOf _;rcases Nat.lt_trichotomy (π.idxOf π[i]) i with g|g|g
 ·exact absurd h2 (nU h g hi)
 ·exact g
 ·exact absurd h2.symm (nU h g h1)
theorem getD_at{π:List Int}{i:Nat}(hi:i<π.length):π.getD i 0=π[i]:=by rw[List.getD_eq_getElem?_getD,List.getElem?_eq_getElem hi,Option.getD_some]
theorem KN{H:List Txn}{m:List Cho}{o:List Nat}(hr:aA H=true)(hm:Ig (bN H) m)(ht:l5 H.length (bH H 0 m) o):wL H (o.map fun(x:Nat)=>(x:Int))=true:=by
 have hp:=ht.perm;have hfull:∀x y,((bG H x y||wwE m x y)||rwE H m x y)=true→bH H 0 m x y=true:=fun x y h=>by
  unfold bH;rw[if_neg (by decide)];exact h
 generalize hπ:(o.map fun(x:Nat)=>(x:Int))=π at hp;have hpos:∀x,x<H.length→π.idxOf (x:Int)=o.idxOf x:=fun x hx=>by
  obtain⟨hi,he⟩:=ht.at_ hx;have hi2:o.idxOf x<π.length:=(by rw[←hπ,List.length_map];exact hi);have:π[o.idxOf x]=(x:Int):=(by subst hπ;rw[List.getElem_map,he]);rw[←this];exact nD hp hi2
 have hup:∀x y,x<H.length→y<H.length→((bG H x y||wwE m x y)||rwE H m x y)=true→π.idxOf (x:Int)<π.idxOf (y:Int):=fun x y hx hy h=>by
  rw[hpos x hx,hpos y hy];exact ht.up hx hy (hfull x y h)
 have hbd:∀i (hi:i<π.length),∃u:Nat,u<H.length∧π[i]=(u:Int)∧π.idxOf (u:Int)=i:=fun i hi=>by
  have h1:=iT hp hi;refine⟨π[i].toNat,by omega,by omega,?_⟩;rw[show((π[i].toNat:Nat):Int)=π[i] by omega];exact nD hp hi
 unfold wL;rw[hp,Bool.true_and,Bool.and_eq_true];constructor
 ·unfold pX;rw[List.all_eq_true];intro t ht2;have ht2:=List.mem_range.1 ht2;refine decide_eq_true ?_;unfold fB;refine List.ext_getElem (by simp) fun i h1 h2=> ?_;rw[List.getElem_map];generalize hrr:(aG H t).reads[i]=r;have hmem:r∈(aG H t).reads:=by rw[←hrr];exact List.getElem_mem h1
  suffices hs:r.b=eP H π r.a (π.idxOf (t:Int)) by rw[←hs]
  obtain⟨it,et⟩:=rz hp ht2;have hth:=(((aD H).1 hr).2 t ht2).there r (by rw[←aH ht2];exact hmem);rcases sM H π r.a (π.idxOf (t:Int))with⟨g1,g2⟩|⟨j,g1,g2,g3,g4⟩
  ·rcases(fG H t r).1 hth with e|⟨k,hk,e1,e2,e3⟩
   ·rw[e,g1]
   ·exfalso;have hlt:=hup k t hk ht2 (by
     have:bG H k t=true:=by
      unfold bG orE wrE;rw[Bool.or_eq_true];right;rw[Bool.and_eq_true,List.any_eq_true];exact⟨decide_eq_true e2,r,hmem,decide_eq_true e1⟩
     rw[this];rfl)
    have:=g2 _ hlt;obtain⟨ik,ek⟩:=rz hp hk;unfold wrA at this;rw[getD_at ik,ek,Int.toNat_natCast,aH hk,List.contains_iff_mem.2 e3]at this;cases this
  ·have hjl:j<π.length:=(by omega);obtain⟨u,hu,eu,iu⟩:=hbd j hjl;have hut:u≠t:=fun e=>(by subst e;omega);unfold wrA at g3;rw[getD_at hjl,eu,Int.toNat_natCast,List.contains_iff_mem]at g3;rw[getD_at hjl,eu]at g2;rcases(fG H t r).1 hth with e|⟨k,hk,e1,e2,e3⟩
   ·exfalso;have hlt:=hup t u ht2 hu (by
     have:j4 H t u=true:=by
      unfold j4;rw[Bool.and_eq_true,List.any_eq_true];exact⟨decide_eq_true hut.symm,r,hmem,by rw[Bool.and_eq_true,List.contains_iff_mem];exact⟨decide_eq_true e,g3⟩⟩
     unfold rwE;rw[this];simp)
    omega
   ·by_cases huk:u=k
    ·subst huk;rw[e1,g2]
    ·exfalso;have hlt:=hup k t hk ht2 (by
      have:bG H k t=true:=by
       unfold bG orE wrE;rw[Bool.or_eq_true];right;rw[Bool.and_eq_true,List.any_eq_true];exact⟨decide_eq_true e2,r,hmem,decide_eq_true e1⟩
      rw[this];rfl)
     obtain⟨ik,ek⟩:=rz hp hk;have hkw:r.a∈(aG H k).writes:=(by rw[aH hk];exact e3);have hku:π.idxOf (k:Int)<π.idxOf (u:Int):=by
      have hne:π.idxOf (k:Int)≠π.idxOf (u:Int):=fun e=>huk (KM hp hk hu e).symm;refine Classical.byContradiction fun hno=> ?_;have:=g4 (π.idxOf (k:Int)) (by omega) hlt;unfold wrA at this;rw[getD_at ik,ek,Int.toNat_natCast,List.contains_iff_mem.2 hkw]at this;cases this
     have hch:(⟨r.a,k,u⟩:Cho)∈m∨(⟨r.a,u,k⟩:Cho)∈m:=by
      rcases Nat.lt_or_ge u k with g|g
      ·have:=ru hm _ (tV g hk g3 hkw);exact this.symm.imp id id
      ·exact ru hm _ (tV (show k<u by omega) hu hkw g3)
     rcases hch with hch|hch
     ·have:=hup t u ht2 hu (by
       have:rwE H m t u=true:=by
        unfold rwE;rw[Bool.or_eq_true];right;rw[List.any_eq_true];refine⟨_,hch,?_⟩;simp only[Bool.and_eq_true,List.any_eq_true];exact⟨⟨by simp,decide_eq_true hut.symm⟩,r,hmem,by simp,decide_eq_true e1⟩
       rw[this];simp)
      omega
     ·have:=hup u k hu hk (by
       have:wwE m u k=true:=by
        unfold wwE;rw[List.any_eq_true];exact⟨_,hch,by simp⟩
       rw[this];simp)
      omega
 ·unfold tT;rw[List.all_eq_true];intro i hi;have hi:=List.mem_range.1 hi;rw[List.all_eq_true];intro k hk;have hk:=List.mem_range.1 hk;obtain⟨u,hu,eu,iu⟩:=hbd i hi;obtain⟨v,hv,ev,iv⟩:=hbd k (by omega);rw[getD_at hi,getD_at (show k<π.length by omega),eu,ev,Int.toNat_natCast,Int.toNat_natCast,Bool.not_eq_true',Bool.and_eq_false_iff];refine Classical.byContradiction fun hno=> ?_;simp only[decide_eq_false_iff_not,not_or,Classical.not_not]at hno;have:=hup u v hu hv (by
   have:soE H u v=true:=by
    unfold soE;rw[Bool.and_eq_true];exact⟨decide_eq_true (by omega),decide_eq_true hno.2.symm⟩
   unfold bG orE;rw[this];rfl)
  omega
def mkD(s:List Int)(x:Nat):Int:=s.getD x 0
theorem iU{s:List Int}{x:Nat}{v:Int}(hx:x<s.length)(y:Nat):mkD (s.set x v) y=if y=x then v else mkD s y:=by
 unfold mkD;rw[List.getD_eq_getElem?_getD,List.getD_eq_getElem?_getD,List.getElem?_set];by_cases e:x=y
 ·subst e;rw[if_pos rfl,if_pos hx,if_pos rfl];rfl
 ·rw[if_neg e,if_neg (fun h=>e h.symm)]
structure jY(n:Nat)(E:ak)(s:List Int):Prop where
 len:s.length=n
 val:∀x∈s,x=0∨x=1∨x=2
 ord:∃o:List Nat,o.Nodup∧(∀x,x∈o↔x<n∧mkD s x=2)∧∀i (hi:i<o.length) y,y<n→E o[i] y=true→y∈o.take i
theorem jY.start(n:Nat)(E:ak):jY n E (List.replicate n 0):=by
 refine⟨by simp,fun x hx=> .inl (List.eq_of_mem_replicate hx),[],List.nodup_nil,fun x=> ?_,fun i hi=>by cases hi⟩;constructor
 ·intro h;cases h
 ·rintro⟨h,h2⟩;unfold mkD at h2;rw[List.getD_eq_getElem?_getD,List.getElem?_replicate]at h2;split at h2<;>simp at h2
theorem jY.at_{n:Nat}{E:ak}{s:List Int}(h:jY n E s){x:Nat}(hx:x<n):mkD s x=s[x]'(by rw[h.len];exact hx):=by
 unfold mkD;rw[List.getD_eq_getElem?_getD,List.getElem?_eq_getElem (by rw[h.len];exact hx),Option.getD_some]
theorem jY.mD{n:Nat}{E:ak}{s:List Int}(h:jY n E s){x:Nat}(hx:x<n):mkD s x=0∨mkD s x=1∨mkD s x=2:=by
 rw[h.at_ hx];exact h.val _ (List.getElem_mem _)
theorem jY.begin{n:Nat}{E:ak}{s:List Int}(h:jY n E s){x:Nat}(hx:x<n)(h0:mkD s x=0):jY n E (s.set x 1):=by
 have hxs:x<s.length:=(by rw[h.len];exact hx);obtain⟨o,h1,h2,h3⟩:=h.ord;refine⟨by rw[List.length_set];exact h.len,fun y hy=> ?_,o,h1,fun y=> ?_,h3⟩
 ·rcases List.mem_or_eq_of_mem_set hy with e|e
  ·exact h.val y e
  ·exact .inr (.inl e)
 ·rw[h2 y,iU hxs];by_cases e:y=x
  ·subst e;rw[if_pos rfl,h0];simp
  ·rw[if_neg e]
theorem jY.done{n:Nat}{E:ak}{s:List Int}(h:jY n E s){x:Nat}(hx:x<n)(h0:mkD s x=1)(hs:∀y,y<n→E x y=true→mkD s y=2):jY n E (s.set x 2):=by
 have hxs:x<s.length:=(by rw[h.len];exact hx);obtain⟨o,h1,h2,h3⟩:=h.ord;have hxo:x∉o:=fun hm=>(by have:=((h2 x).1 hm).2;rw[h0]at this;cases this);refine⟨by rw[List.length_set];exact h.len,fun y hy=> ?_,o++[x],?_,fun y=> ?_,fun i hi y hy he=> ?_⟩
 ·rcases List.mem_or_eq_of_mem_set hy with e|e
  ·exact h.val y e
  ·exact .inr (.inr e)
 ·rw[List.nodup_append];refine⟨h1,by simp,fun a ha b hb e=> ?_⟩;rw[List.mem_singleton]at hb;subst e;subst hb;exact hxo ha
 ·rw[List.mem_append,List.mem_singleton,h2 y,iU hxs];by_cases e:y=x
  ·subst e;rw[if_pos rfl];simp[hx]
  ·rw[if_neg e];simp[e]
 ·rw[List.length_append,List.length_singleton]at hi;rcases Nat.lt_or_ge i o.length with hio|hio
  ·rw[List.getElem_append_left hio]at he;rw[List.take_append_of_le_length (by omega)];exact h3 i hio y hy he
  ·have hie:i=o.length:=(by omega);subst hie;rw[List.getElem_append_right (Nat.le_refl _)]at he;simp only[Nat.sub_self,List.getElem_cons_zero]at he;rw[List.take_append_of_le_length (Nat.le_refl _),List.take_length];exact(h2 y).2 ⟨hy,hs y hy he⟩
theorem jY.fine{n:Nat}{E:ak}{s:List Int}(h:jY n E s)(ha:∀x,x<n→mkD s x=2):iA n E=false:=by
 obtain⟨o,h1,h2,h3⟩:=h.ord;refine Bt (fun x=>o.length-o.idxOf x) fun x y hx hy he=> ?_;have hxo:x∈o:=(h2 x).2 ⟨hx,ha x hx⟩;have hi:=List.idxOf_lt_length_of_mem hxo;have hm:=h3 (o.idxOf x) hi y hy (by rw[List.getElem_idxOf];exact he);obtain⟨j,hj,e⟩:=List.getElem_of_mem hm;rw[List.getElem_take]at e;rw[List.length_take]at hj;have hlt:o.idxOf y<o.idxOf x:=by
  have h4:o.idxOf y=j:=(by rw[←e];exact List.Nodup.idxOf_getElem h1 _ _);rw[h4];omega
 show o.length-o.idxOf x<o.length-o.idxOf y;omega
def nE(s:List Int):Nat:=s.count 0
theorem tX{s:List Int}{x:Nat}(hx:x<s.length)(h0:mkD s x=0):nE (s.set x 1)+1=nE s:=by
 unfold nE;have he:s[x]=0:=(by unfold mkD at h0;rw[List.getD_eq_getElem?_getD,List.getElem?_eq_getElem hx,Option.getD_some]at h0;exact h0);rw[List.count_set hx,he];have hp:0<s.count 0:=List.count_pos_iff.2 (by rw[←he];exact List.getElem_mem hx);simp;omega
structure mE(n:Nat)(E:ak)(s:List Int)(s':List Int):Prop where
 inv:jY n E s'
 grey:∀y,y<n→(mkD s' y=1↔mkD s y=1)
 black:∀y,y<n→mkD s y=2→mkD s' y=2
 zero:nE s'≤nE s
theorem mE.refl{n:Nat}{E:ak}{s:List Int}(h:jY n E s):mE n E s s:=⟨h,fun _ _=>Iff.rfl,fun _ _ h=>h,Nat.le_refl _⟩
theorem mE.trans{n:Nat}{E:ak}{a b c:List Int}(h:mE n E a b)(h':mE n E b c):mE n E a c:=⟨h'.inv,fun y hy=>(h'.grey y hy).trans (h.grey y hy),fun y hy hb=>h'.black y hy (h.black y hy hb),Nat.le_trans h'.zero h.zero⟩
theorem Ew{s:List Int}{x:Nat}(hx:x<s.length)(h0:mkD s x=1):nE (s.set x 2)≤nE s:=by
 unfold nE;have he:s[x]=1:=(by unfold mkD at h0;rw[List.getD_eq_getElem?_getD,List.getElem?_eq_getElem hx,Option.getD_some]at h0;exact h0);rw[List.count_set hx,he];simp
theorem mE.closed{n:Nat}{E:ak}{s t:List Int}{x:Nat}(hs:jY n E s)(hx:x<n)(h0:mkD s x=0)(h:mE n E (s.set x 1) t)(hb:∀y,y<n→E x y=true→mkD t y=2):mE n E s (t.set x 2)∧mkD (t.set x 2) x=2:=by
 have hxs:x<s.length:=(by rw[hs.len];exact hx);have hxt:x<t.length:=(by rw[h.inv.len];exact hx);have h1:mkD t x=1:=(h.grey x hx).2 (by rw[iU hxs,if_pos rfl]);refine⟨⟨h.inv.done hx h1 hb,fun y hy=> ?_,fun y hy h2=> ?_,?_⟩,by rw[iU hxt,if_pos rfl]⟩
 ·rw[iU hxt];by_cases e:y=x
  ·subst e;rw[if_pos rfl,h0];simp
  ·rw[if_neg e,h.grey y hy,iU hxs,if_neg e]
 ·rw[iU hxt];by_cases e:y=x
  ·rw[if_pos e]
  ·rw[if_neg e];exact h.black y hy (by rw[iU hxs,if_neg e];exact h2)
 ·refine Nat.le_trans (Ew hxt h1) (Nat.le_trans h.zero ?_);have:=tX hxs h0;omega
def nG(n:Nat)(E:ak)(s:List Int)(x:Nat):Prop:=∀g,g<n→mkD s g=1→rY n E g x=true
theorem nG.hit{n:Nat}{E:ak}{s:List Int}{x:Nat}(h:nG n E s x)(hx:x<n)(h1:mkD s x=1):iA n E=true:=by
 unfold iA;exact List.any_eq_true.2 ⟨x,List.mem_range.2 hx,h x hx h1⟩
theorem nG.next{n:Nat}{E:ak}{s t:List Int}{x y:Nat}(h:nG n E s x)(hl:s.length=n)(hx:x<n)(h2:mE n E (s.set x 1) t)(he:E x y=true):nG n E t y:=by
 intro g hg h1;have h3:=(h2.grey g hg).1 h1;rw[iU (by rw[hl];exact hx)]at h3;by_cases e:g=x
 ·subst e;exact nO he
 ·rw[if_neg e]at h3;exact vK hx (h g hg h3) (nO he)
theorem Cw{n:Nat}{E:ak}{s:List Int}{x:Nat}(h:∀g,g<n→mkD s g≠1):nG n E s x:=fun g hg h1=>absurd h1 (h g hg)
structure aO where
 key:Int
 l:List Int
deriving DecidableEq
def eZ(l:List Nat):List Int:=l.map fun(x:Nat)=>(x:Int)
def nI(l:List Int):List Int:=l.mergeSort fun x y=>decide (x≤y)
def wM(H:List Txn)(π:List Int)(k:Int):aO:=⟨k,π.filter fun t=>(aG H t.toNat).writes.contains k⟩
def fC(H:List Txn)(π:List Int):List aO:=if aA H=true∧aT π H.length=true then(bQ H).map (wM H π)else[]
def dY(H:List Txn)(R:List aO):Bool:=aA H&&decide (R.map (·.key)=bQ H)&&R.all fun r=>decide (nI r.l=eZ (aY H r.key))
def Qy(H:List Txn)(r:aO):List Cho:=(dG r.key (aY H r.key)).map (ofC r.l)
def rA(H:List Txn)(R:List aO):List Cho:=if dY H R then(R.map (Qy H)).flatten else[]
theorem wP(l:List Int):(nI l).Pairwise (·≤·):=by
 unfold nI;refine(List.pairwise_mergeSort (le:=fun x y=>decide (x≤y)) (fun a b c h1 h2=> ?_) (fun a b=> ?_) l).imp fun h=>by simpa using h
 ·rw[decide_eq_true_eq]at h1 h2⊢;omega
 ·rw[Bool.or_eq_true,decide_eq_true_eq,decide_eq_true_eq];omega
theorem lU(l:List Int):(nI l).Perm l:=List.mergeSort_perm l _
theorem sN:∀{a b:List Int},a.Pairwise (·≤·)→b.Pairwise (·≤·)→a.Perm b→a=b
 |[],b,_,_,h=>by rw[h.nil_eq]
 |x::a,[],_,_,h=>by have:=h.length_eq;simp at this
 |x::a,y::b,ha,hb,h=>by
  rw[List.pairwise_cons]at ha hb;have hx:x∈y::b:=h.mem_iff.1 (by simp);have hy:y∈x::a:=h.mem_iff.2 (by simp);have hxy:x=y:=by
   rw[List.mem_cons]at hx hy;rcases hx with rfl|hx
   ·rfl
   ·rcases hy with rfl|hy
    ·rfl
    ·have h1:=hb.1 x hx;have h2:=ha.1 y hy;omega
  subst hxy;rw[sN ha.2 hb.2 ((List.perm_cons x).1 h)]
theorem y8{l:List Nat}(h:l.Pairwise (·<·)):(eZ l).Pairwise (·≤·):=by
 unfold eZ;rw[List.pairwise_map];exact h.imp fun hab=>by omega
theorem nJ{l:List Nat}{x:Int}:x∈eZ l↔∃n∈l,x=(n:Int):=by
 unfold eZ;rw[List.mem_map];exact⟨fun⟨n,h,e⟩=>⟨n,h,e.symm⟩,fun⟨n,h,e⟩=>⟨n,h,e.symm⟩⟩
theorem pY{l:List Nat}(h:l.Pairwise (·<·)):(eZ l).Nodup:=by
 unfold eZ;rw[List.nodup_iff_pairwise_ne,List.pairwise_map];exact h.imp fun hab=>by omega
theorem rC{H:List Txn}{r:aO}:nI r.l=eZ (aY H r.key)↔r.l.Perm (eZ (aY H r.key)):=by
 constructor
 ·intro h;rw[←h];exact(lU r.l).symm
 ·intro h;exact sN (wP _) (y8 (fK H r.key)) ((lU r.l).trans h)
structure OkS(H:List Txn)(R:List aO):Prop where
 right:aA H=true
 keys:R.map (·.key)=bQ H
 perm:∀r∈R,r.l.Perm (eZ (aY H r.key))
theorem nV(H:List Txn)(R:List aO):dY H R=true↔OkS H R:=by
 unfold dY;rw[Bool.and_eq_true,Bool.and_eq_true,decide_eq_true_eq,List.all_eq_true];constructor
 ·rintro⟨⟨h1,h2⟩,h3⟩;exact⟨h1,h2,fun r hr=>rC.1 (of_decide_eq_true (h3 r hr))⟩
 ·rintro⟨h1,h2,h3⟩;exact⟨⟨h1,h2⟩,fun r hr=>decide_eq_true (rC.2 (h3 r hr))⟩
theorem OkS.nodup{H:List Txn}{R:List aO}(h:OkS H R){r:aO}(hr:r∈R):r.l.Nodup:=(h.perm r hr).nodup_iff.2 (pY (fK H r.key))
theorem OkS.mem{H:List Txn}{R:List aO}(h:OkS H R){r:aO}(hr:r∈R){x:Int}:x∈r.l↔∃n:Nat,x=n∧n<H.length∧r.key∈(aG H n).writes:=by
 rw[(h.perm r hr).mem_iff,nJ];constructor
 ·rintro⟨n,hn,e⟩;obtain⟨h1,h2⟩:=bB.1 hn;exact⟨n,e,h1,h2⟩
 ·rintro⟨n,e,h1,h2⟩;exact⟨n,bB.2 ⟨h1,h2⟩,e⟩
theorem OkS.nat{H:List Txn}{R:List aO}(h:OkS H R){r:aO}(hr:r∈R){n:Nat}(hn:n<H.length):((n:Nat):Int)∈r.l↔r.key∈(aG H n).writes:=by
 rw[h.mem hr];constructor
 ·rintro⟨m,e,h1,h2⟩;obtain rfl:n=m:=(by omega);exact h2
 ·intro h2;exact⟨n,rfl,hn,h2⟩
theorem OkS.has{H:List Txn}{R:List aO}(h:OkS H R){k:Int}{n:Nat}(hn:n<H.length)(hk:k∈(aG H n).writes):∃r∈R,r.key=k:=by
 have:k∈bQ H:=(by rw[aH hn]at hk;exact j3.2 ⟨_,List.getElem_mem hn,hk⟩);rw[←h.keys]at this;obtain⟨r,hr,e⟩:=List.mem_map.1 this;exact⟨r,hr,e⟩
theorem OkS.one{H:List Txn}{R:List aO}(h:OkS H R){r r':aO}(hr:r∈R)(hr':r'∈R)(e:r.key=r'.key):r=r':=by
 have hp:=lF H;rw[←h.keys,List.pairwise_map]at hp;obtain⟨i,hi,rfl⟩:=List.getElem_of_mem hr;obtain⟨j,hj,rfl⟩:=List.getElem_of_mem hr';rw[List.pairwise_iff_getElem]at hp;rcases Nat.lt_trichotomy i j with g|g|g
 ·have:=hp i j hi hj g;omega
 ·subst g;rfl
 ·have:=hp j i hj hi g;omega
theorem OkS.key{H:List Txn}{R:List aO}(h:OkS H R){r:aO}(hr:r∈R):0≤r.key∧r.key<16:=by
 have:r.key∈bQ H:=(by rw[←h.keys];exact List.mem_map_of_mem hr);obtain⟨t,ht,hk⟩:=j3.1 this;obtain⟨i,hi,rfl⟩:=List.getElem_of_mem ht;exact(((aD H).1 h.right).2 i hi).Jg _ hk
theorem dN{l:List Int}{x:Int}(h:x∈l):dB l x=(l.idxOf x:Int):=by
 have hi:=List.idxOf_lt_length_of_mem h;refine uZ hi (List.getElem_idxOf _) fun j hj hlt e=> ?_;have:l.idxOf x≤j:=by
  rw[←e];refine Nat.le_of_not_lt fun hgt=> ?_;have:=List.not_of_lt_findIdx (p:=(·==l[j])) (xs:=l) (i:=j) (by simpa[List.idxOf]using hgt);simp at this
 omega
def bU(R:List aO)(k:Int)(t:Int):Int:=match R.find? fun r=>decide (r.key=k)with
 |some r=>if r.l.contains t then(r.l.idxOf t:Int)+1 else 0
 |none=>0
def dL(R:List aO)(k a b:Int):Bool:=decide (0<bU R k b)&&(decide (a<0)||(decide (0<bU R k a)&&decide (bU R k a<bU R k b)))
def yt(H:List Txn)(R:List aO)(x y:Nat):Bool:=soE H x y||oU H x y||(aG H x).writes.any fun k=>dL R k (x:Int) (y:Int)
def iF(H:List Txn)(R:List aO)(x y:Nat):Bool:=decide (x≠y)&&(aG H x).reads.any fun r=>dL R r.a r.b (y:Int)
def rD(H:List Txn)(R:List aO)(x y:Nat):List Nat:=if yt H R x y then y::(List.range H.length).filter (iF H R y)else[]
def rE(H:List Txn)(R:List aO)(x:Nat):List Nat:=((List.range H.length).map (rD H R x)).flatten
def fD(H:List Txn)(R:List aO):ak:=fun x y=>(rE H R x).contains y
def gU(H:List Txn)(R:List aO):Bool:=dY H R&& !iA H.length (fD H R)
theorem y9{H:List Txn}{R:List aO}(h:OkS H R){r:aO}(hr:r∈R)(t:Int):bU R r.key t=if r.l.contains t then(r.l.idxOf t:Int)+1 else 0:=by
 unfold bU;cases hf:R.find? fun x=>decide (x.key=r.key)with
 |none=>have:=List.find?_eq_none.1 hf r hr;simp at this
 |some x=>
  have h1:=List.find?_some hf;have h2:=List.mem_of_find?_eq_some hf;rw[decide_eq_true_eq]at h1;rw[h.one h2 hr h1]
theorem dZ{H:List Txn}{R:List aO}(h:OkS H R){k:Int}{n:Nat}(hn:n<H.length):0<bU R k (n:Int)↔k∈(aG H n).writes:=by
 constructor
 ·intro hp;unfold bU at hp;cases hf:R.find? fun x=>decide (x.key=k)with
  |none=>rw[hf]at hp;exact absurd hp (Int.lt_irrefl 0)
  |some r=>
   rw[hf]at hp;have h1:=List.find?_some hf;rw[decide_eq_true_eq]at h1;subst h1;have h2:=List.mem_of_find?_eq_some hf;refine(h.nat h2 hn).1 ?_;by_cases hc:r.l.contains (n:Int)=true
   ·exact List.contains_iff_mem.1 hc
   ·rw[Bool.not_eq_true]at hc;simp only[hc]at hp;exact absurd hp (Int.lt_irrefl 0)
 ·intro hk;obtain⟨r,hr,rfl⟩:=h.has hn hk;rw[y9 h hr,if_pos (List.contains_iff_mem.2 ((h.nat hr hn).2 hk))];omega
theorem Cx{H:List Txn}{R:List aO}(h:OkS H R){c:Cho}:c∈rA H R↔∃r∈R,∃p∈dG r.key (aY H r.key),c=ofC r.l p:=by
 unfold rA;rw[if_pos ((nV H R).2 h),List.mem_flatten];constructor
 ·rintro⟨l,hl,hc⟩;obtain⟨r,hr,rfl⟩:=List.mem_map.1 hl;obtain⟨p,hp,e⟩:=List.mem_map.1 hc;exact⟨r,hr,p,hp,e.symm⟩
 ·rintro⟨r,hr,p,hp,rfl⟩;exact⟨_,List.mem_map_of_mem hr,List.mem_map_of_mem hp⟩
theorem rG{H:List Txn}{R:List aO}(h:OkS H R){k:Int}{a b:Nat}(ha:a<H.length)(hb:b<H.length):
 (⟨k,a,b⟩:Cho)∈rA H R↔k∈(aG H a).writes∧k∈(aG H b).writes∧bU R k a<bU R k b:=by
 rw[Cx h];have hpl:∀{r:aO},r∈R→∀{n:Nat},n<H.length→r.key∈(aG H n).writes→bU R r.key (n:Int)=(r.l.idxOf (n:Int):Int)+1∧dB r.l (n:Int)=(r.l.idxOf (n:Int):Int):=fun{r} hr {n} hn hk=>by
  have hm:=(h.nat hr hn).2 hk;exact⟨by rw[y9 h hr,if_pos (List.contains_iff_mem.2 hm)],dN hm⟩
 have hne:∀{r:aO},r∈R→∀{m n:Nat},m<H.length→n<H.length→r.key∈(aG H m).writes→r.key∈(aG H n).writes→m≠n→r.l.idxOf (m:Int)≠r.l.idxOf (n:Int):=fun{r} hr {m n} hm hn hkm hkn hmn e=>by
  have h1:=(h.nat hr hm).2 hkm;have h2:=(h.nat hr hn).2 hkn;have e1:=List.getElem_idxOf (List.idxOf_lt_length_of_mem h1);have e2:=List.getElem_idxOf (List.idxOf_lt_length_of_mem h2);have:r.l[r.l.idxOf (m:Int)]'(List.idxOf_lt_length_of_mem h1)=r.l[r.l.idxOf (n:Int)]'(List.idxOf_lt_length_of_mem h2):=(by simp only[e]);omega
 constructor
 ·rintro⟨r,hr,p,hp,e⟩;obtain⟨hpk,x,y,hx,hy,hxm,hym⟩:=je hp;have hlt:=rU (fK H r.key) hp;obtain⟨hx1,hx2⟩:=bB.1 hxm;obtain⟨hy1,hy2⟩:=bB.1 hym;obtain⟨px,ix⟩:=hpl hr hx1 hx2;obtain⟨py,iy⟩:=hpl hr hy1 hy2;have hnd:=hne hr hx1 hy1 hx2 hy2 (by omega);unfold ofC at e;rw[hx,hy,ix,iy]at e;split at e
  ·next hgt=>
   injection e with e1 e2 e3
   obtain rfl:a=y:=(by omega);obtain rfl:b=x:=(by omega);rw[hpk]at e1;subst e1;exact⟨hy2,hx2,by omega⟩
  ·next hgt=>
   subst e;obtain rfl:a=x:=(by have:(a:Int)=x:=hx;omega);obtain rfl:b=y:=(by have:(b:Int)=y:=hy;omega);have hk:k=r.key:=hpk;subst hk;exact⟨hx2,hy2,by omega⟩
 ·rintro⟨hka,hkb,hlt⟩;obtain⟨r,hr,rfl⟩:=h.has ha hka;obtain⟨pa,ia⟩:=hpl hr ha hka;obtain⟨pb,ib⟩:=hpl hr hb hkb;have hab:a≠b:=(by rintro rfl;omega);rcases Nat.lt_or_gt_of_ne hab with g|g
  ·refine⟨r,hr,_,jR (fK H r.key) (bB.2 ⟨ha,hka⟩) (bB.2 ⟨hb,hkb⟩) g,?_⟩;unfold ofC;rw[if_neg];show¬(dB r.l (a:Int)>dB r.l (b:Int));omega
  ·refine⟨r,hr,_,jR (fK H r.key) (bB.2 ⟨hb,hkb⟩) (bB.2 ⟨ha,hka⟩) g,?_⟩;unfold ofC;rw[if_pos];show dB r.l (b:Int)>dB r.l (a:Int);omega
theorem KO{H:List Txn}{R:List aO}(h:OkS H R){c:Cho}(hc:c∈rA H R):∃a b:Nat,c.a=a∧c.b=b∧a<H.length∧b<H.length:=by
 obtain⟨r,hr,p,hp,rfl⟩:=(Cx h).1 hc;obtain⟨hpk,x,y,hx,hy,hxm,hym⟩:=je hp;obtain⟨hx1,-⟩:=bB.1 hxm;obtain⟨hy1,-⟩:=bB.1 hym;unfold ofC;split
 ·exact⟨y,x,hy,hx,hy1,hx1⟩
 ·exact⟨x,y,hx,hy,hx1,hy1⟩
theorem Ab{H:List Txn}{R:List aO}(h:OkS H R){x y:Nat}(hx:x<H.length)(hy:y<H.length):yt H R x y=orE (bG H) (wwE (rA H R)) x y:=by
 have hr:=(aD H).1 h.right;rw[Bool.eq_iff_iff];unfold yt bG orE;rw[Bool.or_eq_true,Bool.or_eq_true,Bool.or_eq_true,Bool.or_eq_true];refine or_congr (or_congr Iff.rfl ?_) ?_
 ·unfold oU wrE;rw[Bool.and_eq_true,decide_eq_true_eq];refine⟨fun hm=>⟨?_,hm⟩,And.right⟩;rintro rfl;rw[List.any_eq_true]at hm;obtain⟨r,hr1,hr2⟩:=hm;have hr2:=of_decide_eq_true hr2;rw[aH hx]at hr1;have ht:=(hr.2 x hx).there r hr1;rcases(fG H x r).1 ht with e|⟨k,hk,e,hne,-⟩
  ·omega
  ·omega
 ·unfold wwE;rw[List.any_eq_true,List.any_eq_true];constructor
  ·rintro⟨k,hk,ha⟩;unfold dL at ha;rw[Bool.and_eq_true,Bool.or_eq_true,Bool.and_eq_true]at ha;simp only[decide_eq_true_eq]at ha;obtain⟨h1,h2⟩:=ha;have h3:bU R k (x:Int)<bU R k (y:Int):=(by rcases h2 with h2|h2<;>omega);exact⟨⟨k,x,y⟩,(rG h hx hy).2 ⟨hk,(dZ h hy).1 h1,h3⟩,by simp⟩
  ·rintro⟨⟨k,a,b⟩,hc,hab⟩;rw[Bool.and_eq_true,decide_eq_true_eq,decide_eq_true_eq]at hab;obtain⟨rfl,rfl⟩:=hab;obtain⟨h1,h2,h3⟩:=(rG h hx hy).1 hc;have h4:=(dZ h hx).2 h1;have h5:=(dZ h hy).2 h2;refine⟨k,h1,?_⟩;unfold dL;rw[Bool.and_eq_true,Bool.or_eq_true,Bool.and_eq_true];simp only[decide_eq_true_eq];exact⟨h5,.inr ⟨h4,h3⟩⟩
theorem FE{H:List Txn}{R:List aO}(h:OkS H R){x y:Nat}(hx:x<H.length)(hy:y<H.length):iF H R x y=rwE H (rA H R) x y:=by
 have hr:=(aD H).1 h.right;rw[Bool.eq_iff_iff];unfold iF rwE j4;rw[Bool.and_eq_true,Bool.or_eq_true,Bool.and_eq_true,List.any_eq_true,List.any_eq_true,List.any_eq_true,decide_eq_true_eq];have NT:∀r∈(aG H x).reads,r.b= -1∨∃k,∃hk:k<H.length,r.b=(k:Int)∧k≠x∧r.a∈H[k].writes:=fun r hr1=>by
  rw[aH hx]at hr1;exact(fG H x r).1 ((hr.2 x hx).there r hr1)
 constructor
 ·rintro⟨hne,r,hr1,ha⟩;unfold dL at ha;rw[Bool.and_eq_true,Bool.or_eq_true,Bool.and_eq_true]at ha;simp only[decide_eq_true_eq]at ha;obtain⟨h1,h2⟩:=ha;have hky:=(dZ h hy).1 h1;rcases NT r hr1 with e|⟨k,hk,e,hkx,hkw⟩
  ·refine .inl ⟨hne,r,hr1,?_⟩;rw[Bool.and_eq_true,decide_eq_true_eq,List.contains_iff_mem];exact⟨e,hky⟩
  ·have h3:0<bU R r.a r.b∧bU R r.a r.b<bU R r.a (y:Int):=by
    rcases h2 with h2|h2
    ·omega
    ·exact h2
   rw[e]at h3;refine .inr ⟨⟨r.a,k,y⟩,(rG h hk hy).2 ⟨(dZ h hk).1 h3.1,hky,h3.2⟩,?_⟩;rw[Bool.and_eq_true,Bool.and_eq_true,List.any_eq_true];simp only[decide_eq_true_eq];refine⟨⟨trivial,hne⟩,r,hr1,?_⟩;rw[Bool.and_eq_true,decide_eq_true_eq,decide_eq_true_eq];exact⟨rfl,e⟩
 ·rintro(⟨hne,r,hr1,h2⟩|⟨c,hc,h2⟩)
  ·rw[Bool.and_eq_true,decide_eq_true_eq,List.contains_iff_mem]at h2;refine⟨hne,r,hr1,?_⟩;unfold dL;rw[Bool.and_eq_true,Bool.or_eq_true];simp only[decide_eq_true_eq];exact⟨(dZ h hy).2 h2.2,.inl (by omega)⟩
  ·rw[Bool.and_eq_true,Bool.and_eq_true,List.any_eq_true]at h2;simp only[decide_eq_true_eq]at h2;obtain⟨⟨hb,hne⟩,r,hr1,h3⟩:=h2;rw[Bool.and_eq_true,decide_eq_true_eq,decide_eq_true_eq]at h3;obtain⟨a,b,e1,e2,ha,hb'⟩:=KO h hc;obtain⟨k,ca,cb⟩:=c;simp only at hb h3 e1 e2;subst e1;subst e2;obtain rfl:b=y:=(by omega);obtain⟨g1,g2,g3⟩:=(rG h ha hb').1 hc;refine⟨hne,r,hr1,?_⟩;unfold dL;rw[h3.1,h3.2,Bool.and_eq_true,Bool.or_eq_true,Bool.and_eq_true];simp only[decide_eq_true_eq];exact⟨(dZ h hb').2 g2,.inr ⟨(dZ h ha).2 g1,g3⟩⟩
theorem za{H:List Txn}{R:List aO}{x z:Nat}:fD H R x z=true↔z<H.length∧(yt H R x z=true∨∃y,y<H.length∧yt H R x y=true∧iF H R y z=true):=by
 unfold fD rE;rw[List.contains_iff_mem,List.mem_flatten];constructor
 ·rintro⟨l,hl,hz⟩;obtain⟨y,hy,rfl⟩:=List.mem_map.1 hl;have hy:=List.mem_range.1 hy;unfold rD at hz;split at hz
  ·next hd=>
   rw[List.mem_cons]at hz;rcases hz with rfl|hz
   ·exact⟨hy,.inl hd⟩
   ·obtain⟨h1,h2⟩:=List.mem_filter.1 hz;exact⟨List.mem_range.1 h1,.inr ⟨y,hy,hd,h2⟩⟩
  ·cases hz
 ·rintro⟨hz,hd|⟨y,hy,hd,ho⟩⟩
  ·refine⟨_,List.mem_map.2 ⟨z,List.mem_range.2 hz,rfl⟩,?_⟩;unfold rD;rw[if_pos hd];simp
  ·refine⟨_,List.mem_map.2 ⟨y,List.mem_range.2 hy,rfl⟩,?_⟩;unfold rD;rw[if_pos hd,List.mem_cons];exact .inr (List.mem_filter.2 ⟨List.mem_range.2 hz,ho⟩)
theorem KP{H:List Txn}{R:List aO}(h:OkS H R){x z:Nat}(hx:x<H.length)(hz:z<H.length):fD H R x z=bH H 1 (rA H R) x z:=by
 have hf:bH H 1 (rA H R) x z=(orE (bG H) (wwE (rA H R)) x z||iY H.length (orE (bG H) (wwE (rA H R))) (rwE H (rA H R)) x z):=rfl;rw[Bool.eq_iff_iff,za,hf,Bool.or_eq_true,←Ab h hx hz];unfold iY;rw[List.any_eq_true];constructor
 ·rintro⟨_,hd|⟨y,hy,hd,ho⟩⟩
  ·exact .inl hd
  ·exact .inr ⟨y,List.mem_range.2 hy,by rw[Bool.and_eq_true,←Ab h hx hy,←FE h hy hz];exact⟨hd,ho⟩⟩
 ·rintro(hd|⟨y,hy,hd⟩)
  ·exact⟨hz,.inl hd⟩
  ·have hy:=List.mem_range.1 hy;rw[Bool.and_eq_true,←Ab h hx hy,←FE h hy hz]at hd;exact⟨hz,.inr ⟨y,hy,hd.1,hd.2⟩⟩
theorem wQ{n:Nat}{E F:ak}(h:∀x y,x<n→y<n→E x y=F x y):∀(l:List Nat) (x y:Nat),x<n→y<n→(∀a∈l,a<n)→gF E x l y=gF F x l y
 |[],x,y,hx,hy,_=>h x y hx hy
 |a::l,x,y,hx,hy,hl=>by
  show(E x a&&gF E a l y)=(F x a&&gF F a l y);rw[h x a hx (hl a (by simp)),wQ h l a y (hl a (by simp)) hy fun b hb=>hl b (by simp[hb])]
theorem FH{n:Nat}{E F:ak}(h:∀x y,x<n→y<n→E x y=F x y)(hc:iA n E=true):iA n F=true:=by
 unfold iA at hc⊢;rw[List.any_eq_true]at hc⊢;obtain⟨x,hx,hc⟩:=hc;have hxn:=List.mem_range.1 hx;obtain⟨l,hl,hw⟩:=eB n x x hc;rw[wQ h l x x hxn hxn hl]at hw;exact⟨x,hx,kD n l.length l x x (Nat.le_refl _) hl hw⟩
theorem Ih{n:Nat}{E F:ak}(h:∀x y,x<n→y<n→E x y=F x y):iA n E=iA n F:=by
 rw[Bool.eq_iff_iff];exact⟨FH h,FH fun x y hx hy=>(h x y hx hy).symm⟩
theorem Cy(H:List Txn)(R:List aO):gU H R=(dY H R&&qZ H 1 (rA H R)):=by
 unfold gU qZ;cases hr:dY H R with
 |false=>rfl
 |true=>rw[Bool.true_and,Bool.true_and,Ih fun x y hx hy=>KP ((nV H R).1 hr) hx hy]
theorem idxOf_hit(a:Int)(t:List Int):(a::t).idxOf a=0:=by simp[List.idxOf_cons]
theorem fQ{a x:Int}(h:a≠x)(t:List Int):(a::t).idxOf x=t.idxOf x+1:=by
 rw[List.idxOf_cons,show(a==x)=false by simpa using h];rfl
theorem p8{p:Int→Bool}{x y:Int}(hx:p x=true)(hy:p y=true):∀{l:List Int},x∈l→y∈l→((l.filter p).idxOf x<(l.filter p).idxOf y↔l.idxOf x<l.idxOf y)
 |[],h,_=>by cases h
 |a::t,h1,h2=>by
  by_cases hpa:p a=true
  ·rw[List.filter_cons_of_pos hpa];by_cases hax:a=x
   ·subst hax;by_cases hay:a=y
    ·subst hay;exact⟨fun h=>absurd h (Nat.lt_irrefl _),fun h=>absurd h (Nat.lt_irrefl _)⟩
    ·rw[idxOf_hit,idxOf_hit,fQ hay,fQ hay];exact⟨fun _=>by omega,fun _=>by omega⟩
   ·by_cases hay:a=y
    ·subst hay;rw[idxOf_hit,idxOf_hit];exact⟨fun h=>absurd h (Nat.not_lt_zero _),fun h=>absurd h (Nat.not_lt_zero _)⟩
    ·rw[List.mem_cons]at h1 h2;have g1:x∈t:=h1.resolve_left fun e=>hax e.symm;have g2:y∈t:=h2.resolve_left fun e=>hay e.symm;have:=p8 hx hy g1 g2;rw[fQ hax,fQ hay,fQ hax,fQ hay];omega
  ·rw[List.filter_cons_of_neg hpa];have hax:a≠x:=fun e=>hpa (e▸hx);have hay:a≠y:=fun e=>hpa (e▸hy);rw[List.mem_cons]at h1 h2;have g1:x∈t:=h1.resolve_left fun e=>hax e.symm;have g2:y∈t:=h2.resolve_left fun e=>hay e.symm;have:=p8 hx hy g1 g2;rw[fQ hax,fQ hay];omega
theorem rH{H:List Txn}{π:List Int}(hp:aT π H.length=true){k:Int}{n:Nat}:((n:Nat):Int)∈(wM H π k).l↔n∈aY H k:=by
 unfold wM;rw[List.mem_filter,bB,Int.toNat_natCast,List.contains_iff_mem];constructor
 ·rintro⟨h1,h2⟩;obtain⟨i,hi,e⟩:=List.getElem_of_mem h1;have:=iT hp hi;exact⟨by omega,h2⟩
 ·rintro⟨h1,h2⟩;exact⟨kW hp h1,h2⟩
theorem ze{H:List Txn}{π:List Int}(hp:aT π H.length=true)(k:Int):(wM H π k).l.Perm (eZ (aY H k)):=by
 refine(List.perm_ext_iff_of_nodup ((wJ hp).sublist List.filter_sublist) (pY (fK H k))).2 fun x=> ?_;constructor
 ·intro hx;have h1:=(List.mem_filter.1 hx).1;obtain⟨i,hi,e⟩:=List.getElem_of_mem h1;have:=iT hp hi;have hn:x=((x.toNat:Nat):Int):=(by omega);rw[hn]at hx;exact nJ.2 ⟨_,(rH hp).1 hx,hn⟩
 ·intro hx;obtain⟨n,hn,rfl⟩:=nJ.1 hx;exact(rH hp).2 hn
theorem KQ{H:List Txn}{π:List Int}(hr:aA H=true)(hp:aT π H.length=true):OkS H (fC H π):=by
 unfold fC;rw[if_pos ⟨hr,hp⟩];refine⟨hr,?_,fun r hm=> ?_⟩
 ·rw[List.map_map];exact(List.map_congr_left (g:=id) fun k _=>rfl).trans (List.map_id _)
 ·obtain⟨k,hk,rfl⟩:=List.mem_map.1 hm;exact ze hp k
theorem tY{H:List Txn}{π:List Int}(hr:aA H=true)(hp:aT π H.length=true):dY H (fC H π)=true:=(nV _ _).2 (KQ hr hp)
theorem Ii{H:List Txn}{π:List Int}(hr:aA H=true)(hp:aT π H.length=true):rA H (fC H π)=ofL H π:=by
 unfold rA;rw[if_pos (tY hr hp)];unfold fC ofL bN;rw[if_pos ⟨hr,hp⟩,List.map_flatten,List.map_map,List.map_map];congr 1;refine List.map_congr_left fun k _=> ?_;show(dG k (aY H k)).map (ofC (wM H π k).l)=(dG k (aY H k)).map (ofC π);refine List.map_congr_left fun p hpm=> ?_;obtain⟨hpk,a,b,ha,hb,ham,hbm⟩:=je hpm;have h1:=(rH (k:=k) hp).2 ham;have h2:=(rH (k:=k) hp).2 hbm;have g1:=(List.mem_filter.1 h1).1;have g2:=(List.mem_filter.1 h2).1;have hf:=p8 (p:=fun t=>(aG H t.toNat).writes.contains k) (List.mem_filter.1 h2).2 (List.mem_filter.1 h1).2 g2 g1;have hf:(wM H π k).l.idxOf (b:Int)<(wM H π k).l.idxOf (a:Int)↔π.idxOf (b:Int)<π.idxOf (a:Int):=hf;unfold ofC;rw[ha,hb,dN h1,dN h2,dN g1,dN g2];by_cases hlt:π.idxOf (b:Int)<π.idxOf (a:Int)
 ·rw[if_pos (by have:=hf.2 hlt;omega),if_pos (by omega)]
 ·rw[if_neg (by intro h;exact hlt (hf.1 (by omega))),if_neg (by omega)]
end Go.Proofs.YtfhnamomiaekdaaGreatDoor
namespace Go.Inq
end Go.Inq
namespace Go.Proofs.YtfhnamomiaekdaaGreatDoor
open Go.RowKit Go.Inq
end Go.Proofs.YtfhnamomiaekdaaGreatDoor
namespace Go.Inq
section
variable{H:List Txn}{l:List Cho}{x y:Nat}
theorem Cz(hr:aA H=true)(hx:x<H.length){r:It}(h:r∈(aG H x).reads):r.b= -1∨∃k:Nat,r.b=(k:Int)∧k<H.length∧k≠x∧r.a∈(aG H k).writes:=by
 rw[aH hx]at h;have h1:=(((aD H).1 hr).2 x hx).there r h;rw[fG]at h1;rcases h1 with h1|⟨k,hk,h1,h2,h3⟩
 ·exact .inl h1
 ·exact .inr ⟨k,h1,hk,h2,by rw[aH hk];exact h3⟩
theorem Mj(hr:aA H=true)(hy:y<H.length):oU H x y=wrE H x y:=by
 unfold oU wrE;by_cases e:x=y
 ·subst e;have:((aG H x).reads.any fun r=>decide (r.b=(x:Int)))=false:=by
   rw[List.any_eq_false];intro r hm;rcases Cz hr hy hm with g|⟨k,g1,_,g2,_⟩
   ·simp;omega
   ·simp;omega
  rw[this];simp
 ·simp[e]
theorem KR(ho:∀c∈l,eY H c=true):ou H l x y=wwE l x y:=by
 unfold ou wwE;rw[Bool.eq_iff_iff,List.any_eq_true,List.any_eq_true];constructor
 ·rintro⟨c,hc,h⟩;unfold qF at h;simp only[Bool.and_eq_true]at h;exact⟨c,hc,by rw[h.1.1.1.1,h.1.1.1.2];rfl⟩
 ·rintro⟨c,hc,h⟩;rw[Bool.and_eq_true,decide_eq_true_eq,decide_eq_true_eq]at h;obtain⟨a,b,ha,hb,hne,_,_,h1,h2⟩:=vE.1 (ho c hc);obtain rfl:a=x:=(by omega);obtain rfl:b=y:=(by omega);refine⟨c,hc,?_⟩;unfold qF;rw[decide_eq_true ha,decide_eq_true hb,decide_eq_true hne,List.contains_iff_mem.2 h1,List.contains_iff_mem.2 h2];rfl
theorem nW(hr:aA H=true)(ho:∀c∈l,eY H c=true)(hy:y<H.length):Jl H l x y=orE (bG H) (wwE l) x y:=by
 unfold Jl orE bG orE;rw[Mj hr hy,KR ho]
theorem p9(hr:aA H=true)(ho:∀c∈l,eY H c=true)(hx:x<H.length):lY H l x y=rwE H l x y:=by
 unfold lY rwE j4;by_cases e:x=y
 ·subst e;have:(l.any fun c=>decide (c.b=(x:Int))&&decide (x≠x)&&(aG H x).reads.any fun r=>decide (r.a=c.key)&&decide (r.b=c.a))=false:=by
   rw[List.any_eq_false];intro c _;simp
  rw[this];simp
 ·rw[decide_eq_true e,Bool.true_and,Bool.true_and,Bool.eq_iff_iff,Bool.or_eq_true,List.any_eq_true,List.any_eq_true,List.any_eq_true];constructor
  ·rintro⟨r,hm,h⟩;unfold oz at h;rw[Bool.and_eq_true,Bool.or_eq_true]at h;obtain⟨h1,h2⟩:=h;rcases h2 with h2|h2
   ·left;have h2:=of_decide_eq_true h2;rcases Cz hr hx hm with g|⟨k,g,_⟩
    ·exact⟨r,hm,by rw[decide_eq_true g,h1];rfl⟩
    ·omega
   ·right;rw[Bool.and_eq_true,List.any_eq_true]at h2;obtain⟨_,c,hc,h3⟩:=h2;have h3:=of_decide_eq_true h3;refine⟨c,hc,?_⟩;rw[h3];have:((aG H x).reads.any fun r'=>decide (r'.a=r.a)&&decide (r'.b=r.b))=true:=List.any_eq_true.2 ⟨r,hm,by simp⟩;simp[this]
  ·rintro(⟨r,hm,h⟩|⟨c,hc,h⟩)
   ·rw[Bool.and_eq_true,decide_eq_true_eq]at h;refine⟨r,hm,?_⟩;unfold oz;rw[h.2,decide_eq_true (show r.b<0 by omega)];rfl
   ·simp only[Bool.and_eq_true,decide_eq_true_eq,List.any_eq_true]at h;obtain⟨⟨h1,-⟩,r,hm,h2,h3⟩:=h;obtain⟨a,b,ha,hb,hne,_,_,g1,g2⟩:=vE.1 (ho c hc);obtain rfl:b=y:=(by omega);refine⟨r,hm,?_⟩;unfold oz;rw[Bool.and_eq_true,Bool.or_eq_true];refine⟨by rw[h2,List.contains_iff_mem];exact g2,.inr ?_⟩;rw[Bool.and_eq_true,List.any_eq_true];refine⟨decide_eq_true (by omega),c,hc,decide_eq_true ?_⟩;obtain⟨ck,ca,cb⟩:=c;dsimp only at*;rw[h2,h3,hb]
theorem KS{level:Int}(hr:aA H=true)(hl:level=0∨level=1)(ho:∀c∈l,eY H c=true)(hx:x<H.length)(hy:y<H.length):isB H level l x y=bH H level l x y:=by
 have hf:bH H level l x y=(orE (bG H) (wwE l) x y||(if level=1 then iY H.length (orE (bG H) (wwE l)) (rwE H l)else rwE H l) x y):=rfl;rw[hf];unfold isB;rcases hl with rfl|rfl
 ·rw[if_pos rfl,if_neg (by decide),jJ hr hx hy,rV hr hx hy,nW hr ho hy,p9 hr ho hx]
 ·rw[if_neg (by decide),if_pos rfl,if_pos rfl];unfold iY;rw[Bool.eq_iff_iff,List.any_eq_true,Bool.or_eq_true,List.any_eq_true];constructor
  ·rintro⟨m,hm,h⟩;have hm':=List.mem_range.1 hm;rw[jJ hr hx hm',rV hr hm' hy,nW hr ho hm',p9 hr ho hm',Bool.and_eq_true,Bool.or_eq_true]at h;rcases h.2 with h2|h2
   ·left;have:=of_decide_eq_true h2;obtain rfl:m=y:=(by omega);exact h.1
   ·exact .inr ⟨m,hm,by rw[h.1,h2];rfl⟩
  ·rintro(h|⟨m,hm,h⟩)
   ·exact⟨y,List.mem_range.2 hy,by rw[jJ hr hx hy,nW hr ho hy,h];simp⟩
   ·have hm':=List.mem_range.1 hm;rw[Bool.and_eq_true]at h;exact⟨m,hm,by rw[jJ hr hx hm',rV hr hm' hy,nW hr ho hm',p9 hr ho hm',h.1,h.2];simp⟩
end
theorem FI{E:ak}:∀(r:List Nat) (x y:Nat),gF E x r y=true↔∀i,i<r.length+1→E ((x::r).getD i 0) ((r++[y]).getD i 0)=true
 |[],x,y=>by
  constructor
  ·intro h i hi;obtain rfl:i=0:=(by simp at hi;omega);exact h
  ·intro h;exact h 0 (by simp)
 |a::r,x,y=>by
  have hw:gF E x (a::r) y=(E x a&&gF E a r y):=rfl;rw[hw,Bool.and_eq_true,FI r a y];constructor
  ·rintro⟨h1,h2⟩ i hi;cases i with
   |zero=>exact h1
   |succ i=>exact h2 i (by simp at hi;omega)
  ·intro h;exact⟨h 0 (by simp),fun i hi=>h (i+1) (by simp;omega)⟩
theorem zf{n:Nat}{E:ak}{v:Nat}:∀(l x:Nat),bV n E v x=l+1→gF E x (iK n E (bV n E v) x l) v=true
 |0,x,h=>Bz h
 |l+1,x,h=>by
  obtain⟨y,h1,_,h3,h4⟩:=jh h;rw[ji h1];show(E x y&&gF E y _ v)=true;rw[h3,zf l y h4];rfl
theorem zh{n:Nat}{E:ak}{v:Nat}:∀(l x:Nat),bV n E v x=l+1→∀y∈iK n E (bV n E v) x l,bV n E v y≤l
 |0,x,h,y,hy=>by cases hy
 |l+1,x,h,y,hy=>by
  obtain⟨z,h1,_,_,h4⟩:=jh h;rw[ji h1,List.mem_cons]at hy;rcases hy with rfl|hy
  ·omega
  ·have:=zh l z h4 y hy;omega
theorem tZ{n:Nat}{E:ak}{v:Nat}:∀(l x:Nat),bV n E v x=l+1→(x::iK n E (bV n E v) x l).Nodup
 |0,x,h=>by simp[iK]
 |l+1,x,h=>by
  obtain⟨z,h1,_,_,h4⟩:=jh h;refine List.nodup_cons.2 ⟨fun hm=> ?_,?_⟩
  ·have:=zh (l+1) x h x hm;omega
  ·rw[ji h1];exact tZ l z h4
theorem Ey{n:Nat}{E:ak}(h:dP n E≠[]):∃x r,dP n E=x::r∧(x::r).Nodup∧gF E x r x=true:=by
 unfold dP at h⊢;split at h
 ·exact absurd rfl h
 ·rename_i v hv;have h1:=List.find?_some hv;rw[bne_iff_ne]at h1;have hj:bV n E v v=(bV n E v v-1)+1:=(by omega);exact⟨v,_,rfl,tZ _ v hj,zf _ v hj⟩
def zi(H:List Txn)(level:Int)(l:List Cho):List Int:=(dP H.length (bH H level l)).map fun(x:Nat)=>(x:Int)
theorem Ez{H:List Txn}{level:Int}{l:List Cho}(hr:aA H=true)(hl:level=0∨level=1)(ho:∀c∈l,eY H c=true)(h:zi H level l≠[]):ig H level l (zi H level l)=true:=by
 have h0:dP H.length (bH H level l)≠[]:=fun e=>h (by unfold zi;rw[e];rfl);obtain⟨x,r,e,hnd,hw⟩:=Ey h0;have hlt:∀a∈x::r,a<H.length:=fun a ha=>Jz a (by rw[e];exact ha);unfold zi;rw[e];unfold ig;rw[List.length_map,decide_eq_true (show 0<(x::r).length by simp),Bool.true_and,List.all_eq_true];intro i hi;have hi:=List.mem_range.1 hi;have hj:(i+1)%(x::r).length<(x::r).length:=Nat.mod_lt _ (by simp);have g1:((x::r).map fun(x:Nat)=>(x:Int)).getD i 0=(((x::r)[i]:Nat):Int):=by
  rw[List.getD_eq_getElem?_getD,List.getElem?_map,List.getElem?_eq_getElem hi];rfl
 have g2:((x::r).map fun(x:Nat)=>(x:Int)).getD ((i+1)%(x::r).length) 0=(((x::r)[(i+1)%(x::r).length]:Nat):Int):=by
  rw[List.getD_eq_getElem?_getD,List.getElem?_map,List.getElem?_eq_getElem hj];rfl
 rw[g1,g2,Bool.and_eq_true];constructor
 ·rw[←List.map_take];rw[Bool.not_eq_true',←Bool.not_eq_true,List.contains_iff_mem];intro hm;obtain⟨y,hy,e2⟩:=List.mem_map.1 hm;obtain⟨k,hk,e3⟩:=List.mem_take_iff_getElem.1 hy;have:=List.pairwise_iff_getElem.1 (List.nodup_iff_pairwise_ne.1 hnd) k i (by omega) hi (by omega);exact this (by rw[e3];omega)
 ·rw[KS hr hl ho (hlt _ (List.getElem_mem hi)) (hlt _ (List.getElem_mem hj))];rw[FI]at hw;have:=hw i (by simpa using hi);have e1:(x::r).getD i 0=(x::r)[i]:=(by rw[List.getD_eq_getElem?_getD,List.getElem?_eq_getElem hi];rfl);have e2:(r++[x]).getD i 0=(x::r)[(i+1)%(x::r).length]:=by
   have h3:(r++[x])[i]?=(x::r)[(i+1)%(x::r).length]?:=by
    by_cases hl2:i<r.length
    ·rw[List.getElem?_append_left hl2,Nat.mod_eq_of_lt (show i+1<(x::r).length by simp;omega),gS]
    ·have:i=r.length:=(by simp at hi;omega);subst this;rw[List.getElem?_append_right (Nat.le_refl _),Nat.sub_self,show(r.length+1)%(x::r).length=0 by simp];rfl
   rw[List.getD_eq_getElem?_getD,h3,List.getElem?_eq_getElem hj];rfl
  rw[e1,e2]at this;exact this
structure Nod where
 c:Cho
 cyc:List Int
deriving DecidableEq
def wR:Cho:=⟨0,0,0⟩
def KT:Fct:=⟨wR,0,0,0,[]⟩
def gI(L:List Fct):List Cho:=L.map (·.c)
theorem zk(L:List Fct):(gI L).length=L.length:=List.length_map ..
theorem EA(L:List Fct)(f:Fct):gI (L++[f])=gI L++[f.c]:=by unfold gI;rw[List.map_append];rfl
def jr(H:List Txn)(level:Int)(L:List Fct)(n:Nat):Bool:=(List.range n).all fun i=>bP H level (L.take i) (L.getD i KT)
def l6(H:List Txn)(level:Int)(L:List Fct):Bool:=jr H level L L.length&&l9 H level
theorem CB(H:List Txn)(level:Int)(L:List Fct)(n:Nat):jr H level L (n+1)=(jr H level L n&&bP H level (L.take n) (L.getD n KT)):=by
 unfold jr;rw[List.range_succ,List.all_append];simp
theorem Ij{H:List Txn}{level:Int}{L:List Fct}{n i:Nat}(h:bP H level (L.take i) (L.getD i KT)=false)(hi:i<n):jr H level L n=false:=by
 unfold jr;rw[List.all_eq_false];exact⟨i,List.mem_range.2 hi,by rw[h];decide⟩
theorem Ae{α:Type}{l:List α}{i:Nat}{d:α}(h:i<l.length):l.getD i d=l[i]:=by rw[List.getD_eq_getElem?_getD,List.getElem?_eq_getElem h];rfl
def O9(c:Cho)(x:Nat×Nat):Fct:=⟨c,2,(x.1:Int),(x.2:Int),[]⟩
def Qz(n:Nat):List (Nat×Nat):=((List.range n).map fun i=>(List.range n).map fun j=>(i,j)).flatten
def Fz(H:List Txn)(level:Int)(L:List Fct)(c:Cho):Option Fct:=((Qz L.length).map (O9 c)).find? (bP H level L)
end Go.Inq
namespace Go.Proofs.YtfhnamomiaekdaaGreatDoor
open Go.RowKit Go.Inq
set_option maxHeartbeats 1000000
def Ik(H:List Txn)(level:Int)(π:List Int):Bool:=if level=0 then wL H π else if level=1 then gU H (fC H π)else false
theorem Ml{H:List Txn}{m:List Cho}{o:List Nat}(hr:aA H=true)(hm:Ig (bN H) m)(hg:qZ H 1 m=true)(ht:l5 H.length (bH H 1 m) o):gU H (fC H (eZ o))=true:=by
 have hp:aT (eZ o) H.length=true:=ht.perm;rw[Cy,tY hr hp,Bool.true_and,Ii hr hp,FC hp];refine Ic (Mi hm ht fun a b h=> ?_) hg;unfold bH orE;rw[h];simp
theorem NU{H:List Txn}{level:Int}{m:List Cho}{o:List Nat}(hr:aA H=true)(hl:level=0∨level=1)(hm:Ig (bN H) m)(ho:fZ H.length (bH H level m)=some o):Ik H level (eZ o)=true:=by
 have ht:=Cv ho;have hg:qZ H level m=true:=(by rw[←Eu,ho];rfl);unfold Ik;rcases hl with rfl|rfl
 ·rw[if_pos rfl];exact KN hr hm ht
 ·rw[if_neg (by decide),if_pos rfl];exact Ml hr hm hg ht
end Go.Proofs.YtfhnamomiaekdaaGreatDoor
namespace Go.Inq
inductive Tr where
 |leaf (n:Nod):Tr
 |fork (c:Cho) (l r:Tr):Tr
def Tr.flat:Tr→List Nod
 | .leaf n=>[n]
 | .fork c l r=>⟨c,[]⟩::(l.flat++r.flat)
def Tr.ok:Tr→Prop
 | .leaf n=>n.cyc≠[]
 | .fork _ l r=>l.ok∧r.ok
def Tr.leaves:Tr→Nat
 | .leaf _=>1
 | .fork _ l r=>l.leaves+r.leaves
def Tr.deep:Tr→Nat
 | .leaf _=>0
 | .fork _ l r=>1+max l.deep r.deep
def Tr.held(H:List Txn)(level:Int):Tr→List Cho→Bool
 | .leaf n,l=>decide (n.c=wR)&&ig H level l n.cyc
 | .fork c x y,l=>x.held H level (l++[c])&&y.held H level (l++[iI c])&&eY H c
def bF:Nat→List Nod→Option (Tr×List Nod)
 |0,_=>none
 |_+1,[]=>none
 |k+1,n::r=>if n.cyc≠[]then some (.leaf n,r)else match bF k r with
  |none=>none
  |some (x,r1)=>match bF k r1 with
   |none=>none
   |some (y,r2)=>some (.fork n.c x y,r2)
theorem iD:∀{k:Nat} {l r:List Nod} {t:Tr},bF k l=some (t,r)→l=t.flat++r∧t.ok
 |0,_,_,_,h=>by cases h
 |k+1,[],_,_,h=>by cases h
 |k+1,n::l,r,t,h=>by
  unfold bF at h;split at h
  ·rename_i hc;injection h with h
   injection h with h1 h2
   subst h1 h2;exact⟨rfl,hc⟩
  ·rename_i hc;split at h
   ·cases h
   ·rename_i x r1 h1;split at h
    ·cases h
    ·rename_i y r2 h2;injection h with h
     injection h with h3 h4
     subst h3 h4;obtain⟨e1,o1⟩:=iD h1;obtain⟨e2,o2⟩:=iD h2;refine⟨?_,o1,o2⟩;have hn:n=⟨n.c,[]⟩:=by
      have:n.cyc=[]:=Classical.byContradiction hc;cases n;simp at this⊢;exact this
     show n::l=(⟨n.c,[]⟩::(x.flat++y.flat))++r2;rw[e1,e2,←hn];simp
theorem KU(t:Tr):0<t.flat.length:=by cases t<;>simp[Tr.flat]
theorem sO:∀(t:Tr) (r:List Nod) (k:Nat),t.ok→t.flat.length≤k→bF k (t.flat++r)=some (t,r)
 | .leaf n,r,k,ho,hk=>by
  obtain⟨k,rfl⟩:∃j,k=j+1:=⟨k-1,by simp[Tr.flat]at hk;omega⟩;show bF (k+1) (n::r)=_;unfold bF;rw[if_pos (show n.cyc≠[] from ho)]
 | .fork c x y,r,k,ho,hk=>by
  have hl:(Tr.fork c x y).flat.length=x.flat.length+y.flat.length+1:=(by simp[Tr.flat]);obtain⟨k,rfl⟩:∃j,k=j+1:=⟨k-1,by omega⟩;show bF (k+1) (⟨c,[]⟩::(x.flat++y.flat)++r)=_;rw[List.cons_append,List.append_assoc];unfold bF;rw[if_neg (by simp),sO x (y.flat++r) k ho.1 (by omega)];dsimp only;rw[sO y r k ho.2 (by omega)]
def l7(l:List Nod):Option Tr:=match bF l.length l with
 |some (t,[])=>some t
 |_=>none
theorem qc{l:List Nod}{t:Tr}:l7 l=some t↔l=t.flat∧t.ok:=by
 unfold l7;constructor
 ·intro h;split at h
  ·rename_i t' h1;injection h with h
   subst h;obtain⟨e,o⟩:=iD h1;exact⟨by rw[e];simp,o⟩
  ·cases h
 ·rintro⟨rfl,ho⟩;have:=sO t [] t.flat.length ho (Nat.le_refl _);rw[List.append_nil]at this;rw[this]
def oI(H:List Txn)(level:Int)(l:List Cho)(tree:List Nod):Bool:=l9 H level&&match l7 tree with
 |some t=>t.held H level l
 |none=>false
theorem Il{H:List Txn}{level:Int}{l:List Cho}{tree:List Nod}:oI H level l tree=true↔l9 H level=true∧∃t:Tr,tree=t.flat∧t.ok∧t.held H level l=true:=by
 unfold oI;rw[Bool.and_eq_true];refine and_congr_right fun _=> ?_;constructor
 ·intro h;split at h
  ·rename_i t ht;obtain⟨e,o⟩:=qc.1 ht;exact⟨t,e,o,h⟩
  ·cases h
 ·rintro⟨t,e,o,h⟩;rw[qc.2 ⟨e,o⟩];exact h
structure Mk where
 c:Cho
 right:Bool
 done:List Nod
deriving DecidableEq
end Go.Inq
