/-
  Walks: layer 24: whether a tree shows that there is no way.
-/
import Derived.BigQuiet
import Derived.Test.YtfhnamomiaekdaaGreatDoorU27
import Derived.Test.YtfhnamomiaekdaaGreatDoorU24
import Derived.Test.YtfhnamomiaekdaaGreatDoorU05
import Derived.Test.YtfhnamomiaekdaaGreatDoorU02
import Derived.Test.YtfhnamomiaekdaaGreatDoorU06
set_option linter.unusedVariables false
set_option linter.unusedSimpArgs false
namespace Go.Proofs.YtfhnamomiaekdaaGreatDoor
open Go.RowKit Go.Inq
set_option maxHeartbeats 1000000
attribute [local go_sem↓] Go.wp_at_zero Go.wp_at_succ
theorem NS{l:List Nod}:(kG l).2.2=(nS l).isSome:=by
 unfold kG;cases nS l<;>rfl
set_option maxRecDepth 100000 in
theorem Eo (A:Option Addr) (c:Nat) (H:List Txn) (level:Int) (Am:Option Addr) (cm:Nat) (M:List Cho) (At:Option Addr) (ct:Nat) (tree:List Nod) (w:World) (h:aC w (Old w) (.slice A H.length c) H) (hn:aD H)
 (hM:bq w (Old w) (.slice Am M.length cm) M) (hml:M.length≤100000000) (ht:eX w (Old w) (.slice At tree.length ct) tree) (htl:tree.length≤100000000) (hcy:tO tree):
 Calls Tryz.prog 81 #[.agg #[.slice A H.length c],.int .i64 level,.slice Am M.length cm,.slice At tree.length ct] w fun e w'=>e= .returned (.bool (lI H level M tree))∧Below w.heap.size w w':=by
 obtain⟨W0,hW0⟩:∃W0,w.alloc (.cells #[.slice A H.length c] 24)=W0:=⟨_,rfl⟩;have hB:=ah (Below.refl w.heap.size w) hW0 (Nat.le_refl _);have k0:=Blk.newEq hW0;have hsh:=hide (Em At ct tree W0 (ht.below hB) htl);have hrc:=hide (fun W (hb:Below w.heap.size w W)=>bY A c H W (h.below hb) hn);have hdef:Hid (lI H level M tree=(nE H level&&match nS tree with|some t=>t.held H level M|none=>false)):=hide rfl;have htO:Hid (∀t,nS tree=some t→tree=t.flat∧t.ok):=hide fun t e=>rR.1 e;have hsO:=hide (NS (l:=tree));obtain⟨⟨sl,sd,so⟩,hsr⟩:∃r,kG tree=r:=⟨_,rfl⟩;rw[hsr]at hsh hsO;dsimp only at hsO;have Br:=hide (fun t g W (hb:Below w.heap.size w W) (hg:w.heap.size≤g) (kg:Blk W g 231 #[.slice At tree.length ct]) (e:tree=Tr.flat t) (hok:t.ok)=>(by
  have hag:Agree (Old w) w W:=Agree.below hb fun b hb=>hb;have hk:∀b,Old w b→b<g:=fun b hb=>Nat.lt_of_lt_of_le hb hg;have hR:RdW W g (t.flat++[]):=by
   rw[List.append_nil,←e];exact⟨At,ct,kg,ht.keep hag hk⟩
  exact GD g A c H level hn t [] M Am cm W (aC.keep h hag hk) (bq.keep hM hag fun b hb=> .inl (hk b hb)) hR hok (by rw[←e];exact hcy) (by rw[←e];simpa using htl) (by rw[←e];omega):
  Calls Tryz.prog 149 #[.pointer (some ⟨g,0,none⟩),.agg #[.slice A H.length c],.int .i64 level,.slice Am M.length cm] W (jO g (t.held H level M) [] W)))
 have c0:=Blk.n0 k0;obtain⟨r,hr⟩:∃r,lI H level M tree=r:=⟨_,rfl⟩;rw[hr]at hdef;rw[hr];clear h hM ht hcy hr hsr;go_enter Tryz.func81,Tryz.ntmps81;go_wp2_with fail;refine hsh.out.mono ?_;rintro e w1 ⟨rfl,hb1⟩;have hB1:=hB.trans (hb1.mono hB.size);have k1:=k0.below hb1 k0.lt;clear hsh hW0 c0 k0 hb1 hB;have c0:=Blk.n0 k1;have hz:decide (level=0)=(level==0):=(by rw[Bool.eq_iff_iff];simp);have ho:decide (level=1)=(level==1):=(by rw[Bool.eq_iff_iff];simp);have hmay:Hid (nE H level=(aA H&&((level==0)||(level==1)))):=hide (by unfold nE;rw[hz,ho]);rw[hmay.out]at hdef;clear hz ho hmay;cases hto:nS tree with
 |none=>
  rw[hto]at hdef hsO;have hso:so=false:=hsO.out;have hrf:r=false:=(by rw[hdef.out];simp);subst hso hrf;clear hdef hsO htO hrc Br hto;go_wp2;go_ret;exact⟨rfl,hB1⟩
 |some t=>
  obtain⟨e1,e2⟩:=htO.out t hto;rw[hto]at hdef hsO;dsimp only at hdef;have hso:so=true:=hsO.out;subst hso;have hhe:=hide (fun g W hb hg kg=>Br.out t g W hb hg kg e1 e2);have M7:=hide (hrc.out w1 hB1);generalize aA H=q at*;generalize t.held H level M=hq at*;generalize hzz:(level==0)=z at*;generalize hoo:(level==1)=o at*;replace e1:=hide e1;clear hsO htO hrc Br hto e2;go_wp2_with fail;refine M7.out.mono ?_;rintro e w2 ⟨rfl,hb2⟩;have hB2:=hB1.trans (hb2.mono hB1.size);have k2:=k1.below hb2 k1.lt;clear M7 c0 k1 hb2 hB1 w1;have c0:=Blk.n0 k2;have hno:(q&&(z||o))=false→r=false:=fun e=>(by rw[hdef.out,e];rfl);have hyes:(q&&(z||o))=true→r=hq:=fun e=>(by rw[hdef.out,e];rfl);obtain⟨W3,hW3⟩:∃W3,w2.alloc (.cells #[.slice At tree.length ct] 231)=W3:=⟨_,rfl⟩;have hb3:=ah (Below.refl w2.heap.size w2) hW3 (Nat.le_refl _);have hB3:=hB2.trans (hb3.mono hB2.size);have hhx:=hide (hhe.out w2.heap.size W3 hB3 hB2.size (Blk.newEq hW3));have k3:=k2.below hb3 k2.lt;have c1:=Blk.n0 k3;have hfin:∀(e:Ending) w',jO w2.heap.size hq [] W3 e w'→r=hq→e= .returned (.bool r)∧Below w.heap.size w w':=fun e w' he hr=>by
   obtain⟨rfl,-,hT⟩:=he;exact⟨by rw[hr],hB3.trans (hT.below.mono hB2.size)⟩
  clear hhe hdef k2 k3 hb3 hB3;replace hfin:=hide hfin;cases q with
  |false=>
   obtain rfl:=hno rfl;clear hyes hno hfin hhx c1 hW3;go_wp2;go_ret;exact⟨rfl,hB2⟩
  |true=>
   cases z with
   |true=>
    have hr:=hide (hyes rfl);obtain rfl:level=0:=(by simpa using hzz);clear hyes hno hzz hoo;go_wp2_with fail;refine hhx.out.mono ?_;intro e w' he;obtain⟨f1,f2⟩:=hfin.out e w' he hr.out;subst f1;clear he hhx;go_wp2;go_ret;exact⟨rfl,f2⟩
   |false=>
    cases o with
    |true=>
     have hr:=hide (hyes rfl);obtain rfl:level=1:=(by simpa using hoo);clear hyes hno hzz hoo;go_wp2_with fail;refine hhx.out.mono ?_;intro e w' he;obtain⟨f1,f2⟩:=hfin.out e w' he hr.out;subst f1;clear he hhx;go_wp2;go_ret;exact⟨rfl,f2⟩
    |false=>
     obtain rfl:=hno rfl;have n0:(level !=0)=true:=(by simpa using hzz);have n1:(level !=1)=true:=(by simpa using hoo);clear hyes hno hfin hhx c1 hW3 hzz hoo;go_wp2;go_ret;exact⟨rfl,hB2⟩
end Go.Proofs.YtfhnamomiaekdaaGreatDoor
namespace Go.Proofs.YtfhnamomiaekdaaGreatDoor
open Go.RowKit Go.Inq
def fZ(H:List Txn)(k:Nat):List Int:=((List.range k).filter fun(x:Nat)=>decide (bH H (x:Int)≠[])).map fun(x:Nat)=>(x:Int)
theorem vV{H:List Txn}{k:Nat}(h:bH H (k:Int)=[]):fZ H (k+1)=fZ H k:=by
 unfold fZ;rw[List.range_succ,List.filter_append,List.map_append];simp[h]
theorem pJ{H:List Txn}{k:Nat}(h:bH H (k:Int)≠[]):fZ H (k+1)=fZ H k++[(k:Int)]:=by
 unfold fZ;rw[List.range_succ,List.filter_append,List.map_append];simp[h]
theorem GH(H:List Txn)(k:Nat):(fZ H k).length≤k:=by
 unfold fZ;rw[List.length_map];exact Nat.le_trans (List.length_filter_le _ _) (by simp)
theorem nN{H:List Txn}(hr:aA H=true):fZ H 16=cZ H:=by
 rw[xG fun t ht k hk=> ?_]
 ·rfl
 ·obtain⟨i,hi,rfl⟩:=List.getElem_of_mem ht;exact(((aB H).1 hr).2 i hi).K8 k hk
theorem GI{H:List Txn}{k m:Nat}(h:k≤m):fZ H k<+:fZ H m:=by
 obtain⟨d,rfl⟩:=Nat.le.dest h;unfold fZ;rw[List.range_add,List.filter_append,List.map_append];exact List.prefix_append _ _
def rowOk(H:List Txn)(r:aS):Bool:=decide (pG r.l=iV (bH H r.key))
structure RtI(H:List Txn)(R:List aS)(k n:Nat):Prop where
 le:n≤R.length
 n16:n≤k
 keys:(R.take n).map (·.key)=fZ H k
 ok:∀r∈R.take n,rowOk H r=true
theorem RtI.start(H:List Txn)(R:List aS):RtI H R 0 0:=⟨Nat.zero_le _,Nat.le_refl _,rfl,fun r h=>by simp at h⟩
theorem RtI.len{H:List Txn}{R:List aS}{k n:Nat}(h:RtI H R k n):(fZ H k).length=n:=by rw[←h.keys,List.length_map,List.length_take];have:=h.le;omega
theorem RtI.skip{H:List Txn}{R:List aS}{k n:Nat}(h:RtI H R k n)(hw:bH H (k:Int)=[]):RtI H R (k+1) n:=⟨h.le,by have:=h.n16;omega,by rw[vV hw];exact h.keys,h.ok⟩
theorem RtI.next{H:List Txn}{R:List aS}{k n:Nat}(h:RtI H R k n)(hw:bH H (k:Int)≠[])(hn:n<R.length)(hk:R[n].key=(k:Int))(ho:pG R[n].l=ay (bH H (k:Int))):RtI H R (k+1) (n+1):=by
 refine⟨hn,by have:=h.n16;omega,?_,fun r hr=> ?_⟩
 ·rw[List.take_succ_eq_append_getElem hn,List.map_append,h.keys,pJ hw,List.map_cons,hk];rfl
 ·rw[List.take_succ_eq_append_getElem hn,List.mem_append,List.mem_singleton]at hr;rcases hr with hr|rfl
  ·exact h.ok r hr
  ·unfold rowOk;rw[hk];exact decide_eq_true ho
theorem nO{H:List Txn}{R:List aS}(h:OkS H R→False):fH H R=false:=by
 rw[Bool.eq_false_iff];intro h2;exact h ((qd H R).1 h2)
theorem RtI.at_{H:List Txn}{R:List aS}{k n:Nat}(h:RtI H R k n)(hk:k<16)(hw:bH H (k:Int)≠[])(ho:OkS H R):∃hn:n<R.length,R[n].key=(k:Int):=by
 have hp:fZ H k++[(k:Int)]<+:cZ H:=(by rw[←pJ hw,←nN ho.right];exact GI (by omega));rw[←ho.keys]at hp;have hl:=hp.length_le;simp only[List.length_append,h.len,List.length_map,List.length_singleton]at hl;refine⟨by omega,?_⟩;have he:=hp.getElem (i:=n) (by simp[h.len]);rw[List.getElem_map,List.getElem_append_right (by rw[h.len];exact Nat.le_refl _)]at he;simp only[h.len,Nat.sub_self,List.getElem_cons_zero]at he;exact he.symm
theorem RtI.few{H:List Txn}{R:List aS}{k n:Nat}(h:RtI H R k n)(hk:k<16)(hw:bH H (k:Int)≠[])(hn:n=R.length):fH H R=false:=
 nO fun ho=>by obtain⟨h1,_⟩:=h.at_ hk hw ho;omega
theorem RtI.key{H:List Txn}{R:List aS}{k n:Nat}(h:RtI H R k n)(hk:k<16)(hw:bH H (k:Int)≠[])(hn:n<R.length)(he:R[n].key≠(k:Int)):fH H R=false:=
 nO fun ho=>by obtain⟨_,h1⟩:=h.at_ hk hw ho;exact he h1
theorem RtI.row{H:List Txn}{R:List aS}{k n:Nat}(h:RtI H R k n)(hk:k<16)(hw:bH H (k:Int)≠[])(hn:n<R.length)(he:pG R[n].l≠ay (bH H (k:Int))):fH H R=false:=
 nO fun ho=>by
  obtain⟨_,h1⟩:=h.at_ hk hw ho;have h2:=tV.2 (ho.perm R[n] (List.getElem_mem hn));rw[h1]at h2;exact he h2
theorem RtI.done{H:List Txn}{R:List aS}{n:Nat}(h:RtI H R 16 n)(hr:aA H=true):fH H R=decide (n=R.length):=by
 rw[Bool.eq_iff_iff,decide_eq_true_eq,qd];constructor
 ·intro ho;have h1:=h.len;rw[nN hr,←ho.keys,List.length_map]at h1;exact h1.symm
 ·intro hn;have hk:=h.keys;have ho:=h.ok;rw[hn,List.take_length]at hk ho;rw[nN hr]at hk;exact⟨hr,hk,fun r hm=>tV.1 (of_decide_eq_true (ho r hm))⟩
theorem KH{H:List Txn}{R:List aS}(hr:aA H=false):fH H R=false:=nO fun ho=>by rw[ho.right]at hr;cases hr
end Go.Proofs.YtfhnamomiaekdaaGreatDoor
namespace Go.Proofs.YtfhnamomiaekdaaGreatDoor
open Go.RowKit Go.Inq
set_option maxHeartbeats 2000000
attribute [local go_sem↓] Go.wp_at_zero Go.wp_at_succ
set_option maxRecDepth 100000 in
theorem Ep (f:Nat) (hf:∀args w,(callFunc f args).run Tryz.prog w= .ok (.enter f args) w) (lb:Array Value) (p:Int→Bool) (A:Option Addr) (c:Nat) (l:List (Int)) (w:World) (h:aO w (Old w) (.slice A l.length c) l) (hl:l.length≤1000000000)
 (hp:∀W,Below w.heap.size w W→∀x∈l,Calls Tryz.prog f (#[.int .i64 x]++lb) W fun e W'=>e= .returned (.bool (p x))∧Below W.heap.size W W'):
 Calls Tryz.prog 228 #[.slice A l.length c,.func (.func f) #[] lb] w fun e w'=>e= .returned (.int .i64 (sI p l))∧Below w.heap.size w w':=by
 have hhit:=hide (fun k=>jh (p:=p) (l:=l) (k:=k));have hnone:=hide (iB (p:=p) (l:=l));replace h:=hide h;replace hp:=hide hp;go_enter Tryz.func228,Tryz.ntmps228;go_wp2_with fail;go_loopw [8] (fun s8 wr=>∃k:Nat,k≤l.length∧s8= .int .i64 k∧Hid (∀j (hj:j<l.length),j<k→p l[j]=false)∧Below w.heap.size w wr) (fun s8 _=>l.length-(intOf s8).toNat);case atStart=>exact⟨0,Nat.zero_le _,by go_num,fun j hj h=>absurd h (by omega),Below.refl _ _⟩
 case round=>
  obtain⟨k,hk,rfl,hall,hb⟩:=hrel;have hk1:(0:Int)≤(k:Int):=Int.natCast_nonneg _;by_cases hlt:k<l.length
  ·have hi2:(k:Int)<(l.length:Int):=(by omega);obtain⟨b,off,rfl,_,d0⟩:=(h.out.below hb).at_ hlt;have hcall:=hide (hp.out _ hb _ (List.getElem_mem hlt));have hh:=hide (fun g=>hhit.out k hlt g hall.out);have hst:Hid (p l[k]=false→∀j (hj:j<l.length),j<k+1→p l[j]=false):=fun g j hj hjk=>by
    by_cases e:j=k
    ·subst e;exact g
    ·exact hall.out j hj (by omega)
   clear hall;generalize l[k]=x at*;go_wp2_with fail;refine hcall.out.mono ?_;rintro e W2 ⟨rfl,hb2⟩;have hb3:=hb.trans (hb2.mono hb.size);cases hpx:p x with
   |true=>
    have hr:=hide (hh.out hpx);clear hpx hh hst hcall;go_wp2;go_ret;exact⟨dw hr.out.symm,hb3⟩
   |false=>
    have hr:=hide (hst.out hpx);clear hpx hh hst hcall;go_wp2;go_roundw;case rel=>exact⟨k+1,by omega,by go_num,hr,hb3⟩
    case measure=>simp[intOf];omega
  ·have hr:=hide (hnone.out fun j hj=>hall.out j hj (by omega));go_wp2;go_ret;exact⟨dw hr.out.symm,hb⟩
theorem yY (f:Nat) (hf:∀args w,(callFunc f args).run Tryz.prog w= .ok (.enter f args) w) (lb:Array Value) (p:Int→Bool) (A:Option Addr) (c:Nat) (l:List (Int)) (w:World) (h:aO w (Old w) (.slice A l.length c) l) (hl:l.length≤1000000000)
 (hp:∀W,Below w.heap.size w W→∀x∈l,Calls Tryz.prog f (#[.int .i64 x]++lb) W fun e W'=>e= .returned (.bool (p x))∧Below W.heap.size W W'):
 Calls Tryz.prog 176 #[.slice A l.length c,.func (.func f) #[] lb] w fun e w'=>e= .returned (.bool (l.any p))∧Below w.heap.size w w':=by
 have hd:=hide (ji p l);have hcall:=hide (Ep f hf lb p A c l w h hl hp);clear hp hf h;go_enter Tryz.func176,Tryz.ntmps176;go_wp2_with fail;refine hcall.out.mono ?_;rintro e w1 ⟨rfl,hb⟩;clear hcall;go_wp2;go_ret;exact⟨by rw[←hd.out];rfl,hb⟩
set_option maxHeartbeats 4000000
structure mQ(W:World)(Bm:Nat)(A:Option Addr)(c n:Nat)(R:List aS):Prop where
 hd:W.cell? ⟨Bm,0,none⟩=some (.slice A n c)
 pl:∀k t:Nat,k<16→t<32→W.cell? ⟨Bm,1+k*32+t,none⟩=some (.int .i64 (dn R (k:Int) (t:Int)))
theorem mQ.lt{W:World}{Bm:Nat}{A:Option Addr}{c n:Nat}{R:List aS}(h:mQ W Bm A c n R):Bm<W.heap.size:=block_lt_of_cell h.hd
theorem mQ.below{W W':World}{Bm B:Nat}{A:Option Addr}{c n:Nat}{R:List aS}(h:mQ W Bm A c n R)(hb:Below B W W')(hB:Bm<B):mQ W' Bm A c n R:=
 ⟨(hb.cell (p:=⟨Bm,0,none⟩) hB).trans h.hd,fun k t h1 h2=>(hb.cell (p:=⟨Bm,1+k*32+t,none⟩) hB).trans (h.pl k t h1 h2)⟩
theorem vW(Bm:Nat)(A:Option Addr)(c n:Nat)(R:List aS)(k b:Nat)(a:Int)(w:World)(hm:mQ w Bm A c n R)(hk:k<16)(hb:b<32)(ha:a<32):
 Calls Tryz.prog 220 #[.pointer (some ⟨Bm,0,none⟩),.int .i64 k,.int .i64 a,.int .i64 b] w fun e w'=>e= .returned (.bool (eB R k a b))∧w'=w:=by
 have hdef:eB R (k:Int) a (b:Int)=(decide (0<dn R k b)&&(decide (a<0)||(decide (0<dn R k a)&&decide (dn R k a<dn R k b)))):=rfl;rw[hdef];clear hdef;have cb:=hm.pl k b hk hb;have hk0:(0:Int)≤(k:Int):=Int.natCast_nonneg _;have hk1:(k:Int)<16:=(by omega);have hb0:(0:Int)≤(b:Int):=Int.natCast_nonneg _;have hb1:(b:Int)<32:=(by omega);generalize dn R (k:Int) (b:Int)=pb at*;by_cases q1:0<pb
 ·have q1b:decide (pb>0)=true:=decide_eq_true q1;rw[show decide (0<pb)=true from q1b];by_cases q2:a<0
  ·have q2b:decide (a<0)=true:=decide_eq_true q2;rw[q2b];clear q1 q2;go_enter Tryz.func220,Tryz.ntmps220;go_wp2;go_ret;exact⟨rfl,rfl⟩
  ·have q2b:decide (a<0)=false:=decide_eq_false q2;rw[q2b];obtain⟨x,rfl⟩:∃x:Nat,a=x:=⟨a.toNat,by omega⟩;have ca:=hm.pl k x hk (by omega);have hx0:(0:Int)≤(x:Int):=Int.natCast_nonneg _;have hx1:x<32:=(by omega);generalize dn R (k:Int) (x:Int)=pa at*;by_cases q3:0<pa
   ·have q3b:decide (pa>0)=true:=decide_eq_true q3;rw[show decide (0<pa)=true from q3b];obtain⟨q,hq⟩:∃q,decide (pa<pb)=q:=⟨_,rfl⟩;rw[hq];clear q1 q3;go_enter Tryz.func220,Tryz.ntmps220;go_wp2;go_ret;exact⟨by simp[hq],rfl⟩
   ·have q3b:decide (pa>0)=false:=decide_eq_false q3;rw[show decide (0<pa)=false from q3b];clear q1 q3;go_enter Tryz.func220,Tryz.ntmps220;go_wp2;go_ret;exact⟨rfl,rfl⟩
 ·have q1b:decide (pb>0)=false:=decide_eq_false q1;rw[show decide (0<pb)=false from q1b];clear q1;go_enter Tryz.func220,Tryz.ntmps220;go_wp2;go_ret;exact⟨rfl,rfl⟩
theorem Er(ra rb:Int)(x:Nat)(Bx:Nat)(w:World)(hx:w.cell? ⟨Bx,0,none⟩=some (.int .i64 x)):
 Calls Tryz.prog 218 #[.agg #[.int .i64 ra,.int .i64 rb],.pointer (some ⟨Bx,0,none⟩)] w fun e w'=>e= .returned (.bool (decide (rb=(x:Int))))∧Below w.heap.size w w':=by
 have hB:=(Below.refl w.heap.size w).alloc (Nat.le_refl _) (.cells #[.int .i64 ra,.int .i64 rb] 106);have hxl:=block_lt_of_cell hx;have hx2:=(hB.cell (p:=⟨Bx,0,none⟩) hxl).trans hx;have hq:(rb==(x:Int))=decide (rb=(x:Int)):=by
  by_cases e:rb=(x:Int)
  ·rw[e];simp
  ·rw[decide_eq_false e,beq_eq_false_iff_ne];exact e
 generalize decide (rb=(x:Int))=q at*;go_enter Tryz.func218,Tryz.ntmps218;go_wp2;go_ret;exact⟨by first|rfl|exact aR hq,hB⟩
theorem Es(k x y Bb Bx By Bm:Nat)(A:Option Addr)(c n:Nat)(R:List aS)(w:World)(hm:mQ w Bm A c n R)(hk:k<16)(hx:x<32)(hy:y<32)(cb:w.cell? ⟨Bb,0,none⟩=some (.pointer (some ⟨Bm,0,none⟩)))(cx:w.cell? ⟨Bx,0,none⟩=some (.int .i64 x))(cy:w.cell? ⟨By,0,none⟩=some (.int .i64 y)):
 Calls Tryz.prog 219 #[.int .i64 k,.pointer (some ⟨Bb,0,none⟩),.pointer (some ⟨Bx,0,none⟩),.pointer (some ⟨By,0,none⟩)] w fun e w'=>e= .returned (.bool (eB R k x y))∧Below w.heap.size w w':=by
 have hca:=hide (fun W (hb:Below w.heap.size w W)=>vW Bm A c n R k y (x:Int) W (hm.below hb hm.lt) hk hy (by omega));clear hm;go_enter Tryz.func219,Tryz.ntmps219;go_wp2_with fail;refine(hca.out _ (Below.refl _ _)).mono ?_;rintro e w1 ⟨rfl,rfl⟩;go_wp2;go_ret;exact⟨rfl,Below.refl _ _⟩
theorem KI(ra:Nat)(rb:Int)(y Bb By Bm:Nat)(A:Option Addr)(c n:Nat)(R:List aS)(w:World)(hm:mQ w Bm A c n R)(hk:ra<16)(hx:rb<32)(hy:y<32)(cb:w.cell? ⟨Bb,0,none⟩=some (.pointer (some ⟨Bm,0,none⟩)))(cy:w.cell? ⟨By,0,none⟩=some (.int .i64 y)):
 Calls Tryz.prog 221 #[.agg #[.int .i64 ra,.int .i64 rb],.pointer (some ⟨Bb,0,none⟩),.pointer (some ⟨By,0,none⟩)] w fun e w'=>e= .returned (.bool (eB R ra rb y))∧Below w.heap.size w w':=by
 have hca:=hide (fun W (hb:Below w.heap.size w W)=>vW Bm A c n R ra y rb W (hm.below hb hm.lt) hk hy hx);have hB:=(Below.refl w.heap.size w).alloc (Nat.le_refl _) (.cells #[.int .i64 ra,.int .i64 rb] 106);have cb2:=(hB.cell (p:=⟨Bb,0,none⟩) (block_lt_of_cell cb)).trans cb;have cy2:=(hB.cell (p:=⟨By,0,none⟩) (block_lt_of_cell cy)).trans cy;clear hm cb cy;go_enter Tryz.func221,Tryz.ntmps221;go_wp2_with fail;refine(hca.out _ hB).mono ?_;rintro e w1 ⟨rfl,rfl⟩;go_wp2;go_ret;exact⟨rfl,hB⟩
set_option maxRecDepth 100000 in
theorem Cv(x y Bm:Nat)(A:Option Addr)(c:Nat)(H:List Txn)(R:List aS)(w:World)(h:aC w (Old w) (.slice A H.length c) H)(hn:aD H)(ho:OkS H R)(hm:mQ w Bm A c H.length R)(hx:x<H.length)(hy:y<H.length):
 Calls Tryz.prog 161 #[.pointer (some ⟨Bm,0,none⟩),.int .i64 x,.int .i64 y] w fun e w'=>e= .returned (.bool (zA H R x y))∧Below w.heap.size w w':=by
 have hr:=(aB H).1 ho.right;have h32:=hr.1;obtain⟨W3,hW3⟩:∃W3,((w.alloc (.cells #[.pointer (some ⟨Bm,0,none⟩)] 160)).alloc (.cells #[.int .i64 x] 3)).alloc (.cells #[.int .i64 y] 3)=W3:=⟨_,rfl⟩;have hB:Below w.heap.size w W3:=(by rw[←hW3];exact(((Below.refl _ w).alloc (Nat.le_refl _) _).alloc (by simp) _).alloc (by simp;omega) _);have kb:Blk W3 w.heap.size 160 #[.pointer (some ⟨Bm,0,none⟩)]:=(by rw[←hW3];exact((Blk.new _ _ _).alloc _).alloc _);have kx:Blk W3 (w.heap.size+1) 3 #[.int .i64 x]:=by
  rw[←hW3];have:=Blk.new (w.alloc (.cells #[.pointer (some ⟨Bm,0,none⟩)] 160)) 3 #[.int .i64 x];simp only[World.size_alloc]at this;exact this.alloc _
 have ky:Blk W3 (w.heap.size+2) 3 #[.int .i64 y]:=by
  rw[←hW3];have:=Blk.new ((w.alloc (.cells #[.pointer (some ⟨Bm,0,none⟩)] 160)).alloc (.cells #[.int .i64 x] 3)) 3 #[.int .i64 y];simpa using this
 have cb:=Blk.n0 kb;have cx:=Blk.n0 kx;have cy:=Blk.n0 ky;have hm3:=hm.below hB hm.lt;have ch:=hm3.hd;have hT3:=h.below hB;obtain⟨b,off,Ax,cx1,Arx,crx,hA,_,d0,d1,d2,hws,hrs⟩:=aC.at_ hT3 hx;subst hA;obtain⟨b',off',Ay,cy1,Ary,cry,hA,_,e0,e1,e2,IG,Et⟩:=aC.at_ hT3 hy;injection hA with hA
 injection hA with hA1 hA2
 subst hA1 hA2;have hdef:zA H R x y=(soE H x y||ru H x y||(aG H x).writes.any fun k=>eB R k (x:Int) (y:Int)):=rfl;have hso:soE H x y=(decide (x<y)&&decide ((aG H x).dJ=(aG H y).dJ)):=rfl;have hre:ru H x y=(aG H y).reads.any fun r=>decide (r.b=(x:Int)):=rfl;rw[hso,hre]at hdef;clear hso hre;have hkey:=hide ((hr.2 x hx).K8);have hwl:=(hn.2 _ (List.getElem_mem hx)).1;have hrl:=(hn.2 _ (List.getElem_mem hy)).2;rw[aJ hx,aJ hy]at hdef;have hx0:(0:Int)≤(x:Int):=Int.natCast_nonneg _;have hy0:(0:Int)≤(y:Int):=Int.natCast_nonneg _;have hx1:(x:Int)<(H.length:Int):=(by omega);have hy1:(y:Int)<(H.length:Int):=(by omega);clear IG hrs hr;generalize H[x]=tx at*;generalize H[y]=ty at*;obtain⟨sx,wx,rx⟩:=tx;obtain⟨sy,wy,ry⟩:=ty;dsimp only at*;generalize zA H R x y=D at*;have hnx:Hid (H.length=H.length):=hide rfl;replace hn:=hide hn;replace ho:=hide ho;replace h:=hide h;replace hT3:=hide hT3;replace hm:=hide hm;have hF:Hid (∀W,Below W3.heap.size W3 W→W.cell? ⟨w.heap.size,0,none⟩=some (.pointer (some ⟨Bm,0,none⟩))∧W.cell? ⟨w.heap.size+1,0,none⟩=some (.int .i64 x)∧W.cell? ⟨w.heap.size+2,0,none⟩=some (.int .i64 y)∧W.cell? ⟨Bm,0,none⟩=some (.slice (some ⟨b,off,none⟩) H.length c)):=hide fun W hb=>
  ⟨(hb.cell (p:=⟨w.heap.size,0,none⟩) kb.lt).trans cb,(hb.cell (p:=⟨w.heap.size+1,0,none⟩) kx.lt).trans cx,(hb.cell (p:=⟨w.heap.size+2,0,none⟩) ky.lt).trans cy,(hb.cell (p:=⟨Bm,0,none⟩) (block_lt_of_cell ch)).trans ch⟩
 have hE2:=hide (fun W (hb:Below W3.heap.size W3 W)=>(hb.cell (p:=⟨b,off+y*3+2,none⟩) (block_lt_of_cell e2)).trans e2);have hD1:=hide (fun W (hb:Below W3.heap.size W3 W)=>(hb.cell (p:=⟨b,off+x*3+1,none⟩) (block_lt_of_cell d1)).trans d1);obtain⟨q1,hq1⟩:∃q1,decide (x<y)=q1:=⟨_,rfl⟩;obtain⟨ss,hss⟩:∃ss,(decide (x<y)&&decide (sx=sy))=ss:=⟨_,rfl⟩;rw[hss]at hdef;have GJ:(q1&&(sx==sy))=ss:=(by rw[←hq1,←hss];rfl);obtain⟨q2,hq2⟩:∃q2,(sx==sy)=q2:=⟨_,rfl⟩;rw[hq2]at GJ;replace hss:=hide hss;replace hdef:=hide hdef;go_enter Tryz.func161,Tryz.ntmps161;go_upto_region 1 with fail;go_cut [31] (fun s31 wz=>s31= .bool ss∧Below W3.heap.size W3 wz);case first=>
  cases q1 with
  |true=>
   have QT:q2=ss:=GJ;subst QT;clear GJ hss hdef hF hE2 hD1 hkey hws Et;go_wp2_with fail;go_quiet (fail);go_wp2
   go_meet
   exact⟨rfl,⟨rfl,rfl,rfl,Nat.le_refl _,fun _ _=>rfl⟩⟩
  |false=>
   have QT:false=ss:=GJ;subst QT;clear GJ hss hdef hF hE2 hD1 hkey hws Et;go_wp2_with fail;go_quiet (fail);go_wp2
   go_meet
   exact⟨rfl,⟨rfl,rfl,rfl,Nat.le_refl _,fun _ _=>rfl⟩⟩
 case rest=>
  obtain⟨rfl,hbz⟩:=hcut;cases ss with
  |true=>
   have hD:D=true:=(by rw[hdef.out];rfl);subst hD;clear GJ hss hdef hF hE2 hD1 hkey hws Et;go_wp2;go_ret;exact⟨rfl,hB.trans (hbz.mono hB.size)⟩
  |false=>
   have hD:Hid (D=((ry.any fun r=>decide (r.b=(x:Int)))||wx.any fun k=>eB R k (x:Int) (y:Int))):=hide (by rw[hdef.out];rfl);have hT:Hid (∀W,Below W3.heap.size W3 W→Calls Tryz.prog 217 #[.slice Ary ry.length cry,.func (.func 218) #[] #[.pointer (some ⟨w.heap.size+1,0,none⟩)]] W fun e w'=>e= .returned (.bool (ry.any fun r=>decide (r.b=(x:Int))))∧Below W.heap.size W w'):=hide fun W hb=>
    iI 218 (enters_of Tryz.func218 (by kernel_rfl) rfl) #[.pointer (some ⟨w.heap.size+1,0,none⟩)] (fun r=>decide (r.b=(x:Int))) Ary cry ry W (Et.below hb) (by omega) fun W' hb' r _=>Er r.a r.b x (w.heap.size+1) W' ((hb'.cell (p:=⟨w.heap.size+1,0,none⟩) (block_lt_of_cell (hF.out W hb).2.1)).trans (hF.out W hb).2.1)
   have hI:Hid (∀W,Below W3.heap.size W3 W→Calls Tryz.prog 176 #[.slice Ax wx.length cx1,.func (.func 219) #[] #[.pointer (some ⟨w.heap.size,0,none⟩),.pointer (some ⟨w.heap.size+1,0,none⟩),.pointer (some ⟨w.heap.size+2,0,none⟩)]] W fun e w'=>e= .returned (.bool (wx.any fun k=>eB R k (x:Int) (y:Int)))∧Below W.heap.size W w'):=hide fun W hb=>
    yY 219 (enters_of Tryz.func219 (by kernel_rfl) rfl) #[.pointer (some ⟨w.heap.size,0,none⟩),.pointer (some ⟨w.heap.size+1,0,none⟩),.pointer (some ⟨w.heap.size+2,0,none⟩)] (fun k=>eB R k (x:Int) (y:Int)) Ax cx1 wx W (hws.below hb) (by omega) fun W' hb' k hk=>by
     obtain⟨k0,k1⟩:=hkey.out k hk;obtain⟨kn,rfl⟩:∃kn:Nat,k=kn:=⟨k.toNat,by omega⟩;have hf:=hF.out W hb;exact Es kn x y w.heap.size (w.heap.size+1) (w.heap.size+2) Bm _ c H.length R W' ((hm3.below hb hm3.lt).below hb' (hm3.below hb hm3.lt).lt) (by omega) (by omega) (by omega) ((hb'.cell (p:=⟨w.heap.size,0,none⟩) (block_lt_of_cell hf.1)).trans hf.1) ((hb'.cell (p:=⟨w.heap.size+1,0,none⟩) (block_lt_of_cell hf.2.1)).trans hf.2.1) ((hb'.cell (p:=⟨w.heap.size+2,0,none⟩) (block_lt_of_cell hf.2.2.1)).trans hf.2.2.1)
   obtain⟨z1,hz1⟩:∃z1,(ry.any fun r=>decide (r.b=(x:Int)))=z1:=⟨_,rfl⟩;obtain⟨z2,hz2⟩:∃z2,(wx.any fun k=>eB R k (x:Int) (y:Int))=z2:=⟨_,rfl⟩;rw[hz1]at hD hT;rw[hz2]at hD hI;clear GJ hss hdef hkey hws Et hz1 hz2 hW3 kb kx ky cb cx cy hm3 ch d0 d1 d2 e0 e1 e2;go_upto_region 3 with fail;refine bF (fun W=>Below W3.heap.size W3 W) (by kernel_rfl) (by kernel_rfl) (hbz.trans ⟨rfl,rfl,rfl,Nat.le_refl _,fun _ _=>rfl⟩) ?_;refine⟨.pointer (some ⟨Bm,0,none⟩),fun W hW=>(by have v0:=(hF.out W hW).1;go_wp2),?_⟩;refine⟨.pointer (some ⟨Bm,0,none⟩),fun W hW=>(by go_wp2),?_⟩;refine⟨.pointer (some ⟨Bm,0,none⟩),fun W hW=>(by go_wp2),?_⟩;refine⟨.pointer (some ⟨Bm,0,none⟩),fun W hW=>(by go_wp2),?_⟩;refine⟨.slice (some ⟨b,off,none⟩) H.length c,fun W hW=>(by have v0:=(hF.out W hW).2.2.2;go_wp2),?_⟩;refine⟨.int .i64 y,fun W hW=>(by have v0:=(hF.out W hW).2.2.1;go_wp2),?_⟩;refine⟨.pointer (some ⟨b,off+y*3,none⟩),fun W hW=>(by go_wp2),?_⟩;refine⟨.pointer (some ⟨b,off+y*3+2,none⟩),fun W hW=>(by go_wp2),?_⟩;refine⟨.slice Ary ry.length cry,fun W hW=>(by have v0:=hE2.out W hW;go_wp2),?_⟩;refine⟨.func (.func 218) #[] #[.pointer (some ⟨w.heap.size+1,0,none⟩)],fun W hW=>(by go_wp2),?_⟩;refine⟨.bool z1,fun W hW=>(by
    go_wp2_with fail;refine(hT.out W hW).mono ?_;rintro e w' ⟨rfl,hb'⟩;have hS:=hW.trans (hb'.mono hW.size);go_wp2),?_⟩
   refine⟨.bool z1,fun W hW=>(by go_wp2),?_⟩;intro W5 hW5;simp only[Act.put,sA,sZ,sS];cases z1 with
   |true=>
    have hD2:D=true:=(by rw[hD.out];rfl);subst hD2;clear hF hE2 hD1 hD hT hI hbz;go_wp2;go_quiet (fail);go_wp2;go_ret;exact⟨rfl,(hB.trans (hW5.mono hB.size)).trans ⟨rfl,rfl,rfl,Nat.le_refl _,fun _ _=>rfl⟩⟩
   |false=>
    have hD2:D=z2:=(by rw[hD.out];rfl);subst hD2;clear hD hT hE2 hbz;go_upto_region 4 with fail;refine bF (fun W=>Below W3.heap.size W3 W) (by kernel_rfl) (by kernel_rfl) (hW5.trans ⟨rfl,rfl,rfl,Nat.le_refl _,fun _ _=>rfl⟩) ?_;refine⟨.bool false,fun W hW=>(by go_wp2),?_⟩;refine⟨.bool false,fun W hW=>(by go_wp2),?_⟩;refine⟨.pointer (some ⟨Bm,0,none⟩),fun W hW=>(by have v0:=(hF.out W hW).1;go_wp2),?_⟩;refine⟨.pointer (some ⟨Bm,0,none⟩),fun W hW=>(by go_wp2),?_⟩;refine⟨.pointer (some ⟨Bm,0,none⟩),fun W hW=>(by go_wp2),?_⟩;refine⟨.pointer (some ⟨Bm,0,none⟩),fun W hW=>(by go_wp2),?_⟩;refine⟨.slice (some ⟨b,off,none⟩) H.length c,fun W hW=>(by have v0:=(hF.out W hW).2.2.2;go_wp2),?_⟩;refine⟨.int .i64 x,fun W hW=>(by have v0:=(hF.out W hW).2.1;go_wp2),?_⟩;refine⟨.pointer (some ⟨b,off+x*3,none⟩),fun W hW=>(by go_wp2),?_⟩;refine⟨.pointer (some ⟨b,off+x*3+1,none⟩),fun W hW=>(by go_wp2),?_⟩;refine⟨.slice Ax wx.length cx1,fun W hW=>(by have v0:=hD1.out W hW;go_wp2),?_⟩;refine⟨.func (.func 219) #[] #[.pointer (some ⟨w.heap.size,0,none⟩),.pointer (some ⟨w.heap.size+1,0,none⟩),.pointer (some ⟨w.heap.size+2,0,none⟩)],fun W hW=>(by go_wp2),?_⟩;refine⟨.bool D,fun W hW=>(by
     go_wp2_with fail;refine(hI.out W hW).mono ?_;rintro e w' ⟨rfl,hb'⟩;have hS:=hW.trans (hb'.mono hW.size);go_wp2),?_⟩
    refine⟨.bool D,fun W hW=>(by go_wp2),?_⟩;refine⟨.bool D,fun W hW=>(by go_wp2),?_⟩;intro W6 hW6;simp only[Act.put,sA,sZ,sS];go_wp2;go_ret;exact⟨rfl,hB.trans (hW6.mono hB.size)⟩
set_option maxRecDepth 100000 in
theorem GK(x y Bm:Nat)(A:Option Addr)(c:Nat)(H:List Txn)(R:List aS)(w:World)(h:aC w (Old w) (.slice A H.length c) H)(hn:aD H)(ho:OkS H R)(hm:mQ w Bm A c H.length R)(hx:x<H.length)(hy:y<H.length):
 Calls Tryz.prog 162 #[.pointer (some ⟨Bm,0,none⟩),.int .i64 x,.int .i64 y] w fun e w'=>e= .returned (.bool (jA H R x y))∧Below w.heap.size w w':=by
 have hr:=(aB H).1 ho.right;have h32:=hr.1;obtain⟨W3,hW3⟩:∃W3,(w.alloc (.cells #[.pointer (some ⟨Bm,0,none⟩)] 160)).alloc (.cells #[.int .i64 y] 3)=W3:=⟨_,rfl⟩;have hB:Below w.heap.size w W3:=(by rw[←hW3];exact((Below.refl _ w).alloc (Nat.le_refl _) _).alloc (by simp) _);have kb:Blk W3 w.heap.size 160 #[.pointer (some ⟨Bm,0,none⟩)]:=(by rw[←hW3];exact(Blk.new _ _ _).alloc _);have ky:Blk W3 (w.heap.size+1) 3 #[.int .i64 y]:=by
  rw[←hW3];have:=Blk.new (w.alloc (.cells #[.pointer (some ⟨Bm,0,none⟩)] 160)) 3 #[.int .i64 y];simpa using this
 have cb:=Blk.n0 kb;have cy:=Blk.n0 ky;have hm3:=hm.below hB hm.lt;have ch:=hm3.hd;obtain⟨b,off,Ax,cx1,Arx,crx,rfl,_,d0,d1,d2,hws,hrs⟩:=aC.at_ (h.below hB) hx;have hdef:jA H R x y=(decide (x≠y)&&(aG H x).reads.any fun r=>eB R r.a r.b (y:Int)):=rfl;have hkey:=hide (fun r (hr':r∈H[x].reads)=>(⟨((hr.2 x hx).PZ r hr').1,((hr.2 x hx).PZ r hr').2,(by
  rcases(gT H x r).1 ((hr.2 x hx).there r hr')with e|⟨k,hk,e,-,-⟩<;>omega:r.b<32)⟩:0≤r.a∧r.a<16∧r.b<32))
 have hrl:=(hn.2 _ (List.getElem_mem hx)).2;rw[aJ hx]at hdef;have hx0:(0:Int)≤(x:Int):=Int.natCast_nonneg _;have hx1:(x:Int)<(H.length:Int):=(by omega);clear hws hr;generalize H[x]=tx at*;obtain⟨sx,wx,rx⟩:=tx;dsimp only at*;generalize jA H R x y=D at*;replace hn:=hide hn;replace ho:=hide ho;replace h:=hide h;replace hm:=hide hm;have hT:Hid (Calls Tryz.prog 217 #[.slice Arx rx.length crx,.func (.func 221) #[] #[.pointer (some ⟨w.heap.size,0,none⟩),.pointer (some ⟨w.heap.size+1,0,none⟩)]] W3 fun e w'=>e= .returned (.bool (rx.any fun r=>eB R r.a r.b (y:Int)))∧Below W3.heap.size W3 w'):=hide (
  iI 221 (enters_of Tryz.func221 (by kernel_rfl) rfl) #[.pointer (some ⟨w.heap.size,0,none⟩),.pointer (some ⟨w.heap.size+1,0,none⟩)] (fun r=>eB R r.a r.b (y:Int)) Arx crx rx W3 hrs (by omega) fun W' hb' r hr'=>by
   obtain⟨k0,k1,k2⟩:=hkey.out r hr';obtain⟨ra,rb⟩:=r;dsimp only at*;obtain⟨kn,rfl⟩:∃kn:Nat,ra=kn:=⟨ra.toNat,by omega⟩;exact KI kn rb y w.heap.size (w.heap.size+1) Bm _ c H.length R W' (hm3.below hb' hm3.lt) (by omega) k2 (by omega) ((hb'.cell (p:=⟨w.heap.size,0,none⟩) (block_lt_of_cell cb)).trans cb) ((hb'.cell (p:=⟨w.heap.size+1,0,none⟩) (block_lt_of_cell cy)).trans cy))
 by_cases hxy:x=y
 ·have q1:((x:Int) !=(y:Int))=false:=(by rw[hxy];exact bne_self_eq_false _);have hD:D=false:=(by rw[hdef,decide_eq_false (fun h=>h hxy)];rfl);subst hD;clear hxy hdef hkey hT hrs;go_enter Tryz.func162,Tryz.ntmps162;go_wp2;go_ret;exact⟨rfl,hB⟩
 ·have q1:((x:Int) !=(y:Int))=true:=bne_iff_ne.2 (by omega);have hD:D=rx.any fun r=>eB R r.a r.b (y:Int):=(by rw[hdef,decide_eq_true hxy];rfl);rw[←hD]at hT;clear hxy hdef hkey hrs hD;go_enter Tryz.func162,Tryz.ntmps162;go_wp2_with fail;refine hT.out.mono ?_;rintro e w4 ⟨rfl,hb4⟩;go_wp2;go_ret;exact⟨rfl,hB.trans (hb4.mono hB.size)⟩
def eZ(H:List Txn)(R:List aS)(x k:Nat):List Nat:=((List.range k).map (tX H R x)).flatten
theorem vX(H:List Txn)(R:List aS)(x k:Nat):eZ H R x (k+1)=eZ H R x k++tX H R x k:=by
 unfold eZ;rw[List.range_succ,List.map_append,List.flatten_append];simp
theorem rX(H:List Txn)(R:List aS)(x:Nat):∀k,(eZ H R x k).length≤k*(H.length+1)
 |0=>by simp[eZ]
 |k+1=>by
  rw[vX,List.length_append];have h1:=rX H R x k;have h2:(tX H R x k).length≤H.length+1:=by
   unfold tX;split
   ·rw[List.length_cons];have:=List.length_filter_le (jA H R k) (List.range H.length);rw[List.length_range]at this;omega
   ·simp
  rw[Nat.add_mul];omega
theorem GL(H:List Txn)(R:List aS)(y j:Nat):(List.range (j+1)).filter (jA H R y)=(List.range j).filter (jA H R y)++(if jA H R y j then[j]else[]):=by
 rw[List.range_succ,List.filter_append];congr 1;cases h:jA H R y j<;>simp[h]
set_option maxRecDepth 100000 in
theorem GN(x Bm:Nat)(A:Option Addr)(c:Nat)(H:List Txn)(R:List aS)(w:World)(h:aC w (Old w) (.slice A H.length c) H)(hn:aD H)(ho:OkS H R)(hm:mQ w Bm A c H.length R)(hx:x<H.length):
 Calls Tryz.prog 95 #[.pointer (some ⟨Bm,0,none⟩),.int .i64 x] w (wo w (ay (tY H R x))):=by
 obtain⟨ii,hii,hi1,hi2,hi3⟩:=info_parts gP;have h32:H.length≤32:=((aB H).1 ho.right).1;have ch:=hm.hd;have TQ:=hide (fun W (hb:Below w.heap.size w W) y (hy:y<H.length)=>Cv x y Bm A c H R W (h.below hb) hn ho (hm.below hb hm.lt) hx hy);have TR:=hide (fun W (hb:Below w.heap.size w W) y z (hy:y<H.length) (hz:z<H.length)=>GK y z Bm A c H R W (h.below hb) hn ho (hm.below hb hm.lt) hy hz);have hlen:=hide (fun k (hk:k≤H.length)=>(by
  have h1:=rX H R x k;have h2:=Nat.mul_le_mul hk (show H.length+1≤33 by omega);omega:(eZ H R x k).length≤32*33))
 have hall:Hid (tY H R x=eZ H R x H.length):=hide rfl;have h0:Hid (eZ H R x 0=[]):=hide rfl;have hml:=hm.lt;replace hn:=hide hn;replace ho:=hide ho;replace h:=hide h;replace hm:=hide hm;go_enter Tryz.func95,Tryz.ntmps95;go_wp2_with fail;go_loopw [5,14] (fun s5 s14 wr=>∃k:Nat,k≤H.length∧s14= .int .i64 k∧aU wr w.heap.size s5 (ay (eZ H R x k))∧Below w.heap.size w wr) (fun _ s14 _=>H.length-(intOf s14).toNat);case atStart=>exact⟨0,Nat.zero_le _,by go_num,by rw[h0.out];exact aU.nil _ _,Below.refl _ _⟩
 case round=>
  obtain⟨k,hk,rfl,hown,hb⟩:=hrel;have EU:(0:Int)≤(k:Int):=Int.natCast_nonneg _;by_cases hlt:k<H.length
  ·have EW:(k:Int)<(H.length:Int):=(by omega);have hst:=hide (vX H R x k);have hny:Hid (tX H R x k=if zA H R x k then k::(List.range H.length).filter (jA H R k)else[]):=hide rfl;have hcd:=hide (TQ.out wr hb k hlt);generalize zA H R x k=d at*;have hcnt:=hlen.out k hk;obtain⟨Av,cv,rfl⟩:=hown.form;go_wp2_with fail;refine hcd.out.mono ?_;rintro e w1 ⟨rfl,hb1⟩;have hb2:=hb.trans (hb1.mono hb.size);have hown2:aU w1 w.heap.size _ (ay (eZ H R x k)):=own_below hown hb1 (Nat.le_refl _);clear hcd hown hb1;have hsz1:=hb2.size;cases d with
   |false=>
    have hs2:Hid (eZ H R x (k+1)=eZ H R x k):=hide (by rw[hst.out,hny.out];simp);clear hst hny;go_wp2;go_roundw;case rel=>exact⟨k+1,by omega,by go_num,by rw[hs2.out];exact hown2,hb2⟩
    case measure=>simp[intOf];omega
   |true=>
    have hs2:Hid (eZ H R x (k+1)=eZ H R x k++k::(List.range H.length).filter (jA H R k)):=hide (by rw[hst.out,hny.out];simp);have hlq:=hide (aK (eZ H R x k));have hsn:=hide (fF (eZ H R x k) k);clear hst hny;replace hown2:=hide hown2;have ch1:=(hb2.cell (p:=⟨Bm,0,none⟩) hml).trans ch;obtain⟨N,hN⟩:∃N,eZ H R x k=N:=⟨_,rfl⟩;rw[hN]at hs2 hlq hsn hown2 hcnt;rw[hN];replace hN:=hide hN;go_wp2_with (at_builtin;go_loud (refine bR (enc:=Go.Inq.encI) rfl (.tmp 22) (.tmp 24) 33 rfl w.heap.size 3 ii _ 1 8 Tryz.underlying33 hii hi1 hi2 hi3 rfl (by decide) (.slice Av (ay N).length cv) (ay N) rfl hown2.out (fun _=>rfl) (k:Int) _ rfl rfl Go.Inq.gB (by rw[hlq.out];simp[maxLen];omega) (by rw[hlq.out];omega) hsz1 w w.heap.size (Nat.le_refl _) hb2 ?_);intro v1 w6 hown1 hg1 hb3 qX;have ch6:=(hb3.cell (p:=⟨Bm,0,none⟩) hml).trans ch);have hj0:Hid (ay (N++[k]++(List.range 0).filter (jA H R k))=ay N++[(k:Int)]):=hide (by simp[hsn.out]);clear ch1 ch6 hown2 hb2 hg1 qX;go_loopw [5,32] (fun s5 s32 wq=>∃j:Nat,j≤H.length∧s32= .int .i64 j∧aU wq w.heap.size s5 (ay (N++[k]++(List.range j).filter (jA H R k)))∧Below w.heap.size w wq) (fun _ s32 _=>H.length-(intOf s32).toNat);case atStart=>exact⟨0,Nat.zero_le _,by go_num,by unfold aU;rw[hj0.out];exact hown1,hb3⟩
    case round=>
     clear hown1 hb3;obtain⟨j,hj,rfl,hown,hb⟩:=hrel;have hj1:(0:Int)≤(j:Int):=Int.natCast_nonneg _;by_cases hjl:j<H.length
     ·have hj2:(j:Int)<(H.length:Int):=(by omega);have hst:=hide (GL H R k j);have hco:=hide (TR.out wr hb k j hlt hjl);generalize jA H R k j=d at*;have hfl:((List.range j).filter (jA H R k)).length≤32:=Nat.le_trans (List.length_filter_le _ _) (by simp;omega);have TS:(ay (N++[k]++(List.range j).filter (jA H R k))).length≤2000:=(by rw[aK,List.length_append,List.length_append];simp;omega);have hfull:=hide (fun e:j=H.length=>e);obtain⟨M,hM⟩:∃M,ay (N++[k]++(List.range j).filter (jA H R k))=M:=⟨_,rfl⟩;rw[hM]at hown TS;replace hM:=hide hM;obtain⟨Av2,cv2,rfl⟩:=hown.form;go_wp2_with fail;refine hco.out.mono ?_;rintro e w7 ⟨rfl,hb7⟩;have hb8:=hb.trans (hb7.mono hb.size);have Ii:aU w7 w.heap.size _ M:=own_below hown hb7 (Nat.le_refl _);have hs8:=hb8.size;clear hco hown hb7 hfl;cases d with
      |false=>
       have hs3:Hid ((List.range (j+1)).filter (jA H R k)=(List.range j).filter (jA H R k)):=hide (by rw[hst.out];simp);clear hst;go_wp2;go_roundw;case rel=>exact⟨j+1,by omega,by go_num,by rw[hs3.out,hM.out];exact Ii,hb8⟩
       case measure=>simp[intOf];omega
      |true=>
       have hs3:Hid (ay (N++[k]++(List.range (j+1)).filter (jA H R k))=ay (N++[k]++(List.range j).filter (jA H R k))++[(j:Int)]):=hide (by rw[hst.out,if_pos rfl,←List.append_assoc,fF]);clear hst;replace Ii:=hide Ii;go_wp2_with (at_builtin;go_loud (refine bR (enc:=Go.Inq.encI) rfl (.tmp 39) (.tmp 41) 33 rfl w.heap.size 3 ii _ 1 8 Tryz.underlying33 hii hi1 hi2 hi3 rfl (by decide) (.slice Av2 M.length cv2) M rfl Ii.out (fun _=>rfl) (j:Int) _ rfl rfl Go.Inq.gB (by simp[maxLen];omega) (by omega) hs8 w w.heap.size (Nat.le_refl _) hb8 ?_);intro v9 w9 Eu hg9 hb9 UL);go_roundw;case rel=>exact⟨j+1,by omega,by go_num,by unfold aU;rw[hs3.out,hM.out];exact Eu,hb9⟩
       case measure=>simp[intOf];omega
     ·obtain rfl:j=H.length:=(by omega);have hs3:Hid (eZ H R x (k+1)=N++[k]++(List.range H.length).filter (jA H R k)):=hide (by rw[hs2.out];simp);rw[←hs3.out]at hown;go_wp2;go_roundw;case rel=>exact⟨k+1,by omega,by go_num,hown,hb⟩
      case measure=>simp[intOf];omega
  ·obtain rfl:k=H.length:=(by omega);go_wp2;go_ret;exact⟨_,rfl,by rw[hall.out];exact hown,hb⟩
end Go.Proofs.YtfhnamomiaekdaaGreatDoor
namespace Go.Proofs.YtfhnamomiaekdaaGreatDoor
open Go.RowKit Go.Inq
set_option maxHeartbeats 4000000
def qM(v:Value):Array Value:=#[v]++Array.replicate 512 (.int .i64 0)
theorem yZ(v:Value):(qM v).size=513:=by simp[qM]
theorem Ew(v:Value):(qM v)[0]?=some v:=by simp[qM]
theorem NT(v:Value){i:Nat}(h:i<512):(qM v)[1+i]?=some (.int .i64 0):=by
 unfold qM;rw[Array.getElem?_append_right (by simp)];simp[h]
theorem KJ:Go.Proofs.Tryz.zeroCells164=qM (.slice none 0 0):=by kernel_rfl
theorem NU(v:Value):Go.Proofs.Tryz.zeroCells164.setIfInBounds 0 v=qM v:=by
 rw[KJ];refine Array.ext_getElem? fun i=> ?_;rw[Array.getElem?_setIfInBounds];by_cases e:0=i
 ·subst e;rw[if_pos rfl,if_pos (by rw[yZ];decide),Ew]
 ·rw[if_neg e];unfold qM;rw[Array.getElem?_append_right (by simp;omega),Array.getElem?_append_right (by simp;omega)];simp
def jB(P:Int→Int→Int)(key:Int)(l:List Int):Nat→Int→Int→Int
 |0=>P
 |i+1=>fun κ t=>if κ=key∧t=l.getD i 0 then(i:Int)+1 else jB P key l i κ t
def gQ(R:List aS):Nat→Int→Int→Int
 |0=>fun _ _=>0
 |k+1=>jB (gQ R k) (R.getD k ⟨0,[]⟩).key (R.getD k ⟨0,[]⟩).l (R.getD k ⟨0,[]⟩).l.length
theorem y7{R:List aS}{k:Nat}(h:k<R.length):gQ R (k+1)=jB (gQ R k) R[k].key R[k].l R[k].l.length:=by
 have:R.getD k ⟨0,[]⟩=R[k]:=(by rw[List.getD_eq_getElem?_getD,List.getElem?_eq_getElem h,Option.getD_some]);show jB (gQ R k) (R.getD k ⟨0,[]⟩).key (R.getD k ⟨0,[]⟩).l (R.getD k ⟨0,[]⟩).l.length=_;rw[this]
theorem Bt(P:Int→Int→Int)(key:Int){l:List Int}{i:Nat}(h:i<l.length):jB P key l (i+1)=fun κ t=>if κ=key∧t=l[i]then(i:Int)+1 else jB P key l i κ t:=by
 have:l.getD i 0=l[i]:=(by rw[List.getD_eq_getElem?_getD,List.getElem?_eq_getElem h,Option.getD_some]);show(fun κ t=>if κ=key∧t=l.getD i 0 then(i:Int)+1 else jB P key l i κ t)=_;rw[this]
theorem vY(P:Int→Int→Int)(key:Int){l:List Int}(hd:l.Nodup):∀i,i≤l.length→∀κ t,jB P key l i κ t=if κ=key∧t∈l.take i then(l.idxOf t:Int)+1 else P κ t
 |0,_,κ,t=>by simp[jB]
 |i+1,hi,κ,t=>by
  rw[Bt P key (show i<l.length by omega)];show(if κ=key∧t=l[i]then(i:Int)+1 else jB P key l i κ t)=_;rw[vY P key hd i (by omega) κ t,List.take_succ_eq_append_getElem (show i<l.length by omega)];by_cases hk:κ=key
  ·subst hk;by_cases ht:t=l[i]
   ·subst ht;rw[if_pos ⟨rfl,rfl⟩,if_pos ⟨rfl,List.mem_append.2 (.inr (List.mem_singleton.2 rfl))⟩,List.Nodup.idxOf_getElem hd]
   ·rw[if_neg (fun h=>ht h.2)];by_cases hm:t∈l.take i
    ·rw[if_pos ⟨rfl,hm⟩,if_pos ⟨rfl,List.mem_append.2 (.inl hm)⟩]
    ·rw[if_neg (fun h=>hm h.2),if_neg (fun h=>by
      have h2:=h.2;rw[List.mem_append,List.mem_singleton]at h2;exact h2.elim hm ht)]
  ·rw[if_neg (fun h=>hk h.1),if_neg (fun h=>hk h.1),if_neg (fun h=>hk h.1)]
theorem uj{H:List Txn}{R:List aS}(h:OkS H R)(κ t:Int):∀k,k≤R.length→
 (∀j (hj:j<R.length),j<k→R[j].key=κ→gQ R k κ t=if R[j].l.contains t then(R[j].l.idxOf t:Int)+1 else 0)∧((∀j (hj:j<R.length),j<k→R[j].key≠κ)→gQ R k κ t=0)
 |0,_=>⟨fun j hj hlt=>absurd hlt (by omega),fun _=>rfl⟩
 |k+1,hk=>by
  obtain⟨h1,h2⟩:=uj h κ t k (by omega);have hkl:k<R.length:=(by omega);have hnd:=h.nodup (List.getElem_mem hkl);rw[y7 hkl,vY _ _ hnd _ (Nat.le_refl _),List.take_length];refine⟨fun j hj hlt he=> ?_,fun hno=> ?_⟩
  ·by_cases hjk:j=k
   ·subst hjk;by_cases hm:t∈R[j].l
    ·rw[if_pos ⟨he.symm,hm⟩,if_pos (List.contains_iff_mem.2 hm)]
    ·rw[if_neg (fun g=>hm g.2),if_neg (fun g=>hm (List.contains_iff_mem.1 g))];refine h2 fun i hi hij e=> ?_;have:=h.one (List.getElem_mem hi) (List.getElem_mem hj) (by rw[e,he]);have hp:=mY H;rw[←h.keys,List.pairwise_map,List.pairwise_iff_getElem]at hp;have:=hp i j hi hj hij;omega
   ·have hne:¬(κ=R[k].key∧t∈R[k].l):=fun g=>by
     have hp:=mY H;rw[←h.keys,List.pairwise_map,List.pairwise_iff_getElem]at hp;have:=hp j k hj hkl (by omega);omega
    rw[if_neg hne];exact h1 j hj (by omega) he
  ·rw[if_neg (fun g=>hno k hkl (by omega) g.1.symm)];exact h2 fun j hj hlt=>hno j hj (by omega)
theorem Ey{H:List Txn}{R:List aS}(h:OkS H R)(κ t:Int):gQ R R.length κ t=dn R κ t:=by
 obtain⟨h1,h2⟩:=uj h κ t R.length (Nat.le_refl _);unfold dn;cases hf:R.find? fun r=>decide (r.key=κ)with
 |none=>
  refine h2 fun j hj _ e=> ?_;have:=List.find?_eq_none.1 hf R[j] (List.getElem_mem hj);rw[decide_eq_true_eq]at this;exact this e
 |some r=>
  have g1:=List.find?_some hf;rw[decide_eq_true_eq]at g1;obtain⟨j,hj,rfl⟩:=List.getElem_of_mem (List.mem_of_find?_eq_some hf);exact h1 j hj hj g1
end Go.Proofs.YtfhnamomiaekdaaGreatDoor
