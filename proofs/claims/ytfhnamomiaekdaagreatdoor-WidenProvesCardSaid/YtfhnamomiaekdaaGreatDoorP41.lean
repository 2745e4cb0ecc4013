/-
  Plain words of layer 21: numbers in order; an order's rows, key by key; no program in sight.
-/
import Derived.Shelf.SlSortCmp.Whole1
import Derived.BigQuiet
import Derived.Test.YtfhnamomiaekdaaGreatDoorP33
import Derived.Test.YtfhnamomiaekdaaGreatDoorP35
import Derived.Test.YtfhnamomiaekdaaGreatDoorP27
import Derived.Test.YtfhnamomiaekdaaGreatDoorP26
import Derived.Test.YtfhnamomiaekdaaGreatDoorP11
import Derived.Test.YtfhnamomiaekdaaGreatDoorP02
set_option linter.unusedVariables false
set_option linter.unusedSimpArgs false
namespace Go.Proofs.YtfhnamomiaekdaaGreatDoor
open Go.RowKit Go.Inq
theorem FC{f:Int→Int}:∀{a b:List Int},a.Pairwise (fun x y=>¬f y<f x)→b.Pairwise (fun x y=>¬f y<f x)→(∀x∈a,∀y∈a,f x=f y→x=y)→a.Perm b→a=b
 |[],b,_,_,_,h=>by rw[h.nil_eq]
 |x::a,[],_,_,_,h=>by have:=h.length_eq;simp at this
 |x::a,y::b,ha,hb,hf,h=>by
  rw[List.pairwise_cons]at ha hb;have hx:x∈y::b:=h.mem_iff.1 (by simp);have hy:y∈x::a:=h.mem_iff.2 (by simp);have hxy:x=y:=by
   have hx':=hx;have hy':=hy;rw[List.mem_cons]at hx hy;rcases hx with rfl|hx
   ·rfl
   ·rcases hy with rfl|hy
    ·rfl
    ·have h1:=hb.1 x hx;have h2:=ha.1 y hy;exact hf x (by simp) y hy' (by omega)
  subst hxy;rw[FC ha.2 hb.2 (fun u hu v hv e=>hf u (by simp[hu]) v (by simp[hv]) e) ((List.perm_cons x).1 h)]
theorem LD{π:List Int}{n:Nat}(hp:aT π n=true):π.Pairwise fun x y=>¬bJ π y<bJ π x:=by
 rw[List.pairwise_iff_getElem];intro i j hi hj hij;rw[dS (List.getElem_mem hj),dS (List.getElem_mem hi),ni hp hi,ni hp hj];omega
theorem Cm{H:List Txn}{π l:List Int}{k:Int}(hp:aT π H.length=true)(h1:l.Perm (aO (bg H k)))(h2:l.Pairwise fun x y=>bJ π x≤bJ π y):l=(vE H π k).l:=by
 replace h2:l.Pairwise fun x y=>¬bJ π y<bJ π x:=h2.imp fun h=>(by omega);have hpm:=h1.trans (yB hp k).symm;refine FC h2 ((LD hp).sublist List.filter_sublist) (fun x hx y hy e=> ?_) hpm;have gx:=(List.mem_filter.1 (hpm.mem_iff.1 hx)).1;have gy:=(List.mem_filter.1 (hpm.mem_iff.1 hy)).1;rw[dS gx,dS gy]at e;have e1:=List.getElem_idxOf (List.idxOf_lt_length_of_mem gx);have e2:=List.getElem_idxOf (List.idxOf_lt_length_of_mem gy);have:π[π.idxOf x]'(List.idxOf_lt_length_of_mem gx)=π[π.idxOf y]'(List.idxOf_lt_length_of_mem gy):=(by simp only[show π.idxOf x=π.idxOf y by omega]);rw[e1,e2]at this;exact this
theorem EI{π:List Int}{n:Nat}(hn:π.length=n):aT π n=decide (nA π=iX (List.range n)):=by
 rw[Bool.eq_iff_iff,decide_eq_true_eq];constructor
 ·intro hp;refine rH (vF _) (yu List.pairwise_lt_range) ((lM π).trans ?_);refine(List.perm_ext_iff_of_nodup (vv hp) (oZ List.pairwise_lt_range)).2 fun x=> ?_;rw[nC];constructor
  ·intro hx;obtain⟨i,hi,e⟩:=List.getElem_of_mem hx;have:=iV hp hi;exact⟨x.toNat,List.mem_range.2 (by omega),by omega⟩
  ·rintro⟨m,hm,rfl⟩;exact kJ hp (List.mem_range.1 hm)
 ·intro he;have hp:π.Perm (iX (List.range n)):=(by rw[←he];exact(lM π).symm);unfold aT;rw[decide_eq_true hn,Bool.true_and,List.all_eq_true];intro i hi;exact List.contains_iff_mem.2 (hp.mem_iff.2 (nC.2 ⟨i,hi,rfl⟩))
theorem LG{Q:List Int}{n k:Nat}(h:Q=iX (List.range n))(hk:k<Q.length):Q[k]=(k:Int):=by
 subst h;simp[iX]
theorem KM{Q:List Int}(h:∀k (hk:k<Q.length),Q[k]=(k:Int)):Q=iX (List.range Q.length):=by
 refine List.ext_getElem (by simp[iX]) fun i h1 h2=> ?_;rw[h i h1];simp[iX]
def iw(H:List Txn)(π:List Int)(k:Nat):List aP:=(fA H k).map (vE H π)
theorem Cn{H:List Txn}{π:List Int}{k:Nat}(h:bg H (k:Int)=[]):iw H π (k+1)=iw H π k:=by unfold iw;rw[sH h]
theorem Co{H:List Txn}{π:List Int}{k:Nat}(h:bg H (k:Int)≠[]):iw H π (k+1)=iw H π k++[vE H π (k:Int)]:=by unfold iw;rw[nE h,List.map_append];rfl
theorem EJ(H:List Txn)(π:List Int)(k:Nat):(iw H π k).length≤k:=by unfold iw;rw[List.length_map];exact Es H k
theorem EK{H:List Txn}{π:List Int}(hr:ay H=true)(hp:aT π H.length=true):iw H π 16=fE H π:=by unfold iw fE;rw[if_pos ⟨hr,hp⟩,lT hr]
theorem KN{H:List Txn}{π:List Int}(h:ay H=false∨aT π H.length=false):fE H π=[]:=by
 unfold fE;rw[if_neg];rintro⟨h1,h2⟩;rcases h with h|h
 ·rw[h]at h1;cases h1
 ·rw[h]at h2;cases h2
theorem Iw{π:List Int}{n:Nat}(h:π.length≠n):aT π n=false:=by unfold aT;rw[decide_eq_false h,Bool.false_and]
end Go.Proofs.YtfhnamomiaekdaaGreatDoor
namespace Go.Proofs.YtfhnamomiaekdaaGreatDoor
open Go.RowKit Go.Inq
set_option maxHeartbeats 4000000
attribute [local go_sem↓] Go.wp_at_zero Go.wp_at_succ
theorem LH(x y:Int)(w:World):Calls Tryz.prog 154 #[.int .i64 x,.int .i64 y] w fun e w'=>e= .returned (.int .i64 (Lib.compareInt x y))∧w'=w:=Go.Proofs.Tryz.cmp_Compare_int x y w
theorem Iy(x y:Int)(Bo:Nat)(Ao:Option Addr)(co:Nat)(π:List Int)(K:Nat→Prop)(W:World)(hc:W.cell? ⟨Bo,0,none⟩=some (.slice Ao π.length co))(hπ:aB W K (.slice Ao π.length co) π)(hn:π.length≤1000000):
 Calls Tryz.prog 153 #[.int .i64 x,.int .i64 y,.pointer (some ⟨Bo,0,none⟩)] W fun e w'=>e= .returned (.int .i64 (Lib.compareInt (bJ π x) (bJ π y)))∧∃q,w'=W.drewN q:=by
 have hca:=hide (fun W' z (hq:aB W' K (.slice Ao π.length co) π)=>(qQ Ao co π z K W' hq (by unfold maxLen;omega)).mono fun _ _ h=>(⟨h.1,h.2.symm⟩:_∧_));have hcc:=hide (fun W'=>LH (bJ π x) (bJ π y) W');replace hπ:=hide hπ;go_enter Tryz.func153,Tryz.ntmps153;go_wp2_with fail;go_quiet ((first|(go_at_call 91;exact Calls.quiet_of_same (hca.out _ _ (hπ.out.keep (Agree.drewN _ _ _) (fun _ h=>h))))|(go_at_call 154;exact Calls.quiet_of_same (hcc.out _))));go_wp2;go_ret;exact⟨rfl,_,rfl⟩
theorem permIn_all{d d':Array Int}(h:Go.Sort.PermIn 0 d.size d d'):d'.toList.Perm d.toList:=by
 obtain⟨hs,_,hp⟩:=h;rw[Array.extract_size,←hs,Array.extract_size]at hp;exact hp
theorem Cq{lt:Int→Int→Bool}{d:Array Int}(h:Go.Sort.SortedIn lt 0 d.size d):d.toList.Pairwise fun x y=>lt y x=false:=by
 rw[List.pairwise_iff_getElem];intro i j hi hj hij;have hj':j<d.size:=(by simpa using hj);have hi':i<d.size:=(by omega);have:=h i j (Nat.zero_le _) hij hj';rw[getElem!_pos d j hj',getElem!_pos d i hi']at this;exact this
theorem LJ(f:Int→Int):Go.Sort.SWO (Go.Proofs.ltOf fun x y=>Lib.compareInt (f x) (f y)):=by
 have hl:∀x y,Go.Proofs.ltOf (fun x y=>Lib.compareInt (f x) (f y)) x y=decide (f x<f y):=fun x y=>by
  unfold Go.Proofs.ltOf Lib.compareInt;by_cases h1:f x<f y
  ·simp[h1]
  ·by_cases h2:f y<f x<;>simp[h1,h2]
 exact⟨fun x=>by rw[hl];simp,fun x y z h1 h2=>by rw[hl]at*;simp at*;omega,fun x y z h1 h2=>by rw[hl]at*;simp at*;omega⟩
theorem Np(f:Int→Int)(x y:Int):Go.Proofs.ltOf (fun x y=>Lib.compareInt (f x) (f y)) x y=decide (f x<f y):=by
 unfold Go.Proofs.ltOf Lib.compareInt;by_cases h1:f x<f y
 ·simp[h1]
 ·by_cases h2:f y<f x<;>simp[h1,h2]
theorem Iz (base:Nat) (A:Option Addr) (c:Nat) (l:List Int) (Bo:Nat) (Ao:Option Addr) (co:Nat) (π:List Int) (w:World) (h:bE w base (.slice A l.length c) l) (hl:l.length<4611686018427387904)
 (hBo:Bo<base) (hc:w.cell? ⟨Bo,0,none⟩=some (.slice Ao π.length co)) (hπ:aB w (fun b=>b<base) (.slice Ao π.length co) π) (hn:π.length≤1000000):
 Calls Tryz.prog 152 #[.slice A l.length c,.func (.func 153) #[] #[.pointer (some ⟨Bo,0,none⟩)]] w fun e w'=>e= .returned (.tuple #[])∧
  (∃l',l'.Perm l∧l'.Pairwise (fun x y=>bJ π x≤bJ π y)∧bE w' base (.slice A l.length c) l')∧Below base w w':=by
 unfold bE at h;rw[nJ]at h;by_cases hv:(Value.slice A l.length c)= .slice none 0 0
 ·injection hv with h1 h2 h3
  subst h1 h3;have:l=[]:=List.eq_nil_of_length_eq_zero h2;subst this;refine(Go.Proofs.Tryz.slices_SortFunc_none (α:=Int) none 0 _ w).mono ?_;rintro e w' ⟨rfl,rfl⟩;exact⟨rfl,⟨[],List.Perm.refl _,List.Pairwise.nil,World.ownsRow_nil _ _ _ _⟩,Below.refl _ _⟩
 ·obtain⟨g,cap,hv',hbg,hgl,hnn,hm,_,hH⟩:=Go.Lib.holds_of_ownsRow h hv;injection hv' with h1 h2 h3
  subst h1 h3;have hW:∀(n:Nat) (d':Array Int) (os:Array Obj),Below base w (sortWorld (Value.int .i64) w g 0 n d' os):=fun n d' os=>by
   unfold sortWorld;have hb2:=Go.Lib.below_putRow (enc:=Value.int .i64) (q:=n) (d:=d') (Below.refl base w) hbg;exact hb2.trans ((below_grow _ os).mono (by have:=hb2.size;exact Nat.le_trans (by omega) this))
  have hcmp:CmpLays1 Tryz.prog 153 #[.pointer (some ⟨Bo,0,none⟩)] (Value.int .i64) (fun x y=>Lib.compareInt (bJ π x) (bJ π y)) g 0 l.toArray.size w:=fun m os dk _ x y=>by
   have hb:=hW m dk os;refine(Iy x y Bo Ao co π (fun b=>b<base) _ ((hb.cell (p:=⟨Bo,0,none⟩) hBo).trans hc) (aB.keep hπ (Agree.below hb fun b h=>h) (fun b h=>h)) hn).mono ?_;rintro e w' ⟨he,q,hq⟩;exact⟨he,q,#[],by rw[hq,Go.Sort.grow_empty]⟩
  refine(Go.Proofs.Tryz.slices_SortFunc (Value.int .i64) (fun _=>rfl) (fun x y=>Lib.compareInt (bJ π x) (bJ π y)) (LJ (bJ π)) 153 #[.pointer (some ⟨Bo,0,none⟩)] g 0 c l.toArray w (enters_of Tryz.func153 (by kernel_rfl) rfl) hcmp hH hgl (by simpa using hl)).mono ?_;rintro e w' ⟨rfl,d',n,os,hp,hs,rfl⟩;have hp2:=permIn_all hp;have hsz:d'.size=l.toArray.size:=hp.1;have hsz2:d'.toList.length=l.length:=(by simpa using hsz);have hs2:=Cq (by rw[hsz];exact hs);have hr:=Go.Lib.ownsRow_putRow (q:=n) (k:=l.length) h hsz2 (Nat.le_refl _);rw[List.take_of_length_le (by rw[hsz2];exact Nat.le_refl _)]at hr;have hbw:=hW n d' os;refine⟨rfl,⟨d'.toList,by simpa using hp2,hs2.imp fun hlt=> ?_,?_⟩,hbw⟩
  ·rw[Np]at hlt;have:=of_decide_eq_false hlt;omega
  ·unfold bE;rw[nJ,hsz2];have hz:=(hr.lt g rfl).2;unfold sortWorld;have:=own_below hr (below_grow _ os) (Nat.le_refl _);simpa using this
theorem iN.one:∀(w:World) (K:Nat→Prop) (cs:List Value) (x:aP),iN w K cs x→∀u∈cs,u.oneCell'=true:=by
 rintro w K cs x ⟨A,c,rfl,_⟩ u hu;simp at hu;rcases hu with rfl|rfl<;>rfl
theorem LK:(Tryz.prog.info? 72).map (fun i=>(i.zero,i.size,i.bytes))=some (some (.agg #[.int .i64 0,.slice none 0 0]),2,32):=by kernel_rfl
def nY(w:World)(base:Nat)(v:Value)(l:List aP):Prop:=bA 2 iN w (TyK base [3] w) base 72 v l
def Qv(w:World)(l:List aP)(e:Ending)(w':World):Prop:=∃v,e= .returned v∧nY w' w.heap.size v l∧Below w.heap.size w w'
theorem nY.nil(w:World)(base:Nat):nY w base (.slice none 0 0) []:=bA.nil _ _ _ _ _ _
theorem nY.form{w:World}{base:Nat}{v:Value}{l:List aP}(h:nY w base v l):∃A c,v= .slice A l.length c:=bA.form h
theorem nY.below{w w':World}{base B:Nat}{v:Value}{l:List aP}(h:nY w base v l)(hb:Below B w w')(hB:w.heap.size≤B):nY w' base v l:=bA.Kq iN.bf h hb hB
set_option maxRecDepth 100000 in
theorem IB(A:Option Addr)(c:Nat)(H:List Txn)(Ap:Option Addr)(cp:Nat)(π:List Int)(w:World)(h:aA w (Old w) (.slice A H.length c) H)(hn:aG H)(hπ:aB w (Old w) (.slice Ap π.length cp) π)(hpl:π.length≤1000000):
 Calls Tryz.prog 87 #[.agg #[.slice A H.length c],.slice Ap π.length cp] w (Qv w (fE H π)):=by
 obtain⟨is,his,hq1,hq2,hq3⟩:=info_parts LK;obtain⟨W0,hW0⟩:∃W0,(w.alloc (.cells #[.slice A H.length c] 24)).alloc (.cells #[.slice Ap π.length cp] 33)=W0:=⟨_,rfl⟩;have hB:Below w.heap.size w W0:=(by rw[←hW0];exact((Below.refl _ w).alloc (Nat.le_refl _) _).alloc (by simp) _);have k0:Blk W0 w.heap.size 24 #[.slice A H.length c]:=(by rw[←hW0];exact(Blk.new _ _ _).alloc _);have kO:Blk W0 (w.heap.size+1) 33 #[.slice Ap π.length cp]:=by
  rw[←hW0];have:=Blk.new (w.alloc (.cells #[.slice A H.length c] 24)) 33 #[.slice Ap π.length cp];simpa using this
 have hs0:W0.heap.size=w.heap.size+2:=(by rw[←hW0];simp);have hπ0:=hide (hπ.below hB);have hbad:=hide (fun e=>KN (H:=H) (π:=π) e);have Ir:=hide (fun(e:π.length≠H.length)=>Iw e);have hps:=hide (fun(e:π.length=H.length)=>EI (π:=π) e);have hall:=hide (fun(e1:ay H=true) (e2:aT π H.length=true)=>EK e1 e2);have hrs:=hide (fun(e2:aT π H.length=true) (k:Int) (l:List Int)=>Cm (H:=H) (l:=l) (k:=k) e2);replace hπ:=hide hπ;replace hn:=hide hn;replace h:=hide h;replace hs0:=hide hs0;have c0:=Blk.n0 kO;go_enter Tryz.func87,Tryz.ntmps87;go_wp2_with fail;refine(sM Ap π.length cp _).mono ?_;rintro e w3 ⟨rfl,rfl⟩;obtain⟨W1,hW1⟩:∃W1,W0.alloc (.cells #[.slice Ap π.length cp] 33)=W1:=⟨_,rfl⟩;have hB1:=ah (Below.refl W0.heap.size W0) hW1 (Nat.le_refl _);have kv:=Blk.newEq hW1;have k1:=k0.av hW1;have kO1:=kO.av hW1;have hπ1:=hπ0.out.below hB1;have hb:=hB.trans (hB1.mono hB.size);have cv:=Blk.n0 kv;rw[hs0.out]at cv;rw[hW1];clear hW1 hW0 c0 kv k0 kO hB hB1 hπ0;simp only[hs0.out];go_wp2_with fail;refine(sN Ap (w.heap.size+2) cp π hpl W1 cv hπ1).mono ?_;rintro e w4 ⟨v4,rfl,ho4,hb4⟩;have hsl:(π.mergeSort fun x y=>decide (x≤y)).length=π.length:=List.length_mergeSort π;have hrw:=hide (show nA π=(π.mergeSort fun x y=>decide (x≤y)) from rfl);rw[hrw.out]at hps;generalize(π.mergeSort fun x y=>decide (x≤y))=Q at*;obtain⟨A4,c4,rfl⟩:=ho4.form;have hQ:=hide (ho4.sl (K:=Old w4) (fun g h1 h2=>h2));have hb5:=hb.trans (hb4.mono hb.size);have k5:=k1.below hb4 k1.lt;have kO5:=kO1.below hb4 kO1.lt;have hT5:=hide (h.out.below hb5);have c0:=Blk.n0 k5;replace hsl:=hide hsl;clear cv k1 kO1 hb hb4 ho4 hπ1 hrw hs0;go_wp2_with fail;clear c0;refine(dn A c H _ hT5.out hn.out).mono ?_;rintro e w6 ⟨rfl,hb6⟩;have hb7:=hb5.trans (hb6.mono hb5.size);have k7:=k5.below hb6 k5.lt;have kO7:=kO5.below hb6 kO5.lt;have hQ7:=hide (hQ.out.below hb6);clear hb5 hb6 k5 kO5 hQ hT5;cases hr:ay H with
 |false=>
  have hx:=hide (hbad.out (.inl hr));clear hr hbad Ir hps hall hrs;go_wp2;go_ret;exact⟨_,rfl,by rw[hx.out];exact nY.nil _ _,hb7⟩
 |true=>
  replace hall:=hide (hall.out hr);have hr':=hide hr;clear hr;have c0:=Blk.n0 k7;have cO:=Blk.n0 kO7;by_cases hlen:π.length=H.length
  ·have hz1:((π.length:Int) !=(H.length:Int))=false:=(by rw[hlen];exact bne_self_eq_false _);have hsl2:Q.length=H.length:=hsl.out.trans hlen;replace hps:=hide (hps.out hlen);have hsa:=hide (fun k (hk:k<Q.length) (e:Q=iX (List.range H.length))=>LG e hk);have hse:=hide (fun(e:∀k (hk:k<Q.length),Q[k]=(k:Int))=>(by have:=KM e;rw[hsl2]at this;exact this:Q=iX (List.range H.length)));have Ry:Q.length≤1000000000:=(by have:=hsl.out;omega);clear Ir hsl;replace hlen:=hide hlen;replace hsl2:=hide hsl2;have OU:π.length=Q.length:=(by rw[hlen.out,hsl2.out]);replace OU:=hide OU;go_wp2_with fail;clear c0 cO;go_loopw [27] (fun s27 wr=>∃k:Nat,k≤Q.length∧s27= .int .i64 k∧Hid (∀j (hj:j<Q.length),j<k→Q[j]=(j:Int))∧Below w.heap.size w wr∧Blk wr w.heap.size 24 #[.slice A H.length c]∧Blk wr (w.heap.size+1) 33 #[.slice Ap π.length cp]∧aB wr (Old wr) (.slice A4 Q.length c4) Q) (fun s27 _=>Q.length-(intOf s27).toNat);case atStart=>exact⟨0,Nat.zero_le _,by go_num,hide (fun j hj h=>absurd h (by omega)),hb7,k7,kO7,hQ7.out⟩
   case round=>
    clear hb7 k7 kO7 hQ7;obtain⟨k,hk,rfl,hj,hb,k7,kO7,hQ⟩:=hrel;have hk1:(0:Int)≤(k:Int):=Int.natCast_nonneg _;by_cases hlt:k<Q.length
    ·have hi2:(k:Int)<(Q.length:Int):=(by omega);obtain⟨b,off,rfl,_,d0⟩:=hQ.at_ hlt;have hne:=hide (hsa.out k hlt);have hst:=hide (fun(e:Q[k]=(k:Int)) j (hj2:j<Q.length) (hjk:j<k+1)=>(by
      by_cases g:j=k
      ·subst g;exact e
      ·exact hj.out j hj2 (by omega):Q[j]=(j:Int)))
     replace hQ:=hide hQ;generalize Q[k]=q at*;by_cases hq:q=(k:Int)
     ·have hz2:((k:Int) !=q)=false:=(by rw[hq];exact bne_self_eq_false _);have hj2:=hide (hst.out hq);clear hq hst hne hj;go_wp2;go_roundw;case rel=>exact⟨k+1,by omega,by go_num,hj2,hb,k7,kO7,hQ.out⟩
      case measure=>simp[intOf];omega
     ·have hz2:((k:Int) !=q)=true:=bne_iff_ne.2 (fun e=>hq e.symm);have hx:=hide (hbad.out (.inr (by rw[hps.out];exact decide_eq_false fun e=>hq (hne.out e))));clear hq hst hne hj;go_wp2;go_ret;exact⟨_,rfl,by rw[hx.out];exact nY.nil _ _,hb⟩
    ·obtain rfl:k=Q.length:=(by omega);have hp:aT π H.length=true:=(by rw[hps.out];exact decide_eq_true (hse.out fun j hj2=>hj.out j hj2 hj2));have hax:=hide (hall.out hp);replace hrs:=hide (hrs.out hp);have hR0:Hid (iw H π 0=[]):=hide rfl;have hrl:=hide (EJ H π);clear hp hj hps hsa hse hbad hall hQ;go_wp2_with fail;go_loopw [8,36] (fun s8 s36 wr=>∃k:Nat,k≤16∧s36= .int .i64 k∧nY wr w.heap.size s8 (iw H π k)∧Below w.heap.size w wr∧Blk wr w.heap.size 24 #[.slice A H.length c]∧Blk wr (w.heap.size+1) 33 #[.slice Ap π.length cp]∧w.heap.size+2≤wr.heap.size) (fun _ s36 _=>16-(intOf s36).toNat);case atStart=>exact⟨0,Nat.zero_le _,by go_num,by rw[hR0.out];exact nY.nil _ _,hb,k7,kO7,kO7.lt⟩
     case round=>
      clear hb k7 kO7;obtain⟨Wo,rfl⟩:∃Wo,Wo=wr:=⟨_,rfl⟩;obtain⟨k,hk,rfl,hown,hb,k7,kO7,hsz⟩:=hrel;have hk1:(0:Int)≤(k:Int):=Int.natCast_nonneg _;have c0:=Blk.n0 k7;obtain⟨Av,cv,rfl⟩:=hown.form;by_cases hlt:k<16
      ·have hi2:(k:Int)<16:=(by omega);go_wp2_with fail;clear c0;refine(qM A c H k _ (h.out.below hb) hn.out).mono ?_;rintro e wl ⟨vl,rfl,hLO,hbl⟩;have vV:=hide (fun e=>Cn (H:=H) (π:=π) (k:=k) e);have hnext:=hide (fun e=>Co (H:=H) (π:=π) (k:=k) e);have hrow:=hide (fun l=>hrs.out (k:Int) l);have hLn:=mH H k;have h32:H.length≤1000000:=hn.out.1;have hWe:=hide (fun(e:(aO (bg H (k:Int))).length=0)=>(by rw[aI]at e;exact List.eq_nil_of_length_eq_zero e:bg H (k:Int)=[]));have hWn:=hide (fun(e:(aO (bg H (k:Int))).length≠0)=>(by rintro e';rw[aI,e']at e;exact e rfl:bg H (k:Int)≠[]));have hLl:(aO (bg H (k:Int))).length≤1000000:=(by rw[aI];omega);have hcnt:=hrl.out k;clear hLn;replace h32:=hide h32;generalize aO (bg H (k:Int))=L at*;obtain⟨Al,cl,rfl⟩:=hLO.form;have hb2:=hb.trans (hbl.mono hb.size);have k8:=k7.below hbl k7.lt;have kO8:=kO7.below hbl kO7.lt;have hown2:=hown.below hbl (Nat.le_refl _);have KU:=hbl.size;replace hbl:=hide hbl;replace hown:=hide hown;clear hb k7 kO7;by_cases hL0:L.length=0
       ·have hz1:((L.length:Int)==0)=true:=(by rw[hL0];rfl);have hsk:=hide (vV.out (hWe.out hL0));clear hL0 vV hnext hrow hWe hWn hLO hown hbl;go_wp2;go_roundw;case rel=>exact⟨k+1,by omega,by go_num,by rw[hsk.out];exact hown2,hb2,k8,kO8,by omega⟩
        case measure=>simp[intOf];omega
       ·have hz1:((L.length:Int)==0)=false:=by
         rw[beq_eq_false_iff_ne];omega
        replace hnext:=hide (hnext.out (hWn.out hL0));have cO:=Blk.n0 kO8;have hπ8:aB wl (fun b=>b<Wo.heap.size) (.slice Ap π.length cp) π:=aB.keep hπ.out (Agree.below hb2 fun b h=>h) (fun b h=>Nat.lt_of_lt_of_le (show b<_ from h) (by omega));clear hL0 vV hWe hWn;replace hLO:=hide hLO;go_wp2_with fail;refine(Iz Wo.heap.size Al cl L (w.heap.size+1) Ap cp π wl hLO.out (by omega) (by omega) cO hπ8 hpl).mono ?_;rintro e w9 ⟨rfl,⟨M,hM1,hM2,hM3⟩,hb9⟩;have hML:=hM1.length_eq;have hMr:=hide (hrow.out M hM1 hM2);have oV:=hb2.trans (hb9.mono (by omega));have k10:=k8.below hb9 (by omega);have OV:=kO8.below hb9 (by omega);have hs9:=hb9.size;rw[←hML]at hM3;have hMS:aB w9 (TyK w.heap.size [3] w9) (.slice Al M.length cl) M:=Fj (nT hM3 (by omega)) (fun _=>rfl) (by simp);have Ce:=nY.below hown.out (hbl.out.trans hb9) (Nat.le_refl _);have hrw:iN w9 (TyK w.heap.size [3] w9) [.int .i64 k,.slice Al M.length cl] ⟨(k:Int),M⟩:=⟨Al,cl,rfl,hMS⟩;have hM4:(vE H π (k:Int))=⟨(k:Int),M⟩:=(by rw[hMr.out];rfl);rw[hM4]at hnext;rw[←hML];replace hML:=hide hML;replace hM4:=hide hM4;generalize iw H π k=D at*;replace Ce:=hide Ce;replace hrw:=hide hrw;clear hM1 hM2 hM3 hMS hown2 hown hbl hb9 hb2 k8 kO8 cO hπ8 hLO;go_wp2_with (at_builtin;go_loud (refine zw iN.bf iN.one rfl (.tmp 48) (.tmp 52) 69 rfl w.heap.size 72 is _ 2 32 Tryz.underlying69 his hq1 hq2 hq3 rfl (by decide) [3] (by decide) (.slice Av D.length cv) D rfl Ce.out _ (⟨(k:Int),M⟩:aP) rfl hrw.out rfl (by unfold maxLen;omega) (by omega) (by omega) w w.heap.size (Nat.le_refl _) oV ?_);intro v1 w6 hown1 Rz hb1 l5 Nq);go_roundw;case rel=>exact⟨k+1,by omega,by go_num,by rw[hnext.out];exact hown1,hb1,Nq _ _ _ k10 (by decide),Nq _ _ _ OV (by decide),(Nq _ _ _ OV (by decide)).lt⟩
        case measure=>simp[intOf];omega
      ·obtain rfl:k=16:=(by omega);go_wp2;go_ret;exact⟨_,rfl,by rw[←hax.out];exact hown,hb⟩
  ·have hz1:((π.length:Int) !=(H.length:Int))=true:=bne_iff_ne.2 (by omega);have hx:=hide (hbad.out (.inr (Ir.out hlen)));clear hlen hbad Ir hps hall hrs;go_wp2;go_ret;exact⟨_,rfl,by rw[hx.out];exact nY.nil _ _,hb7⟩
theorem OW(w:World)(A:Option Addr)(n c:Nat):(Go.binOp .eql 33 (.slice A n c) (.slice none 0 0)).run Tryz.prog w= .ok (.bool A.isNone) w:=Lib.run_eql_slice_nil w 33 3 A n c 0 0 Tryz.underlying33
attribute [local go_sem] OW
set_option maxRecDepth 100000 in
theorem EL(A:Option Addr)(c:Nat)(l:List Int)(K:Nat→Prop)(w:World)(hK:∀b,K b→b<w.heap.size)(h:aB w K (.slice A l.length c) l)(hl:l.length≤1000000000):
 Calls Tryz.prog 107 #[.slice A l.length c] w (uj w l):=by
 obtain⟨ii,hii,hi1,hi2,hi3⟩:=info_parts dO;replace h:=hide h;cases A with
 |none=>
  have hz:l=[]:=by
   rcases Nat.lt_or_ge 0 l.length with g|g
   ·obtain⟨b,off,hA,_⟩:=h.out.at_ g;cases hA
   ·exact List.eq_nil_of_length_eq_zero (by omega)
  subst hz;go_enter Tryz.func107,Tryz.ntmps107;go_wp2;exact bodyPost_ret (v:= .slice none 0 0) (by simp[results,Tryz.results107,go_sem]) rfl ⟨_,rfl,bE.nil _ _,Below.refl _ _⟩
 |some ad=>
  obtain⟨W0,hW0⟩:∃W0,w.alloc (.cells #[] 3)=W0:=⟨_,rfl⟩;have hB:=ah (Below.refl w.heap.size w) hW0 (Nat.le_refl _);have k0:=Blk.newEq hW0;have hS:=hide (h.out.keep (Agree.below hB hK) (fun _ h=>h));have hown:bE W0 w.heap.size (.slice (some ⟨w.heap.size,0,none⟩) 0 0) []:=⟨rfl,.inr ⟨w.heap.size,0,#[],rfl,Nat.le_refl _,k0,Nat.le_refl _,Nat.zero_le _,rfl,rfl⟩⟩;clear k0;go_enter Tryz.func107,Tryz.ntmps107;go_wp2_with (at_builtin;go_loud (refine cB (enc:=Go.Inq.encI) rfl (.tmp 5) (.tmp 6) 33 rfl w.heap.size 3 ii _ 1 8 Tryz.underlying33 hii hi1 hi2 hi3 rfl (by decide) (.slice (some ⟨w.heap.size,0,none⟩) 0 0) K [] rfl hown (fun _=>rfl) (.slice (some ad) l.length c) l rfl hS.out Go.Inq.eG (by rw[List.length_nil];unfold maxLen;omega) (by rw[List.length_nil];omega) hB.size ?_);intro v1 w1 hown1 hg1 hv1);go_ret;exact⟨_,rfl,hown1,below_grown hB hg1 hB.size (fun k hk=>by simp[Value.ownBlock]at hk;omega)⟩
end Go.Proofs.YtfhnamomiaekdaaGreatDoor
namespace Go.Inq
open Go
section
variable{ops:Array Oper}
def EM(ms:List Nat)(i j:Nat):Bool:=(ms.getD i 0).testBit j
def FD(ops:Array Oper)(ms:List Nat):Bool:=(List.range ops.size).all fun n=>(List.range n).all fun i=> !EM ms n i||(match ops[n]? with
 |some o=>o.after.any fun e=>Region.binds .any e&&(decide (e.on<n)&&(e.on==i||(decide (i<e.on)&&EM ms e.on i)))
 |none=>false)
theorem jA{md:Region.Mode}:∀{f f' j i:Nat},aU md ops f j i=true→f≤f'→aU md ops f' j i=true
 |0,_,_,_,h,_=>by simp[aU]at h
 |f+1,0,_,_,_,hf=>by omega
 |f+1,f'+1,j,i,h,hf=>by
  unfold aU at h⊢;cases ho:ops[j]? with
  |none=>rw[ho]at h;exact h
  |some o=>
   rw[ho]at h;dsimp only at h⊢;rw[←Array.any_toList,List.any_eq_true]at h⊢;obtain⟨e,he,h2⟩:=h;refine⟨e,he,?_⟩;rw[Bool.and_eq_true,Bool.or_eq_true]at h2⊢;exact⟨h2.1,h2.2.imp id fun g=>jA g (by omega)⟩
theorem vW{ms:List Nat}(h:FD ops ms=true):∀(n:Nat),n<ops.size→∀i,i<n→EM ms n i=true→aU .any ops (n+1) n i=true:=by
 intro n
 induction n using Nat.strongRecOn with
 |ind n ih=>
  intro hn i hi hm;unfold FD at h;have h1:=List.all_eq_true.1 (List.all_eq_true.1 h n (List.mem_range.2 hn)) i (List.mem_range.2 hi);rw[hm]at h1;unfold aU;cases ho:ops[n]? with
  |none=>rw[ho]at h1;simp at h1
  |some o=>
   rw[ho]at h1;dsimp only at h1⊢;simp only[Bool.not_true,Bool.false_or]at h1;rw[←Array.any_toList,List.any_eq_true]at h1⊢;obtain⟨e,he,h2⟩:=h1;refine⟨e,he,?_⟩;rw[Bool.and_eq_true,Bool.and_eq_true,decide_eq_true_eq,Bool.or_eq_true,Bool.and_eq_true,decide_eq_true_eq]at h2;rw[Bool.and_eq_true,Bool.or_eq_true];refine⟨h2.1,h2.2.2.imp id fun g=> ?_⟩;exact jA (ih e.on h2.2.1 (by omega) i g.1 g.2) (by omega)
def qN(ops:Array Oper)(ms:List Nat):Bool:=FD ops ms&&(Region.noSelect ops&&(List.range ops.size).all fun i=>match ops[i]? with
 |none=>true
 |some o=>(o.after.all fun e=> !Region.binds .any e||decide (e.on<i))&&
  (List.range ops.size).all fun j=>match ops[j]? with
   |none=>true
   |some oj=>match oj.dst with
    |none=>true
    |some t=>(i==j||o.dst !=some t)&&(!(gJ ops o).contains t||(decide (j<i)&&EM ms i j)||(decide (i<j)&&EM ms j i)||i==j))
theorem IC{ms:List Nat}(h:qN ops ms=true):dQ ops=true:=by
 unfold qN at h;rw[Bool.and_eq_true,Bool.and_eq_true]at h;obtain⟨hm,hs,hall⟩:=h;have hw:=vW hm;unfold dQ;rw[Bool.and_eq_true];refine⟨hs,List.all_eq_true.2 fun i hi=> ?_⟩;have hi':=List.mem_range.1 hi;have h1:=List.all_eq_true.1 hall i hi;cases ho:ops[i]? with
 |none=>rfl
 |some o=>
  rw[ho]at h1;dsimp only at h1⊢;rw[Bool.and_eq_true]at h1⊢;refine⟨h1.1,List.all_eq_true.2 fun j hj=> ?_⟩;have hj':=List.mem_range.1 hj;have h2:=List.all_eq_true.1 h1.2 j hj;cases hoj:ops[j]? with
  |none=>rfl
  |some oj=>
   rw[hoj]at h2;dsimp only at h2⊢;cases ht:oj.dst with
   |none=>rfl
   |some t=>
    rw[ht]at h2;dsimp only at h2⊢;rw[Bool.and_eq_true]at h2⊢;refine⟨h2.1,?_⟩;have h3:=h2.2;rw[Bool.or_eq_true,Bool.or_eq_true,Bool.or_eq_true,Bool.and_eq_true,Bool.and_eq_true,decide_eq_true_eq,decide_eq_true_eq]at h3⊢;rcases h3 with((g|g)|g)|g
    ·exact .inl (.inl (.inl g))
    ·exact .inl (.inl (.inr ⟨g.1,jA (hw i hi' j g.1 g.2) (by omega)⟩))
    ·exact .inl (.inr ⟨g.1,jA (hw j hj' i g.1 g.2) (by omega)⟩)
    ·exact .inr g
end
section
variable{P:Program}{Q:Exit→Act→World→Prop}{a:Act}
theorem vX {id:Nat} {w:World} {l:List Oper} (ms:List Nat) (Rs:Nat→(Nat→Value)→World→Prop) (S:World→Prop) (St:Nat→World→World→Prop) (dp:Nat→List Nat) (hm:P.follows .mixedOrders=true) (hB:qN l.toArray ms=true)
 (hdp:((List.range l.length).all fun i=>(dp i).all fun j=>decide (j<i)&&EM ms i j)=true) (Mt:∀i,l.length≤i→dp i=[])
 (hcg:∀j vs vs' w,(∀k,k=j∨k∈dp j→vs k=vs' k)→Rs j vs w→Rs j vs' w) (hR:∀i j vs w w',j≠i→Rs j vs w→St i w w'→Rs j vs w') (hS:S w.drew)
 (hstep:∀i o,l[i]?=some o→∀(vs:Nat→Value) w,S w→(∀j∈dp i,Rs j vs w)→wpList P l.toArray (oL (fun v w'=>Rs i (dx vs i v) w'∧S w'∧St i w w') (acV l.toArray a vs i) o.dst) [o] (acV l.toArray a vs i) w)
 (hend:∀(vs:Nat→Value) w,S w→(∀j,j<l.length→Rs j vs w)→Q .normal (acV l.toArray a vs l.length) w):(Code.region id l.toArray true).wp P Q a w:=by
 have hsz:l.toArray.size=l.length:=(by simp);have hmb:FD l.toArray ms=true:=by
  unfold qN at hB;rw[Bool.and_eq_true]at hB;exact hB.1
 refine dV Rs S St dp hm (IC hB) (List.all_eq_true.2 fun i hi=>List.all_eq_true.2 fun j hj=> ?_) Mt (fun _=>[]) (List.all_eq_true.2 fun i hi=>rfl) hcg (fun i j vs w w' h1 _ h2 h3=>hR i j vs w w' h1 h2 h3) hS hstep fun vs w h1 h2=>hend vs w h1 fun j hj=>h2 j hj fun i _ hn=>(by cases hn);have h1:=List.all_eq_true.1 (List.all_eq_true.1 hdp i hi) j hj;have hi':=List.mem_range.1 hi;rw[Bool.and_eq_true,decide_eq_true_eq]at h1;exact jA (vW hmb i (by rw[hsz];exact hi') j h1.1 h1.2) (by omega)
end
end Go.Inq
namespace Go.Inq
open Go Go.RowKit
structure Wq where
 p:Value→World→Prop
 st:∀(v:Value) (W W':World),p v W→Below W.heap.size W W'→p v W'
def qV(x:Value):Wq:=⟨fun v _=>v=x,fun _ _ _ h _=>h⟩
def RsB(ws:List Wq)(j:Nat)(vs:Nat→Value)(W:World):Prop:=
 match ws[j]? with
 |some q=>q.p (vs j) W
 |none=>True
section
variable{P:Program}{Q:Exit→Act→World→Prop}{a:Act}
theorem Cr {id:Nat} {w W0:World} {l:List Oper} (ws:List Wq) (ms:List Nat) (dps:List (List Nat)) (hm:P.follows .mixedOrders=true) (hB:qN l.toArray ms=true)
 (hdp:((List.range l.length).all fun i=>(dps.getD i []).all fun j=>decide (j<i)&&EM ms i j)=true) (hln:dps.length≤l.length) (hS:Below W0.heap.size W0 w)
 (hstep:∀i o,l[i]?=some o→∀(vs:Nat→Value) W,Below W0.heap.size W0 W→(∀j∈dps.getD i [],RsB ws j vs W)→wpList P l.toArray (oL (fun v w'=>RsB ws i (dx vs i v) w'∧Below W0.heap.size W0 w'∧Below W.heap.size W w') (acV l.toArray a vs i) o.dst) [o] (acV l.toArray a vs i) W)
 (hend:∀(vs:Nat→Value) W,Below W0.heap.size W0 W→(∀j,j<l.length→RsB ws j vs W)→Q .normal (acV l.toArray a vs l.length) W):(Code.region id l.toArray true).wp P Q a w:=by
 refine vX ms (RsB ws) (fun W=>Below W0.heap.size W0 W) (fun(_:Nat) (W W':World)=>Below W.heap.size W W') (fun i=>dps.getD i []) hm hB hdp (fun i hi=> ?_) (fun j vs vs' W hk h=> ?_) (fun i j vs W W' _ h hs=> ?_) hS.drew hstep hend
 ·rw[List.getD_eq_getElem?_getD,List.getElem?_eq_none (by omega)];rfl
 ·unfold RsB at h⊢;rw[←hk j (.inl rfl)];exact h
 ·unfold RsB at h⊢;cases hw:ws[j]? with
  |none=>trivial
  |some q=>rw[hw]at h;exact q.st _ _ _ h hs
end
end Go.Inq
