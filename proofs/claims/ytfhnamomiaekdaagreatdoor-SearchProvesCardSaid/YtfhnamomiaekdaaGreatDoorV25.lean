/-
  Walks: layer 24: whether a tree shows that there is no way.
-/
import Derived.Carry
import Derived.Test.YtfhnamomiaekdaaGreatDoorV24
import Derived.Test.YtfhnamomiaekdaaGreatDoorV23
import Derived.Test.YtfhnamomiaekdaaGreatDoorV05
import Derived.Test.YtfhnamomiaekdaaGreatDoorV09
import Derived.Test.YtfhnamomiaekdaaGreatDoorV03
set_option linter.unusedVariables false
set_option linter.unusedSimpArgs false
namespace Go.Proofs.YtfhnamomiaekdaaGreatDoor
open Go.RowKit Go.Inq
set_option maxHeartbeats 1000000
attribute [local go_sem↓] Go.wp_at_zero Go.wp_at_succ
theorem Ow{l:List Nod}:(kL l).2.2=(oh l).isSome:=by
 unfold kL;cases oh l<;>rfl
set_option maxRecDepth 100000 in
theorem wT (A:Option Addr) (c:Nat) (H:List Txn) (level:Int) (Am:Option Addr) (cm:Nat) (M:List Cho) (At:Option Addr) (ct:Nat) (tree:List Nod) (w:World) (h:aD w (Old w) (.slice A H.length c) H) (hn:aH H)
 (hM:bC w (Old w) (.slice Am M.length cm) M) (hml:M.length≤100000000) (ht:bJ w (Old w) (.slice At tree.length ct) tree) (htl:tree.length≤100000000) (hcy:kW tree):
 Calls Tryz.prog 81 #[.agg #[.slice A H.length c],.int .i64 level,.slice Am M.length cm,.slice At tree.length ct] w fun e w'=>e= .returned (.bool (lJ H level M tree))∧Below w.heap.size w w':=by
 obtain⟨W0,hW0⟩:∃W0,w.alloc (.cells #[.slice A H.length c] 24)=W0:=⟨_,rfl⟩;have hB:=ah (Below.refl w.heap.size w) hW0 (Nat.le_refl _);have k0:=Blk.newEq hW0;have hsh:=hide (Fj At ct tree W0 (ht.below hB) htl);have hrc:=hide (fun W (hb:Below w.heap.size w W)=>dL A c H W (h.below hb) hn);have hdef:Hid (lJ H level M tree=(oq H level&&match oh tree with|some t=>t.held H level M|none=>false)):=hide rfl;have htO:Hid (∀t,oh tree=some t→tree=t.flat∧t.ok):=hide fun t e=>rZ.1 e;have hsO:=hide (Ow (l:=tree));obtain⟨⟨sl,sd,so⟩,hsr⟩:∃r,kL tree=r:=⟨_,rfl⟩;rw[hsr]at hsh hsO;dsimp only at hsO;have Cb:=hide (fun t g W (hb:Below w.heap.size w W) (hg:w.heap.size≤g) (kg:Blk W g 231 #[.slice At tree.length ct]) (e:tree=Tr.flat t) (hok:t.ok)=>(by
  have hag:Agree (Old w) w W:=Agree.below hb fun b hb=>hb;have hk:∀b,Old w b→b<g:=fun b hb=>Nat.lt_of_lt_of_le hb hg;have hR:RdW W g (t.flat++[]):=by
   rw[List.append_nil,←e];exact⟨At,ct,kg,ht.keep hag hk⟩
  exact Ii g A c H level hn t [] M Am cm W (aD.keep h hag hk) (bC.keep hM hag fun b hb=> .inl (hk b hb)) hR hok (by rw[←e];exact hcy) (by rw[←e];simpa using htl) (by rw[←e];omega):
  Calls Tryz.prog 149 #[.pointer (some ⟨g,0,none⟩),.agg #[.slice A H.length c],.int .i64 level,.slice Am M.length cm] W (jT g (t.held H level M) [] W)))
 have c0:=Blk.n0 k0;obtain⟨r,hr⟩:∃r,lJ H level M tree=r:=⟨_,rfl⟩;rw[hr]at hdef;rw[hr];clear h hM ht hcy hr hsr;go_enter Tryz.func81,Tryz.ntmps81;go_wp2_with fail;refine hsh.out.mono ?_;rintro e w1 ⟨rfl,hb1⟩;have hB1:=hB.trans (hb1.mono hB.size);have k1:=k0.below hb1 k0.lt;clear hsh hW0 c0 k0 hb1 hB;have c0:=Blk.n0 k1;have hz:decide (level=0)=(level==0):=(by rw[Bool.eq_iff_iff];simp);have ho:decide (level=1)=(level==1):=(by rw[Bool.eq_iff_iff];simp);have hmay:Hid (oq H level=(ay H&&((level==0)||(level==1)))):=hide (by unfold oq;rw[hz,ho]);rw[hmay.out]at hdef;clear hz ho hmay;cases hto:oh tree with
 |none=>
  rw[hto]at hdef hsO;have hso:so=false:=hsO.out;have hrf:r=false:=(by rw[hdef.out];simp);subst hso hrf;clear hdef hsO htO hrc Cb hto;go_wp2;go_ret;exact⟨rfl,hB1⟩
 |some t=>
  obtain⟨e1,e2⟩:=htO.out t hto;rw[hto]at hdef hsO;dsimp only at hdef;have hso:so=true:=hsO.out;subst hso;have hhe:=hide (fun g W hb hg kg=>Cb.out t g W hb hg kg e1 e2);have TJ:=hide (hrc.out w1 hB1);generalize ay H=q at*;generalize t.held H level M=hq at*;generalize hzz:(level==0)=z at*;generalize hoo:(level==1)=o at*;replace e1:=hide e1;clear hsO htO hrc Cb hto e2;go_wp2_with fail;refine TJ.out.mono ?_;rintro e w2 ⟨rfl,hb2⟩;have hB2:=hB1.trans (hb2.mono hB1.size);have k2:=k1.below hb2 k1.lt;clear TJ c0 k1 hb2 hB1 w1;have c0:=Blk.n0 k2;have hno:(q&&(z||o))=false→r=false:=fun e=>(by rw[hdef.out,e];rfl);have hyes:(q&&(z||o))=true→r=hq:=fun e=>(by rw[hdef.out,e];rfl);obtain⟨W3,hW3⟩:∃W3,w2.alloc (.cells #[.slice At tree.length ct] 231)=W3:=⟨_,rfl⟩;have hb3:=ah (Below.refl w2.heap.size w2) hW3 (Nat.le_refl _);have hB3:=hB2.trans (hb3.mono hB2.size);have hhx:=hide (hhe.out w2.heap.size W3 hB3 hB2.size (Blk.newEq hW3));have k3:=k2.below hb3 k2.lt;have c1:=Blk.n0 k3;have hfin:∀(e:Ending) w',jT w2.heap.size hq [] W3 e w'→r=hq→e= .returned (.bool r)∧Below w.heap.size w w':=fun e w' he hr=>by
   obtain⟨rfl,-,hT⟩:=he;exact⟨by rw[hr],hB3.trans (hT.below.mono hB2.size)⟩
  clear hhe hdef k2 k3 hb3 hB3;replace hfin:=hide hfin;cases q with
  |false=>
   obtain rfl:=hno rfl;clear hyes hno hfin hhx c1 hW3;go_wp2;go_ret;exact⟨rfl,hB2⟩
  |true=>
   cases z with
   |true=>
    have hr:=hide (hyes rfl);obtain rfl:level=0:=(by simpa using hzz);clear hyes hno hzz hoo;go_wp2_with fail;refine hhx.out.mono ?_;intro e w' he;obtain⟨f1,f2⟩:=hfin.out e w' he hr.out;subst f1;clear he hhx;go_wp2;go_ret;exact⟨rfl,f2⟩
   |false=>
    cases o with
    |true=>
     have hr:=hide (hyes rfl);obtain rfl:level=1:=(by simpa using hoo);clear hyes hno hzz hoo;go_wp2_with fail;refine hhx.out.mono ?_;intro e w' he;obtain⟨f1,f2⟩:=hfin.out e w' he hr.out;subst f1;clear he hhx;go_wp2;go_ret;exact⟨rfl,f2⟩
    |false=>
     obtain rfl:=hno rfl;have n0:(level !=0)=true:=(by simpa using hzz);have n1:(level !=1)=true:=(by simpa using hoo);clear hyes hno hfin hhx c1 hW3 hzz hoo;go_wp2;go_ret;exact⟨rfl,hB2⟩
set_option maxHeartbeats 4000000
def Mk.val(m:Mk)(v:Value):Value:= .agg #[.int .i64 m.c.key,.int .i64 m.c.a,.int .i64 m.c.b,.bool m.right,v]
set_option maxRecDepth 100000 in
theorem uI(k a b:Int)(q:Bool)(A:Option Addr)(n c:Nat)(w:World):Calls Tryz.prog 83 #[.agg #[.int .i64 k,.int .i64 a,.int .i64 b,.bool q,.slice A n c]] w fun e w'=>
 e= .returned (.agg #[.int .i64 k,.int .i64 (if q then b else a),.int .i64 (if q then a else b)])∧Below w.heap.size w w':=by
 obtain⟨W0,hW0⟩:∃W0,(w.alloc (.cells #[.int .i64 k,.int .i64 a,.int .i64 b,.bool q,.slice A n c] 129)).alloc (.cells #[.int .i64 0,.int .i64 0,.int .i64 0] 102)=W0:=⟨_,rfl⟩;have hb:=aS hW0;have k1:=Blk.kG hW0;have k2:=Blk.jk hW0;have a0:=Blk.n0 k1;have a1:=Blk.n1 k1;have a2:=Blk.n2 k1;have a3:=Blk.n3 k1;cases q with
 |false=>
  have b0:=Blk.n0 k2;have b1:=Blk.n1 k2;have b2:=Blk.n2 k2;have f0:=k2.frozen 0;have f1:=k2.frozen 1;have f2:=k2.frozen 2;have hz:=hide (((hb.setCell (p:=⟨w.heap.size+1,0,none⟩) (by simp) (.int .i64 k)).setCell (p:=⟨w.heap.size+1,1,none⟩) (by simp) (.int .i64 a)).setCell (p:=⟨w.heap.size+1,2,none⟩) (by simp) (.int .i64 b));have hq:=((k2.aM 0 (.int .i64 k)).aM 1 (.int .i64 a)).aM 2 (.int .i64 b);simp only[sA,sZ,sS]at hq;have y0:=Blk.n0 hq;have y1:=Blk.n1 hq;have y2:=Blk.n2 hq;clear hq k1 k2;go_enter Tryz.func83,Tryz.ntmps83;go_wp2_with fail;exact bodyPost_ret (v:= .agg #[.int .i64 k,.int .i64 a,.int .i64 b]) (by simp[results,Tryz.results83,go_sem,y0,y1,y2]) rfl ⟨rfl,hz.out⟩
 |true=>
  have ht:=hide (uG k a b W0);go_enter Tryz.func83,Tryz.ntmps83;go_wp2_with fail;refine ht.out.mono ?_;rintro e w1 ⟨rfl,hb1⟩;have hB:=hb.trans (hb1.mono hb.size);replace k2:=k2.below hb1 k2.lt;clear a0 a1 a2 a3 ht hW0 hb hb1 k1;have b0:=Blk.n0 k2;have b1:=Blk.n1 k2;have b2:=Blk.n2 k2;have f0:=k2.frozen 0;have f1:=k2.frozen 1;have f2:=k2.frozen 2;have hz:=hide (((hB.setCell (p:=⟨w.heap.size+1,0,none⟩) (by simp) (.int .i64 k)).setCell (p:=⟨w.heap.size+1,1,none⟩) (by simp) (.int .i64 b)).setCell (p:=⟨w.heap.size+1,2,none⟩) (by simp) (.int .i64 a));have hq:=((k2.aM 0 (.int .i64 k)).aM 1 (.int .i64 b)).aM 2 (.int .i64 a);simp only[sA,sZ,sS]at hq;have y0:=Blk.n0 hq;have y1:=Blk.n1 hq;have y2:=Blk.n2 hq;clear hq k2;go_wp2_with fail;exact bodyPost_ret (v:= .agg #[.int .i64 k,.int .i64 b,.int .i64 a]) (by simp[results,Tryz.results83,go_sem,y0,y1,y2]) rfl ⟨rfl,hz.out⟩
theorem Cc(m:Mk):m.chosen=⟨m.c.key,if m.right then m.c.b else m.c.a,if m.right then m.c.a else m.c.b⟩:=by
 obtain⟨⟨k,a,b⟩,q,d⟩:=m;cases q<;>rfl
theorem zD{l:List Mk}{k:Nat}(h:k<l.length):aW (l.take (k+1))=aW (l.take k)++[l[k].chosen]:=by rw[List.take_succ_eq_append_getElem h,yX]
set_option maxRecDepth 100000 in
theorem AZ(A:Option Addr)(c:Nat)(L:List Mk)(w:World)(h:MkS w (Old w) (.slice A L.length c) L)(hn:L.length≤50000000):
 Calls Tryz.prog 30 #[.slice A L.length c] w (P5 w (aW L)):=by
 obtain⟨ic,hic,hi1,hi2,hi3⟩:=info_parts sw;have hst:=hide (fun k (hk:k<L.length)=>zD hk);have hall:=hide (show aW (L.take L.length)=aW L by rw[List.take_length]);replace h:=hide h;go_enter Tryz.func30,Tryz.ntmps30;go_wp2_with fail;go_loopw [3,8] (fun s3 s8 wr=>∃k:Nat,k≤L.length∧s8= .int .i64 k∧eF wr w.heap.size s3 (aW (L.take k))∧Below w.heap.size w wr) (fun _ s8 _=>L.length-(intOf s8).toNat);case atStart=>exact⟨0,Nat.zero_le _,by go_num,eF.nil _ _,Below.refl _ _⟩
 case round=>
  obtain⟨Wo,rfl⟩:∃Wo,Wo=wr:=⟨_,rfl⟩;obtain⟨k,hk,rfl,hown,hb⟩:=hrel;have hk1:(0:Int)≤(k:Int):=Int.natCast_nonneg _;by_cases hlt:k<L.length
  ·have hk2:(k:Int)<(L.length:Int):=(by omega);obtain⟨b,off,Ay,cy,rfl,-,d⟩:=(h.out.below hb).at_ hlt;obtain⟨d0,d1,d2,d3,d4,-⟩:=d;have hs:=hide (hst.out k hlt);have hl2:(aW (L.take k)).length≤50000000:=(by rw[mE,List.length_take];omega);have hci:=hide (Cc L[k]);generalize L[k]=f at*;obtain⟨⟨fk,fa,fb⟩,fq,fy⟩:=f;dsimp only at d0 d1 d2 d3 d4 hci;rw[hci.out]at hs;obtain⟨Av,cv,rfl⟩:=hown.form;generalize aW (L.take k)=M at*;have qM:=hb.size;have hA:=ah hb (W:=Wo.alloc (.cells #[.int .i64 fk,.int .i64 fa,.int .i64 fb,.bool fq,.slice Ay fy.length cy] 129)) rfl qM;have hown2:=hide (World.ownsRow.alloc hown (.cells #[.int .i64 fk,.int .i64 fa,.int .i64 fb,.bool fq,.slice Ay fy.length cy] 129));clear hown hci;go_upto_region 5 with fail;generalize hWa:Wo.alloc (.cells #[.int .i64 fk,.int .i64 fa,.int .i64 fb,.bool fq,.slice Ay fy.length cy] 129)=Wa at*;have nn:=Blk.newEq hWa;have hsa:=hA.size;have hcs:=hide (uI fk fa fb fq Ay fy.length cy Wa);clear hWa d0 d1 d2 d3 d4;have e0:=Blk.n0 nn;have e1:=Blk.n1 nn;have e2:=Blk.n2 nn;have e3:=Blk.n3 nn;have e4:=Blk.n4 nn;go_wp2_with fail;refine hcs.out.mono ?_;rintro e w2 ⟨rfl,hb2⟩;have hA2:=hA.trans (hb2.mono hA.size);have hown3:=hide (own_below hown2.out hb2 (Nat.le_refl _));have hsb:=hA2.size;clear hown2 hcs nn e0 e1 e2 e3 e4 hb2 hA;generalize(if fq=true then fb else fa)=ya at*;generalize(if fq=true then fa else fb)=yb at*;go_wp2_with (at_builtin;refine bF (enc:=gU) rfl (.tmp 12) (.tmp 15) 65 rfl w.heap.size 102 ic _ 3 24 Tryz.underlying65 hic hi1 hi2 hi3 rfl (by decide) (.slice Av M.length cv) M rfl hown3.out (fun _=>rfl) (⟨fk,ya,yb⟩:Cho) _ rfl rfl iM (by simp[maxLen];omega) (by omega) hsb w w.heap.size (Nat.le_refl _) hA2 ?_;intro v1 w6 hown1 hg1 hb1 nI);go_wp2;go_roundw;case rel=>exact⟨k+1,by omega,by go_num,by rw[hs.out];exact hown1,hb1⟩
   case measure=>simp[intOf];omega
  ·obtain rfl:k=L.length:=(by omega);rw[hall.out]at hown;go_wp2;go_ret;exact⟨_,rfl,hown,hb⟩
end Go.Proofs.YtfhnamomiaekdaaGreatDoor
namespace Go.Proofs.YtfhnamomiaekdaaGreatDoor
open Go Go.RowKit Go.Inq
set_option maxHeartbeats 1000000
theorem Dr{w w1 w2:World}{row:Option Nat}(h:w.grownBy w1 row)(hb:Below w1.heap.size w1 w2):w.grownBy w2 row:=
 ⟨hb.os.trans h.os,hb.tape.trans h.tape,hb.output.trans h.output,Nat.le_trans h.size hb.size,fun k hk hr=>(hb.block k (Nat.lt_of_lt_of_le hk h.size)).trans (h.block k hk hr)⟩
theorem Ce{w w1:World}{g:Nat}(h:w.grownBy w1 (some g))(o:Obj):w.grownBy (ChangeMaps.setBlock w1 g o) (some g):=
 ⟨h.os,h.tape,h.output,by unfold ChangeMaps.setBlock;simpa using h.size,fun k hk hr=>by
  have hne:k≠g:=fun e=>hr (by rw[e]);have:(ChangeMaps.setBlock w1 g o).heap[k]?=w1.heap[k]?:=by
   unfold ChangeMaps.setBlock;simp[Array.getElem?_setIfInBounds,Ne.symm hne]
  exact this.trans (h.block k hk hr)⟩
theorem zF{P:Program}{ops:Array Oper}{Q:Exit→Act→World→Prop}{a:Act}{w:World}{rest:List Oper}{o:Oper}(hw:Region.wanted o (yielded ops a.tmps)=true)(h:wpList P ops Q ({o with guard:=none}::rest) a w):wpList P ops Q (o::rest) a w:=by
 unfold wpList at h⊢;rw[if_pos hw];have h2:Region.wanted {o with guard:=none} (yielded ops a.tmps)=true:=rfl;simp only[h2,if_true]at h;exact h
def A8(B:Cho→Option Bool)(x:Cho)(p q:Bool)(y:Cho):Option Bool:=if(p&&decide (y=x)||q&&decide (y=aQ x))=true then some true else B y
theorem Fq(B:Cho→Option Bool)(x:Cho)(q:Bool)(y:Cho):(if y=x then some true else A8 B x false q y)=A8 B x true q y:=by
 unfold A8;by_cases h:y=x
 ·rw[if_pos h,decide_eq_true h];simp
 ·rw[if_neg h,decide_eq_false h];simp
theorem Fu(B:Cho→Option Bool)(x:Cho)(p:Bool)(y:Cho):(if y=aQ x then some true else A8 B x p false y)=A8 B x p true y:=by
 unfold A8;by_cases h:y=aQ x
 ·rw[if_pos h,decide_eq_true h];simp
 ·rw[if_neg h,decide_eq_false h];simp
theorem Ox(B:Cho→Option Bool)(x y:Cho):A8 B x true true y=if y=aQ x then some true else if y=x then some true else B y:=by
 rw[←Fu,←Fq];unfold A8;simp
def knV(gm gq:Nat)(x:Cho):Nat→Value
 |0=> .map (some gm)|1=> .pointer (some ⟨gq,0,none⟩)|2=> .agg #[.int .i64 x.key,.int .i64 x.a,.int .i64 x.b]
 |3=> .map (some gm)|4=> .pointer (some ⟨gq,0,none⟩)|5=> .agg #[.int .i64 x.key,.int .i64 x.a,.int .i64 x.b]|6=> .agg #[.int .i64 x.key,.int .i64 x.b,.int .i64 x.a]
 |_=>undef
def knD:Nat→List Nat
 |2=>[1]|5=>[4]|6=>[5]|7=>[0,2]|8=>[3,6]
 |_=>[]
structure qO(gm:Nat)(W0:World)(val:Nat→Value)(B:Cho→Option Bool)(x:Cho)(L:Nat→Bool)(vs:Nat→Value)(W:World):Prop where
 gr:W0.grownBy W (some gm)
 v:∀k,k<7→L k=true→vs k=val k
 m:jA vR W gm (A8 B x (L 7) (L 8))
section
variable{gm:Nat}{W0 W W':World}{val:Nat→Value}{B:Cho→Option Bool}{x:Cho}{L:Nat→Bool}{vs:Nat→Value}
theorem qO.start(h:jA vR W0 gm B):qO gm W0 val B x (fun _=>false) (fun _=>undef) W0.drew:=by
 refine⟨⟨rfl,rfl,rfl,Nat.le_refl _,fun _ _ _=>rfl⟩,fun k _ h=>(by cases h),?_⟩;exact(h.agree (w':=W0.drew) rfl).same fun y=>by unfold A8;simp
theorem qO.calm(h:qO gm W0 val B x L vs W){k:Nat}(hk:k<7)(hb:Below W.heap.size W W'):qO gm W0 val B x (fun j=>L j||decide (j=k)) (bW vs k (val k)) W':=by
 refine⟨Dr h.gr hb,fun j hj hl=> ?_,?_⟩
 ·by_cases e:j=k
  ·subst e;unfold bW;rw[if_pos rfl]
  ·unfold bW;rw[if_neg e];exact h.v j hj (by simpa[e]using hl)
 ·have e7:(L 7||decide (7=k))=L 7:=(by rw[decide_eq_false (by omega)];simp);have e8:(L 8||decide (8=k))=L 8:=(by rw[decide_eq_false (by omega)];simp);simp only[e7,e8];exact h.m.below hb h.m.lt
theorem qO.jF(h:qO gm W0 val B x L vs W){k:Nat}(hk:k<7):qO gm W0 val B x (fun j=>L j||decide (j=k)) (bW vs k (val k)) W:=h.calm hk (Below.refl _ _)
theorem qO.one(h:qO gm W0 val B x L vs W)(hl:L 7=false)(u:Value):∃es c,(Instr.mapUpdate 145 (.map (some gm)) (.agg #[.int .i64 x.key,.int .i64 x.a,.int .i64 x.b]) (.bool true)).run Tryz.prog W= .ok () (ChangeMaps.setBlock W gm (.map es c))∧qO gm W0 val B x (fun j=>L j||decide (j=7)) (bW vs 7 u) (ChangeMaps.setBlock W gm (.map es c)):=by
 obtain⟨es,c,h1,h2⟩:=h.m.update Ih Tryz.underlying145 x true;refine⟨es,c,h1,Ce h.gr _,fun j hj g=> ?_,?_⟩
 ·unfold bW;rw[if_neg (by omega)];exact h.v j hj (by simpa[show j≠7 by omega]using g)
 ·refine h2.same fun y=> ?_;rw[hl,Fq];simp
theorem qO.two(h:qO gm W0 val B x L vs W)(hl:L 8=false)(u:Value):∃es c,(Instr.mapUpdate 145 (.map (some gm)) (.agg #[.int .i64 x.key,.int .i64 x.b,.int .i64 x.a]) (.bool true)).run Tryz.prog W= .ok () (ChangeMaps.setBlock W gm (.map es c))∧qO gm W0 val B x (fun j=>L j||decide (j=8)) (bW vs 8 u) (ChangeMaps.setBlock W gm (.map es c)):=by
 obtain⟨es,c,h1,h2⟩:=h.m.update Ih Tryz.underlying145 (aQ x) true;refine⟨es,c,h1,Ce h.gr _,fun j hj g=> ?_,?_⟩
 ·unfold bW;rw[if_neg (by omega)];exact h.v j hj (by simpa[show j≠8 by omega]using g)
 ·refine h2.same fun y=> ?_;rw[hl,Fu];simp
end
end Go.Proofs.YtfhnamomiaekdaaGreatDoor
