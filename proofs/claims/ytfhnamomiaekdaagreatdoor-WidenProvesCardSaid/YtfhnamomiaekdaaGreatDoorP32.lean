/-
  Walks: layer 24: whether a tree shows that there is no way.
-/
import Derived.Test.YtfhnamomiaekdaaGreatDoorP31
set_option linter.unusedVariables false
set_option linter.unusedSimpArgs false
namespace Go.Proofs.YtfhnamomiaekdaaGreatDoor
open Go.RowKit Go.Inq
set_option maxHeartbeats 1000000
attribute [local go_sem↓] Go.wp_at_zero Go.wp_at_succ
theorem KA{l:List Nod}:(jv l).2.2=(lZ l).isSome:=by
 unfold jv;cases lZ l<;>rfl
set_option maxRecDepth 100000 in
theorem BX (A:Option Addr) (c:Nat) (H:List Txn) (level:Int) (Am:Option Addr) (cm:Nat) (M:List Cho) (At:Option Addr) (ct:Nat) (tree:List Nod) (w:World) (h:aA w (Old w) (.slice A H.length c) H) (hn:aG H)
 (hM:bR w (Old w) (.slice Am M.length cm) M) (hml:M.length≤100000000) (ht:ig w (Old w) (.slice At tree.length ct) tree) (htl:tree.length≤100000000) (hcy:HY tree):
 Calls Tryz.prog 81 #[.agg #[.slice A H.length c],.int .i64 level,.slice Am M.length cm,.slice At tree.length ct] w fun e w'=>e= .returned (.bool (yD H level M tree))∧Below w.heap.size w w':=by
 obtain⟨W0,hW0⟩:∃W0,w.alloc (.cells #[.slice A H.length c] 24)=W0:=⟨_,rfl⟩;have hB:=ah (Below.refl w.heap.size w) hW0 (Nat.le_refl _);have k0:=Blk.newEq hW0;have hsh:=hide (BO At ct tree W0 (ht.below hB) htl);have hrc:=hide (fun W (hb:Below w.heap.size w W)=>dn A c H W (h.below hb) hn);have hdef:Hid (yD H level M tree=(Kj H level&&match lZ tree with|some t=>t.held H level M|none=>false)):=hide rfl;have htO:Hid (∀t,lZ tree=some t→tree=t.flat∧t.ok):=hide fun t e=>Eb.1 e;have hsO:=hide (KA (l:=tree));obtain⟨⟨sl,sd,so⟩,hsr⟩:∃r,jv tree=r:=⟨_,rfl⟩;rw[hsr]at hsh hsO;dsimp only at hsO;have yG:=hide (fun t g W (hb:Below w.heap.size w W) (hg:w.heap.size≤g) (kg:Blk W g 231 #[.slice At tree.length ct]) (e:tree=Tr.flat t) (hok:t.ok)=>(by
  have hag:Agree (Old w) w W:=Agree.below hb fun b hb=>hb;have hk:∀b,Old w b→b<g:=fun b hb=>Nat.lt_of_lt_of_le hb hg;have hR:RdW W g (t.flat++[]):=by
   rw[List.append_nil,←e];exact⟨At,ct,kg,ht.keep hag hk⟩
  exact Er g A c H level hn t [] M Am cm W (aA.keep h hag hk) (bR.keep hM hag fun b hb=> .inl (hk b hb)) hR hok (by rw[←e];exact hcy) (by rw[←e];simpa using htl) (by rw[←e];omega):
  Calls Tryz.prog 149 #[.pointer (some ⟨g,0,none⟩),.agg #[.slice A H.length c],.int .i64 level,.slice Am M.length cm] W (iY g (t.held H level M) [] W)))
 have c0:=Blk.n0 k0;obtain⟨r,hr⟩:∃r,yD H level M tree=r:=⟨_,rfl⟩;rw[hr]at hdef;rw[hr];clear h hM ht hcy hr hsr;go_enter Tryz.func81,Tryz.ntmps81;go_wp2_with fail;refine hsh.out.mono ?_;rintro e w1 ⟨rfl,hb1⟩;have hB1:=hB.trans (hb1.mono hB.size);have k1:=k0.below hb1 k0.lt;clear hsh hW0 c0 k0 hb1 hB;have c0:=Blk.n0 k1;have hz:decide (level=0)=(level==0):=(by rw[Bool.eq_iff_iff];simp);have ho:decide (level=1)=(level==1):=(by rw[Bool.eq_iff_iff];simp);have hmay:Hid (Kj H level=(ay H&&((level==0)||(level==1)))):=hide (by unfold Kj;rw[hz,ho]);rw[hmay.out]at hdef;clear hz ho hmay;cases hto:lZ tree with
 |none=>
  rw[hto]at hdef hsO;have hso:so=false:=hsO.out;have hrf:r=false:=(by rw[hdef.out];simp);subst hso hrf;clear hdef hsO htO hrc yG hto;go_wp2;go_ret;exact⟨rfl,hB1⟩
 |some t=>
  obtain⟨e1,e2⟩:=htO.out t hto;rw[hto]at hdef hsO;dsimp only at hdef;have hso:so=true:=hsO.out;subst hso;have hhe:=hide (fun g W hb hg kg=>yG.out t g W hb hg kg e1 e2);have OE:=hide (hrc.out w1 hB1);generalize ay H=q at*;generalize t.held H level M=hq at*;generalize hzz:(level==0)=z at*;generalize hoo:(level==1)=o at*;replace e1:=hide e1;clear hsO htO hrc yG hto e2;go_wp2_with fail;refine OE.out.mono ?_;rintro e w2 ⟨rfl,hb2⟩;have hB2:=hB1.trans (hb2.mono hB1.size);have k2:=k1.below hb2 k1.lt;clear OE c0 k1 hb2 hB1 w1;have c0:=Blk.n0 k2;have hno:(q&&(z||o))=false→r=false:=fun e=>(by rw[hdef.out,e];rfl);have hyes:(q&&(z||o))=true→r=hq:=fun e=>(by rw[hdef.out,e];rfl);obtain⟨W3,hW3⟩:∃W3,w2.alloc (.cells #[.slice At tree.length ct] 231)=W3:=⟨_,rfl⟩;have hb3:=ah (Below.refl w2.heap.size w2) hW3 (Nat.le_refl _);have hB3:=hB2.trans (hb3.mono hB2.size);have hhx:=hide (hhe.out w2.heap.size W3 hB3 hB2.size (Blk.newEq hW3));have k3:=k2.below hb3 k2.lt;have c1:=Blk.n0 k3;have hfin:∀(e:Ending) w',iY w2.heap.size hq [] W3 e w'→r=hq→e= .returned (.bool r)∧Below w.heap.size w w':=fun e w' he hr=>by
   obtain⟨rfl,-,hT⟩:=he;exact⟨by rw[hr],hB3.trans (hT.below.mono hB2.size)⟩
  clear hhe hdef k2 k3 hb3 hB3;replace hfin:=hide hfin;cases q with
  |false=>
   obtain rfl:=hno rfl;clear hyes hno hfin hhx c1 hW3;go_wp2;go_ret;exact⟨rfl,hB2⟩
  |true=>
   cases z with
   |true=>
    have hr:=hide (hyes rfl);obtain rfl:level=0:=(by simpa using hzz);clear hyes hno hzz hoo;go_wp2_with fail;refine hhx.out.mono ?_;intro e w' he;obtain⟨f1,f2⟩:=hfin.out e w' he hr.out;subst f1;clear he hhx;go_wp2;go_ret;exact⟨rfl,f2⟩
   |false=>
    cases o with
    |true=>
     have hr:=hide (hyes rfl);obtain rfl:level=1:=(by simpa using hoo);clear hyes hno hzz hoo;go_wp2_with fail;refine hhx.out.mono ?_;intro e w' he;obtain⟨f1,f2⟩:=hfin.out e w' he hr.out;subst f1;clear he hhx;go_wp2;go_ret;exact⟨rfl,f2⟩
    |false=>
     obtain rfl:=hno rfl;have n0:(level !=0)=true:=(by simpa using hzz);have n1:(level !=1)=true:=(by simpa using hoo);clear hyes hno hfin hhx c1 hW3 hzz hoo;go_wp2;go_ret;exact⟨rfl,hB2⟩
end Go.Proofs.YtfhnamomiaekdaaGreatDoor
