/-
  Walks: layer 21: a walk in depth over the rows' graph, by a closure that calls itself.
-/
import Derived.Test.YtfhnamomiaekdaaGreatDoorV30
set_option linter.unusedVariables false
set_option linter.unusedSimpArgs false
namespace Go.Proofs.YtfhnamomiaekdaaGreatDoor
open Go.RowKit Go.Inq
set_option maxHeartbeats 4000000
attribute [local go_sem↓] Go.wp_at_zero Go.wp_at_succ
theorem aP.Sl{w0 w:World}{v:Value}{H:List Txn}(h:aD w0 (Old w0) v H)(hb:Below w0.heap.size w0 w):aD w (Old w) v H:=h.below hb
def gG(s:List Int):Array Value:=(s.map (Value.int .i64)).toArray
theorem zR(s:List Int)(x:Nat)(v:Int):(gG s).setIfInBounds x (.int .i64 v)=gG (s.set x v):=by
 unfold gG;rw[sA,List.map_set]
theorem Cw{s:List Int}{x:Nat}(h:x<s.length):(gG s)[x]?=some (.int .i64 (mkD s x)):=by
 unfold gG mkD;rw[gA,List.getElem?_map,List.getElem?_eq_getElem h,List.getD_eq_getElem?_getD,List.getElem?_eq_getElem h];rfl
structure Cx(W:World)(S0 S1 S2 Bm n:Nat)(A:Option Addr)(c:Nat)(R:List aT)(s:List Int):Prop where
 k0:Blk W S0 3 (gG s)
 k1:Blk W S1 33 #[.slice (some ⟨S0,0,none⟩) n n]
 kp:Blk W (Bm+1) 160 #[.pointer (some ⟨Bm,0,none⟩)]
 kf:Blk W S2 165 #[.func (.func 94) #[] #[.pointer (some ⟨S1,0,none⟩),.pointer (some ⟨Bm+1,0,none⟩),.pointer (some ⟨S2,0,none⟩)]]
 hm:mU W Bm A c n R
 ne:Bm≠S0
theorem Cx.grown{W W':World}{S0 S1 S2 Bm n:Nat}{A:Option Addr}{c:Nat}{R:List aT}{s s':List Int}(h:Cx W S0 S1 S2 Bm n A c R s)(hg:W.grownBy W' (some S0))(hk:Blk W' S0 3 (gG s')):Cx W' S0 S1 S2 Bm n A c R s':=by
 have hne:∀{g:Nat} {t:TypeId} {cs:Array Value},Blk W g t cs→t≠3→some g≠some S0:=fun{g t cs} hk2 ht e=>by
  injection e with e
  subst e;have:=hk2.symm.trans h.k0;simp at this;exact ht this.2
 refine⟨hk,h.k1.grown hg (hne h.k1 (by decide)),h.kp.grown hg (hne h.kp (by decide)),h.kf.grown hg (hne h.kf (by decide)),?_,h.ne⟩;have hc:∀i,W'.cell? ⟨Bm,i,none⟩=W.cell? ⟨Bm,i,none⟩:=fun i=>by
  have:=hg.block Bm h.hm.lt (fun e=>h.ne (by injection e));unfold World.cell?;simp only[this]
 exact⟨(hc 0).trans h.hm.hd,fun k t hk ht=>(hc _).trans (h.hm.pl k t hk ht)⟩
set_option maxRecDepth 100000 in
theorem zS(H:List Txn)(R:List aT)(A:Option Addr)(c:Nat)(hn:aH H)(ho:OkS H R)(w0:World)(h:aD w0 (Old w0) (.slice A H.length c) H)(S0 S1 S2 Bm:Nat)(hS:w0.heap.size≤S0):
 ∀(m:Nat) (s:List Int) (x:Nat) (w:World),p9 s≤m→l6 H.length (gK H R) s→x<H.length→qc H.length (gK H R) s x→Below w0.heap.size w0 w→Cx w S0 S1 S2 Bm H.length A c R s→
 Calls Tryz.prog 94 #[.int .i64 x,.pointer (some ⟨S1,0,none⟩),.pointer (some ⟨Bm+1,0,none⟩),.pointer (some ⟨S2,0,none⟩)] w fun e w'=>∃b s',e= .returned (.bool b)∧Blk w' S0 3 (gG s')∧w.grownBy w' (some S0)∧(b=true→oC H.length (gK H R) s s'∧mkD s' x=2)∧(b=false→gu H.length (gK H R)=true)
 |m,s,x,w,hz,hI,hx,hg,hb,hF=>by
  have hsl:=hI.len;have d0:=(hF.k1.cell 0);have d1:=(hF.k0.cell x).trans (Cw (by rw[hsl];exact hx));simp only[gA,gZ]at d0;have hx0:(0:Int)≤(x:Int):=Int.natCast_nonneg _;have hx1:(x:Int)<(H.length:Int):=(by omega);rcases hI.jF hx with hv|hv|hv
  ·rw[hv]at d1;have hcl:=hide (fun t (ht:oC H.length (gK H R) (s.set x 1) t) hb'=>oC.closed hI hx hv ht hb');have hgn:=hide (fun t y (ht:oC H.length (gK H R) (s.set x 1) t) he=>qc.next (y:=y) hg hsl hx ht he);have hb0:=hide (oC.refl (hI.begin hx hv));have hz1:=wZ (by rw[hsl];exact hx) hv;obtain⟨m',rfl⟩:∃m',m=m'+1:=⟨m-1,by omega⟩;have hz2:p9 (s.set x 1)≤m':=(by omega);have hIH:=hide (fun s' y w'=>zS H R A c hn ho w0 h S0 S1 S2 Bm hS m' s' y w');have k0s:=hF.k0.aM x (.int .i64 1);rw[zR]at k0s;have f0:=hF.k0.frozen x;have hF1:=hF.grown (bS S0 x (.int .i64 1)) k0s;have hbS:Below w0.heap.size w0 (w.setCell ⟨S0,x,none⟩ (.int .i64 1)):=hb.setCell (p:=⟨S0,x,none⟩) hS _;have hT1:=hide (IY x Bm A c H R (w.setCell ⟨S0,x,none⟩ (.int .i64 1)) (aP.Sl h hbS) hn ho hF1.hm hx);have hg1:w.grownBy (w.setCell ⟨S0,x,none⟩ (.int .i64 1)) (some S0):=bS S0 x _;have WB:=hF.k0.lt;have p0:=Blk.n0 hF.kp;have WC:S0≠Bm+1:=fun e=>by
    have:=hF.kp.symm.trans (e▸hF.k0);simp at this
   have hE:Hid (∀y,gK H R x y=(uP H R x).contains y):=hide fun _=>rfl;have Sm:Hid (∀y∈uP H R x,y<H.length):=hide fun y hy=>(Cr.1 (show gK H R x y=true from List.contains_iff_mem.2 hy)).1;have hLl:(uP H R x).length≤32*33:=by
    have h1:(uP H R x).length≤H.length*(H.length+1):=sQ H R x H.length;have h32:=((aB H).1 ho.right).1;have h2:=Nat.mul_le_mul h32 (show H.length+1≤33 by omega);omega
   replace hI:=hide hI;replace hg:=hide hg;replace hF:=hide hF;replace hF1:=hide hF1;replace hv:=hide hv;replace h:=hide h;replace ho:=hide ho;replace hz1:=hide hz1;clear hz hsl hz1;go_enter Tryz.func94,Tryz.ntmps94;go_wp2_with fail;refine hT1.out.mono ?_;rintro e w2 ⟨v2,rfl,ho2,hb2⟩;have hw1:(w.setCell ⟨S0,x,none⟩ (.int .i64 1)).heap.size=w.heap.size:=(by simp);rw[hw1]at ho2 hb2;have hg2:w.grownBy w2 (some S0):=ak hg1 (bO hb2 (by rw[hw1];exact Nat.le_refl _));have k02:=k0s.below hb2 (by omega);obtain⟨L,hL⟩:∃L,uP H R x=L:=⟨_,rfl⟩;rw[hL]at ho2 hE Sm hLl;replace hL:=hide hL;obtain⟨AL,cL,hv2⟩:=ho2.form;rw[aK]at hv2;subst hv2;have hLS:=hide (ho2.sl (K:=fun b=>w.heap.size≤b∧b<w2.heap.size) (fun g h1 h2=>⟨h1,h2⟩));have hsz2:=hb2.size;rw[hw1]at hsz2;clear hT1 ho2 hb2 hw1 p0 d0 d1 f0;replace hg1:=hide hg1;replace k0s:=hide k0s;go_wp2_with fail;go_loopw [25] (fun s25 wr=>∃(j:Nat) (s':List Int),j≤L.length∧s25= .int .i64 j∧Blk wr S0 3 (gG s')∧w.grownBy wr (some S0)∧Hid (oC H.length (gK H R) (s.set x 1) s')∧Hid (∀i (hi:i<L.length),i<j→mkD s' L[i]=2)∧aP wr (fun b=>w.heap.size≤b∧b<w2.heap.size) (.slice AL L.length cL) (aC L)∧w2.heap.size≤wr.heap.size) (fun s25 _=>L.length-(intOf s25).toNat);case atStart=>exact⟨0,s.set x 1,Nat.zero_le _,by go_num,k02,hg2,hb0,hide (fun i hi h=>absurd h (by omega)),hLS.out,Nat.le_refl _⟩
   case round=>
    clear k02 hg2 hb0 hLS;obtain⟨j,s',hj,rfl,k0,hgr,hD,hbl,hLS,Qd⟩:=hrel;have hj1:(0:Int)≤(j:Int):=Int.natCast_nonneg _;have hFr:=hF.out.grown hgr k0;have hbr:Below w0.heap.size w0 wr:=below_grown hb hgr hb.size (fun k e=>by injection e with e;omega);by_cases hjl:j<L.length
    ·have hj2:(j:Int)<(L.length:Int):=(by omega);obtain⟨bl,ol,rfl,_,hcl⟩:=hLS.at_ (i:=j) (by rw[aK];exact hjl);rw[ku hjl]at hcl;have hyl:=Sm.out L[j] (List.getElem_mem hjl);have hye:gK H R x L[j]=true:=(by rw[hE.out];exact List.contains_iff_mem.2 (List.getElem_mem hjl));have hcall:=hide (hIH.out s' L[j] wr (Nat.le_trans hD.out.zero hz2) hD.out.inv hyl (hgn.out s' L[j] hD.out hye) hbr hFr);have hst:=hide (fun(s4:List Int) (h1:oC H.length (gK H R) s' s4) (h2:mkD s4 L[j]=2) i (hi:i<L.length) (hij:i<j+1)=>(by
      by_cases g:i=j
      ·subst g;exact h2
      ·exact h1.black _ (Sm.out _ (List.getElem_mem hi)) (hbl.out i hi (by omega)):mkD s4 L[i]=2))
     have pf:=Blk.n0 hFr.kf;clear hye;generalize L[j]=y at*;replace hLS:=hide hLS;replace hFr:=hide hFr;replace k0:=hide k0;replace hgr:=hide hgr;replace hyl:=hide hyl;go_wp2_with fail;refine hcall.out.mono ?_;rintro e w4 ⟨b4,s4,rfl,k4,hg4,hgood,hbad⟩;have hge:w.grownBy w4 (some S0):=ak hgr.out hg4;cases b4 with
     |true=>
      obtain⟨hD4,hb4⟩:=hgood rfl;have hD5:=hide (hD.out.trans hD4);have Vs:=hide (hst.out s4 hD4 hb4);have Vt:aP w4 (fun b=>w.heap.size≤b∧b<w2.heap.size) (.slice (some ⟨bl,ol,none⟩) L.length cL) (aC L):=aP.keep hLS.out (Agree.grown hg4 fun b hb=>⟨by omega,fun e=>by injection e with e;omega⟩) (fun b h=>h);have Lr:=hg4.size;clear hgood hbad hD4 hb4 hst hcall hcl hD hbl;go_wp2;go_roundw;case rel=>exact⟨j+1,s4,by omega,by go_num,k4,hge,hD5,Vs,Vt,by omega⟩
      case measure=>simp[intOf];omega
     |false=>
      have hcy:=hide (hbad rfl);clear hgood hbad hst hcall hcl hD hbl;go_wp2;go_ret;exact⟨false,s4,rfl,k4,hge,fun e=>(by cases e),fun _=>hcy.out⟩
    ·obtain rfl:j=L.length:=(by omega);have hbk:=hide (fun y (hy:y<H.length) (he:gK H R x y=true)=>(by
      rw[hE.out]at he;obtain⟨i,hi,rfl⟩:=List.getElem_of_mem (List.contains_iff_mem.1 he);exact hbl.out i hi hi:mkD s' y=2))
     have hfin:=hide (hcl.out s' hD.out hbk.out);have k0e:=k0.aM x (.int .i64 2);rw[zR]at k0e;have d1:=(k0.cell x).trans (Cw (by rw[hD.out.inv.len];exact hx));have f0:=k0.frozen x;have d0:=Blk.n0 hFr.k1;have hge:w.grownBy (wr.setCell ⟨S0,x,none⟩ (.int .i64 2)) (some S0):=ak hgr (bS S0 x _);replace hFr:=hide hFr;replace k0:=hide k0;replace hgr:=hide hgr;clear hbl hbk hLS;go_wp2;go_ret;exact⟨true,s'.set x 2,rfl,k0e,hge,fun _=>hfin.out,fun e=>(by cases e)⟩
  ·have hcy:=hg.hit hx hv;rw[hv]at d1;replace hI:=hide hI;replace hg:=hide hg;replace hF:=hide hF;replace hcy:=hide hcy;clear hz hv hsl;go_enter Tryz.func94,Tryz.ntmps94;go_wp2;go_ret;exact⟨false,s,rfl,hF.out.k0,World.grownBy.refl _ _,fun e=>(by cases e),fun _=>hcy.out⟩
  ·rw[hv]at d1;have hO:=hide (oC.refl hI);replace hI:=hide hI;replace hg:=hide hg;replace hF:=hide hF;replace hv:=hide hv;clear hz hsl;go_enter Tryz.func94,Tryz.ntmps94;go_wp2;go_ret;exact⟨true,s,rfl,hF.out.k0,World.grownBy.refl _ _,fun _=>⟨hO.out,hv.out⟩,fun e=>(by cases e)⟩
end Go.Proofs.YtfhnamomiaekdaaGreatDoor
