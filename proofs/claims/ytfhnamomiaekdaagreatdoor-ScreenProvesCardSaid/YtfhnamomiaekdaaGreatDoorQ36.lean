/-
  Walks: layer 22: whether each fact follows from those ahead of it.
-/
import Derived.Test.YtfhnamomiaekdaaGreatDoorQ35
import Derived.Test.YtfhnamomiaekdaaGreatDoorQ15
import Derived.Test.YtfhnamomiaekdaaGreatDoorQ28
set_option linter.unusedVariables false
set_option linter.unusedSimpArgs false
namespace Go.Proofs.YtfhnamomiaekdaaGreatDoor
open Go.RowKit Go.Inq
set_option maxHeartbeats 8000000
attribute [local go_sem↓] Go.wp_at_zero Go.wp_at_succ
theorem MK{H:List Txn}{level:Int}{L:List Fct}{i:Nat}(hi:i<L.length)(h:bP H level (L.take i) L[i]=false):l6 H level L=false:=by
 unfold l6;rw[Ij (i:=i) (by rw[Ae hi];exact h) hi];rfl
theorem I8{H:List Txn}{level:Int}{L:List Fct}{i:Nat}(hi:i<L.length)(h:jr H level L i=true)(h2:bP H level (L.take i) L[i]=true):jr H level L (i+1)=true:=by
 rw[CB,h,Ae hi,h2];rfl
theorem Lp{H:List Txn}{level:Int}{L:List Fct}(h:jr H level L L.length=true):l9 H level=l6 H level L:=by
 unfold l6;rw[h];rfl
set_option maxRecDepth 100000 in
theorem AQ(A:Option Addr)(c:Nat)(H:List Txn)(level:Int)(Al:Option Addr)(cl:Nat)(L:List Fct)(w:World)(h:av w (Old w) (.slice A H.length c) H)(hn:aC H)(hL:iG w (Old w) (.slice Al L.length cl) L)(hF:NV L):
 Calls Tryz.prog 50 #[.agg #[.slice A H.length c],.int .i64 level,.slice Al L.length cl] w fun e w'=>e= .returned (.bool (l6 H level L))∧Below w.heap.size w w':=by
 obtain⟨W0,hW0⟩:∃W0,w.alloc (.cells #[.slice A H.length c] 24)=W0:=⟨_,rfl⟩;have hB:=ah (Below.refl w.heap.size w) hW0 (Nat.le_refl _);have k0:=Blk.newEq hW0;have hl:=hF.1;have hma:=hide (fun W (hb:Below w.heap.size w W)=>sH A c H level W (h.below hb) hn);have hm2:Hid (l9 H level=(aA H&&(decide (level=0)||decide (level=1)))):=hide rfl;rw[←hm2.out]at hma;have hho:=hide (fun i (hi:i<L.length) Ay cy W (hb:Below w.heap.size w W) (hy:aN W (Old W) (.slice Ay L[i].cyc.length cy) L[i].cyc)=>(by
  have hlt:(L.take i).length=i:=(by rw[List.length_take];omega);have:=Di A c H level Al cl (L.take i) L[i] Ay cy W (h.below hb) hn (by rw[hlt];exact(hL.below hb).take (by omega)) (by omega) hy (hF.2 _ (List.getElem_mem hi));rw[hlt]at this;exact this:Calls Tryz.prog 51 #[.agg #[.slice A H.length c],.int .i64 level,.slice Al i cl,.agg #[.int .i64 L[i].c.key,.int .i64 L[i].c.a,.int .i64 L[i].c.b,.int .i64 L[i].kind,.int .i64 L[i].i,.int .i64 L[i].j,.slice Ay L[i].cyc.length cy]] W fun e w'=>e= .returned (.bool (bP H level (L.take i) L[i]))∧Below W.heap.size W w'))
 have hno:=hide (fun i (hi:i<L.length)=>MK (H:=H) (level:=level) hi);have hst:=hide (fun i (hi:i<L.length)=>I8 (H:=H) (level:=level) hi);have hend:=hide (Lp (H:=H) (level:=level) (L:=L));obtain⟨r,hr⟩:∃r,l6 H level L=r:=⟨_,rfl⟩;rw[hr]at hno hend;rw[hr];replace hL:=hide hL;have hcap:=hide hL.out.cap;replace hF:=hide hF;clear h hr hm2;go_enter Tryz.func50,Tryz.ntmps50;go_wp2_with fail;clear hW0;go_loopw [11] (fun s11 wr=>∃k:Nat,k≤L.length∧s11= .int .i64 (k:Int)∧Hid (jr H level L k=true)∧Blk wr w.heap.size 24 #[.slice A H.length c]∧Below w.heap.size w wr) (fun s11 _=>L.length-(intOf s11).toNat);case atStart=>exact⟨0,by omega,by go_num,hide rfl,k0,hB⟩
 case round=>
  clear k0 hB;obtain⟨Wo,rfl⟩:∃Wo,Wo=wr:=⟨_,rfl⟩;obtain⟨k,hk,rfl,hrp,k0,hb⟩:=hrel;have hk0:(0:Int)≤(k:Int):=Int.natCast_nonneg _;by_cases hlt:k<L.length
  ·have hk1:(k:Int)<(L.length:Int):=(by omega);have hkc:k≤cl:=(by have:=hcap.out;omega);have RZ:(k:Int)≤(cl:Int):=(by omega);obtain⟨b,off,Ay,cy,rfl,-,d⟩:=(hL.out.below hb).at_ hlt;obtain⟨d0,d1,d2,d3,d4,d5,d6,dy⟩:=d;have hn1:=hide (hno.out k hlt);have hs1:=hide (hst.out k hlt hrp.out);have hA:=ah hb (W:=Wo.alloc (.cells #[.int .i64 L[k].c.key,.int .i64 L[k].c.a,.int .i64 L[k].c.b,.int .i64 L[k].kind,.int .i64 L[k].i,.int .i64 L[k].j,.slice Ay L[k].cyc.length cy] 104)) rfl hb.size;have hcl:=hide (hho.out k hlt Ay cy _ hA.drew (aN.keep dy ((Agree.alloc (fun b h=>h) _).trans (Agree.drew _ _)) (fun b h=>by have:b<Wo.heap.size:=h;show b<_;simp;omega)));generalize bP H level (L.take k) L[k]=q at*;generalize L[k]=f at*;obtain⟨⟨fk,fa,fb⟩,fd,fi,fj,fy⟩:=f;dsimp only at d0 d1 d2 d3 d4 d5 d6 hcl hA;have kA:=k0.alloc (.cells #[.int .i64 fk,.int .i64 fa,.int .i64 fb,.int .i64 fd,.int .i64 fi,.int .i64 fj,.slice Ay fy.length cy] 104);clear dy hho hno hst;go_upto_region 4 with fail;generalize hWa:Wo.alloc (.cells #[.int .i64 fk,.int .i64 fa,.int .i64 fb,.int .i64 fd,.int .i64 fi,.int .i64 fj,.slice Ay fy.length cy] 104)=Wa at*;have nn:=Blk.newEq hWa;have hsa:=hA.size;clear hWa d0 d1 d2 d3 d4 d5 d6;have c0:=Blk.n0 kA;have e0:=Blk.n0 nn;have e1:=Blk.n1 nn;have e2:=Blk.n2 nn;have e3:=Blk.n3 nn;have e4:=Blk.n4 nn;have e5:=Blk.n5 nn;have e6:=Blk.n6 nn;refine fV [0,1,2,3,4,5] [6,7] (by kernel_rfl) (by kernel_rfl) (fun _ _ d _ _ h=>by cases d<;>exact h) ?_;simp only[List.filterMap_cons,List.filterMap_nil,gZ,gS];repeat still_step
   refine wpStill_nil ?_;go_wp2_with fail;refine hcl.out.mono ?_;rintro e w1 ⟨rfl,hb1⟩;have hb2:=(lM hA).trans (hb1.mono hA.size);have k1:=kA.drew.below hb1 kA.lt;clear hcl;cases q with
   |false=>
    obtain rfl:r=false:=hn1.out rfl;clear hn1 hs1 hend;go_wp2;go_ret;exact⟨rfl,hb2⟩
   |true=>
    have hs2:=hide (hs1.out rfl);clear hn1 hs1;go_wp2;go_roundw;case rel=>exact⟨k+1,by omega,by go_num,hs2,k1,hb2⟩
    case measure=>simp[intOf];omega
  ·obtain rfl:k=L.length:=(by omega);have he:=hend.out hrp.out;have hmc:=hide (hma.out Wo hb);rw[he]at hmc;have c0:=Blk.n0 k0;replace he:=hide he;clear hno hst hho hend hma;go_wp2_with fail;refine hmc.out.mono ?_;rintro e w1 ⟨rfl,hb1⟩;go_wp2;go_ret;exact⟨rfl,hb.trans (hb1.mono hb.size)⟩
end Go.Proofs.YtfhnamomiaekdaaGreatDoor
namespace Go.Proofs.YtfhnamomiaekdaaGreatDoor
open Go.RowKit Go.Inq
theorem Lr{H:List Txn}{π:List Int}(hp:π.length≤1000000):Lc (fC H π):=by
 unfold fC;split
 ·next h=>
  have:=jI h.1;refine⟨by rw[List.length_map];omega,fun r hr=> ?_⟩;obtain⟨k,hk,rfl⟩:=List.mem_map.1 hr;exact Nat.le_trans (List.length_filter_le _ _) hp
 ·exact⟨by simp,fun r hr=>by cases hr⟩
theorem I9{H:List Txn}{level:Int}{π:List Int}(hr:aA H=true)(h:Ik H level π=true):xD H level true (if level=0 then π else[]) (if level=0 then[]else fC H π) []=true:=by
 unfold Ik at h;unfold xD;rw[if_pos rfl];by_cases h0:level=0
 ·rw[if_pos h0]at h⊢;rw[if_pos h0,if_pos h0];unfold sV;rw[hr,h];rfl
 ·rw[if_neg h0]at h⊢;rw[if_neg h0,if_neg h0];by_cases h1:level=1
  ·rw[if_pos h1]at h⊢;rw[h];rfl
  ·rw[if_neg h1]at h;cases h
end Go.Proofs.YtfhnamomiaekdaaGreatDoor
