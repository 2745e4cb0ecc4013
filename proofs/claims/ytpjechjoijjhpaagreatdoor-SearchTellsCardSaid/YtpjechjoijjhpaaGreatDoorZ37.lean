/-
  Walks: layer 22's reference: whether each fact follows from those ahead of it.
-/
import Derived.Test.YtpjechjoijjhpaaGreatDoorZ36
import Derived.Test.YtpjechjoijjhpaaGreatDoorZ16
set_option linter.unusedVariables false
set_option linter.unusedSimpArgs false
namespace Go.Proofs.YtpjechjoijjhpaaGreatDoor
open Go.RowKit Go.Inq
set_option maxHeartbeats 8000000
attribute [local go_sem↓] Go.wp_at_zero Go.wp_at_succ
theorem PV{H:List Txn}{level:Int}{L:List Fct}(h:kI H level=false):eu H level L=false:=by
 unfold eu;rw[h,Bool.and_false]
set_option maxRecDepth 100000 in
theorem rH(A:Option Addr)(c:Nat)(H:List Txn)(level:Int)(Al:Option Addr)(cl:Nat)(L:List Fct)(w:World)(h:aC w (Old w) (.slice A H.length c) H)(hn:aA H)(hL:bM w (Old w) (.slice Al L.length cl) L)(hF:tH L)(hl:L.length≤100000):
 Calls Tryz.prog 42 #[.agg #[.slice A H.length c],.int .i64 level,.slice Al L.length cl] w fun e w'=>e= .returned (.bool (eu H level L))∧Below w.heap.size w w':=by
 obtain⟨W0,hW0⟩:∃W0,w.alloc (.cells #[.slice A H.length c] 24)=W0:=⟨_,rfl⟩;have hB:=ah (Below.refl w.heap.size w) hW0 (Nat.le_refl _);have k0:=Blk.newEq hW0;have hrc:=hide (gP A c H W0 (h.below hB) hn);have hho:=hide (fun i (hi:i<L.length) Ay cy W (hb:Below w.heap.size w W) (hy:aM W (Old W) (.slice Ay L[i].cyc.length cy) L[i].cyc)=>(by
  have hlt:(L.take i).length=i:=(by rw[List.length_take];omega);have:=D6 A c H level Al cl (L.take i) L[i] Ay cy W (h.below hb) hn (by rw[hlt];exact(hL.below hb).take (by omega)) (by omega) hy (hF.2 _ (List.getElem_mem hi));rw[hlt]at this;exact this:Calls Tryz.prog 84 #[.agg #[.slice A H.length c],.int .i64 level,.slice Al i cl,.agg #[.int .i64 L[i].c.key,.int .i64 L[i].c.a,.int .i64 L[i].c.b,.int .i64 L[i].kind,.int .i64 L[i].i,.int .i64 L[i].j,.slice Ay L[i].cyc.length cy]] W fun e w'=>e= .returned (.bool (bQ H level (L.take i) L[i]))∧Below W.heap.size W w'))
 have hno:=hide (fun i (hi:i<L.length)=>JM (H:=H) (level:=level) hi);have hst:=hide (fun i (hi:i<L.length)=>Cr (H:=H) (level:=level) hi);have hend:=hide (ER (H:=H) (level:=level) (L:=L));have hmay:=hide (PV (H:=H) (level:=level) (L:=L));obtain⟨r,hr⟩:∃r,eu H level L=r:=⟨_,rfl⟩;rw[hr]at hno hend hmay;rw[hr];replace hL:=hide hL;have hcap:=hide hL.out.cap;replace hF:=hide hF;have c0:=Blk.n0 k0;have hme:=hide (Ke (H:=H) (level:=level));obtain⟨rt,hrt⟩:∃rt,aG H=rt:=⟨_,rfl⟩;rw[hrt]at hme hrc;clear h hr hrt;go_enter Tryz.func42,Tryz.ntmps42;go_wp2_with fail;clear hW0;refine hrc.out.mono ?_;rintro e w1 ⟨rfl,hb1⟩;have hB1:=hB.trans (hb1.mono hB.size);replace k0:=k0.below hb1 k0.lt;clear hrc hb1 hB c0;cases rt with
 |false=>
  obtain rfl:=hmay.out (by rw[hme.out];rfl);clear hme hmay hno hst hend hho;go_wp2;go_ret;exact⟨rfl,hB1⟩
 |true=>
  by_cases hlv:level=0∨level=1
  ·have hlb:=xO hlv;have hmt:kI H level=true:=(by rw[hme.out];rcases hlv with rfl|rfl<;>rfl);have FJ:=hide (fun e=>(hend.out e).symm.trans hmt);clear hlv hmt hme hmay hend;rcases hlb with hlb|⟨hlb,UR⟩;all_goals
    go_upto_region 5 with fail;go_loopw [8] (fun s11 wr=>∃k:Nat,k≤L.length∧s11= .int .i64 (k:Int)∧Hid (jk H level L k=true)∧Blk wr w.heap.size 24 #[.slice A H.length c]∧Below w.heap.size w wr) (fun s11 _=>L.length-(intOf s11).toNat);case atStart=>exact⟨0,by omega,by go_num,hide rfl,k0,hB1⟩
    case round=>
     clear k0 hB1;obtain⟨Wo,rfl⟩:∃Wo,Wo=wr:=⟨_,rfl⟩;obtain⟨k,hk,rfl,hrp,k0,hb⟩:=hrel;have hk0:(0:Int)≤(k:Int):=Int.natCast_nonneg _;by_cases hlt:k<L.length
     ·have hk1:(k:Int)<(L.length:Int):=(by omega);have hkc:k≤cl:=(by have:=hcap.out;omega);have RZ:(k:Int)≤(cl:Int):=(by omega);obtain⟨b,off,Ay,cy,rfl,-,d⟩:=(hL.out.below hb).at_ hlt;obtain⟨d0,d1,d2,d3,d4,d5,d6,dy⟩:=d;have hn1:=hide (hno.out k hlt);have hs1:=hide (hst.out k hlt hrp.out);have hcl:=hide (hho.out k hlt Ay cy _ hb.drew (aM.keep dy (Agree.drew _ _) (fun b h=>h)));generalize bQ H level (L.take k) L[k]=q at*;generalize L[k]=f at*;obtain⟨⟨fk,fa,fb⟩,fd,fi,fj,fy⟩:=f;dsimp only at d0 d1 d2 d3 d4 d5 d6 hcl;clear dy hho hno hst;have c0:=Blk.n0 k0;go_upto_region 7 with fail;refine bn [0,1,2,3,4,5,6,7,8] [9,10] (by kernel_rfl) (by kernel_rfl) (fun _ _ d _ _ h=>by cases d<;>exact h) ?_;simp only[List.filterMap_cons,List.filterMap_nil,gZ,gS];repeat still_step
      refine wpStill_nil ?_;go_wp2_with fail;refine hcl.out.mono ?_;rintro e w1 ⟨rfl,hb1⟩;have hb2:=(aZ hb).trans (hb1.mono hb.size);have k1:=k0.drew.below hb1 k0.lt;clear hcl c0 d0 d1 d2 d3 d4 d5 d6;cases q with
      |false=>
       obtain rfl:r=false:=hn1.out rfl;clear hn1 hs1 FJ;go_wp2;go_ret;exact⟨rfl,hb2⟩
      |true=>
       have hs2:=hide (hs1.out rfl);clear hn1 hs1;go_wp2;go_roundw;case rel=>exact⟨k+1,by omega,by go_num,hs2,k1,hb2⟩
       case measure=>simp[intOf];omega
     ·obtain rfl:k=L.length:=(by omega);obtain rfl:=FJ.out hrp.out;clear hno hst hho FJ;go_wp2;go_ret;exact⟨rfl,hb⟩
  ·have h0:(level !=0)=true:=(by rw[bne_iff_ne];omega);have h1:(level !=1)=true:=(by rw[bne_iff_ne];omega);obtain rfl:=hmay.out (by rw[hme.out,h0,h1];rfl);clear hlv hme hmay hno hst hend hho;go_wp2;go_ret;exact⟨rfl,hB1⟩
end Go.Proofs.YtpjechjoijjhpaaGreatDoor
