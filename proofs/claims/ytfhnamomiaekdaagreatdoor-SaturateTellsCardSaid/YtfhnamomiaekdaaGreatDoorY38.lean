/-
  Walks: layer 22's reference: whether a history is small.
-/
import Derived.Test.YtfhnamomiaekdaaGreatDoorY30
import Derived.Test.YtfhnamomiaekdaaGreatDoorY23
import Derived.Test.YtfhnamomiaekdaaGreatDoorY28
import Derived.Test.YtfhnamomiaekdaaGreatDoorY21
set_option linter.unusedVariables false
set_option linter.unusedSimpArgs false
namespace Go.Proofs.YtfhnamomiaekdaaGreatDoor
open Go.RowKit Go.Inq
set_option maxHeartbeats 8000000
attribute [local go_sem↓] Go.wp_at_zero Go.wp_at_succ
set_option maxRecDepth 100000 in
theorem yJ(A:Option Addr)(c:Nat)(H:List Txn)(key:Int)(w:World)(h:aF w (Old w) (.slice A H.length c) H)(hr:aC H=false)(hn:Mj H):
 Calls Tryz.prog 121 #[.agg #[.slice A H.length c],.int .i64 key] w fun e w'=>e= .returned (.slice none 0 0)∧Below w.heap.size w w':=by
 obtain⟨W0,hW0⟩:∃W0,w.alloc (.cells #[.slice A H.length c] 24)=W0:=⟨_,rfl⟩;have hB:=ah (Below.refl w.heap.size w) hW0 (Nat.le_refl _);have k0:=Blk.newEq hW0;have hrc:=hide (vg A c H W0 (h.below hB) hn);rw[hr]at hrc;have c0:=Blk.n0 k0;replace hr:=hide hr;replace hn:=hide hn;clear h;go_enter Tryz.func121,Tryz.ntmps121;go_wp2_with fail;clear hW0 c0;refine hrc.out.mono ?_;rintro e w1 ⟨rfl,hb1⟩;have k1:=k0.below hb1 k0.lt;have c0:=Blk.n0 k1;clear hrc;go_wp2_with fail;go_loopw [5,7] (fun s5 s7 wr=>wr=w1∧s7= .int .i64 0∧s5= .slice none 0 0) (fun _ s7 _=>0);case atStart=>exact⟨rfl,rfl,rfl⟩
 case round=>
  obtain⟨rfl,rfl,rfl⟩:=hrel;go_wp2;go_ret;exact⟨rfl,hB.trans (hb1.mono hB.size)⟩
set_option maxRecDepth 100000 in
theorem BJ(A:Option Addr)(c:Nat)(H:List Txn)(w:World)(h:aF w (Old w) (.slice A H.length c) H)(hr:aC H=false)(hn:Mj H):
 Calls Tryz.prog 58 #[.agg #[.slice A H.length c]] w fun e w'=>e= .returned (.slice none 0 0)∧Below w.heap.size w w':=by
 obtain⟨W0,hW0⟩:∃W0,w.alloc (.cells #[.slice A H.length c] 24)=W0:=⟨_,rfl⟩;have hB:=ah (Below.refl w.heap.size w) hW0 (Nat.le_refl _);have k0:=Blk.newEq hW0;have hT:=hide (h.below hB);replace hr:=hide hr;replace hn:=hide hn;clear h;go_enter Tryz.func58,Tryz.ntmps58;go_wp2_with fail;clear hW0;go_loopw [3,4] (fun s3 s4 wr=>∃k:Nat,k≤16∧s4= .int .i64 k∧s3= .slice none 0 0∧Below W0.heap.size W0 wr) (fun _ s4 _=>16-(intOf s4).toNat);case atStart=>exact⟨0,Nat.zero_le _,by go_num,rfl,Below.refl _ _⟩
 case round=>
  obtain⟨k,hk,rfl,rfl,hb⟩:=hrel;have hk1:(0:Int)≤(k:Int):=Int.natCast_nonneg _;by_cases hlt:k<16
  ·have hk2:(k:Int)<16:=(by omega);have k1:=k0.below hb k0.lt;have c0:=Blk.n0 k1;have hcw:=hide (yJ A c H (k:Int) wr (hT.out.below hb) hr.out hn.out);obtain⟨Wo,rfl⟩:∃Wo,Wo=wr:=⟨_,rfl⟩;go_wp2_with fail;clear c0;refine hcw.out.mono ?_;rintro e wl ⟨rfl,hbl⟩;have hb2:=hb.trans (hbl.mono hb.size);go_wp2_with fail;go_loopw [3,6] (fun s3 s6 wq=>wq=wl∧s6= .int .i64 0∧s3= .slice none 0 0) (fun _ s6 _=>0);case atStart=>exact⟨rfl,rfl,rfl⟩
   case round=>
    obtain⟨rfl,rfl,rfl⟩:=hrel;go_wp2;go_roundw;case rel=>exact⟨k+1,by omega,by go_num,rfl,hb2⟩
    case measure=>simp[intOf];omega
  ·obtain rfl:k=16:=(by omega);go_wp2;go_ret;exact⟨rfl,hB.trans (hb.mono hB.size)⟩
set_option maxHeartbeats 4000000
set_option maxRecDepth 100000 in
theorem tV(A:Option Addr)(c:Nat)(H:List Txn)(x y:Int)(w:World)(h:aF w (Old w) (.slice A H.length c) H)(hn:aB H):
 Calls Tryz.prog 18 #[.agg #[.slice A H.length c],.agg #[.int .i64 x,.int .i64 y]] w fun e w'=>e= .returned (.bool (jR H x y))∧Below w.heap.size w w':=by
 obtain⟨W0,hW0⟩:∃W0,(w.alloc (.cells #[.slice A H.length c] 24)).alloc (.cells #[.int .i64 x,.int .i64 y] 32)=W0:=⟨_,rfl⟩;have hB:=aG hW0;have k0:=Blk.fC hW0;have k1:=Blk.dQ hW0;have hpx:Hid (∃n:Nat,(aC H=true→n=(aM H).length)∧∀W,Below w.heap.size w W→Calls Tryz.prog 58 #[.agg #[.slice A H.length c]] W fun e w'=>(∃A' c',e= .returned (.slice A' n c'))∧Below W.heap.size W w'):=hide (by
  cases hr:aC H with
  |true=>
   refine⟨(aM H).length,fun _=>rfl,fun W hb=>(nK A c H W (h.below hb) hr hn).mono ?_⟩;rintro e w1 ⟨v,rfl,hv,hb⟩;obtain⟨A',c',rfl⟩:=hv.form;exact⟨⟨A',c',rfl⟩,hb⟩
  |false=>
   refine⟨0,(by simp),fun W hb=>(BJ A c H W (h.below hb) hr hn.len).mono ?_⟩;rintro e w1 ⟨rfl,hb⟩;exact⟨⟨none,0,rfl⟩,hb⟩)
 obtain⟨n,hn2,hpc⟩:=hpx.out;clear hpx;have hrc:=hide (gG A c H W0 (h.below hB) hn);obtain⟨r,hr⟩:∃r,jR H x y=r:=⟨_,rfl⟩;have hre:Hid (r=(aC H&&decide (0≤y)&&decide (y≤(n:Int))&&decide (0≤x)&&decide (x<max (n:Int) 1))):=hide (by
  rw[←hr];unfold jR;cases hq:aC H with
  |true=>rw[hn2 hq]
  |false=>rfl)
 rw[hr];have c0:=Blk.n0 k0;generalize aC H=q at*;replace hpc:=hide hpc;clear h hr hn2;go_enter Tryz.func18,Tryz.ntmps18;go_wp2_with fail;clear hW0;refine hrc.out.mono ?_;rintro e w1 ⟨rfl,hb1⟩;have hB1:=hB.trans (hb1.mono hB.size);replace k0:=k0.below hb1 k0.lt;replace k1:=k1.below hb1 k1.lt;have hp1:=hide (hpc.out w1 hB1);clear hpc hb1 hB hrc c0;have c0:=Blk.n0 k0;go_wp2_with fail;refine hp1.out.mono ?_;rintro e w2 ⟨⟨A',c',rfl⟩,hb2⟩;have hB2:=hB1.trans (hb2.mono hB1.size);replace k1:=k1.below hb2 k1.lt;have d0:=Blk.n0 k1;have d1:=Blk.n1 k1;clear hp1 hb2 hB1 c0 k0 k1;have hn0:(0:Int)≤(n:Int):=Int.natCast_nonneg _;cases q with
 |false=>
  obtain rfl:r=false:=(by rw[hre.out];rfl);clear hre;go_wp2;go_ret;exact⟨rfl,hB2⟩
 |true=>
  obtain⟨z1,h1⟩:∃z,decide (y≥0)=z:=⟨_,rfl⟩;obtain⟨z2,h2⟩:∃z,decide (y≤(n:Int))=z:=⟨_,rfl⟩;obtain⟨z3,h3⟩:∃z,decide (x≥0)=z:=⟨_,rfl⟩;obtain⟨z4,h4⟩:∃z,decide (x<(n:Int))=z:=⟨_,rfl⟩;obtain⟨z5,h5⟩:∃z,(x==0)=z:=⟨_,rfl⟩;have hz:Hid (r=(z1&&z2&&z3&&(z4||z5))):=hide (by
   rw[hre.out,←h1,←h2,←h3,←h4,←h5];have hm:0≤x→decide (x<max (n:Int) 1)=(decide (x<(n:Int))||(x==0)):=fun g=>by
    rw[Bool.eq_iff_iff];simp only[Bool.or_eq_true,decide_eq_true_eq,beq_iff_eq];omega
   by_cases g3:0≤x
   ·rw[hm g3,decide_eq_true g3];simp
   ·rw[decide_eq_false g3];simp)
  clear hre hn0;cases z1
  ·obtain rfl:r=false:=(by rw[hz.out];rfl);clear hz h2 h3 h4 h5;go_wp2;go_ret;exact⟨rfl,hB2⟩
  ·cases z2
   ·obtain rfl:r=false:=(by rw[hz.out];rfl);clear hz h3 h4 h5;go_wp2;go_ret;exact⟨rfl,hB2⟩
   ·cases z3
    ·obtain rfl:r=false:=(by rw[hz.out];rfl);clear hz h4 h5;go_wp2;go_ret;exact⟨rfl,hB2⟩
    ·cases z4
     ·obtain rfl:r=z5:=(by rw[hz.out];rfl);clear hz;cases r;all_goals
       go_wp2;go_ret;exact⟨rfl,hB2⟩
     ·obtain rfl:r=true:=(by rw[hz.out];rfl);clear hz h5;go_wp2;go_ret;exact⟨rfl,hB2⟩
end Go.Proofs.YtfhnamomiaekdaaGreatDoor
