/-
  Walks: layer 9: pairs of a history that may not be; layer 29: whether a state may be.
-/
import Derived.Test.YtfhnamomiaekdaaGreatDoorY05
import Derived.Test.YtfhnamomiaekdaaGreatDoorY08
set_option linter.unusedVariables false
set_option linter.unusedSimpArgs false
namespace Go.Proofs.YtfhnamomiaekdaaGreatDoor
open Go.RowKit Go.Inq
set_option maxHeartbeats 4000000
attribute [local go_sem↓] Go.wp_at_zero Go.wp_at_succ
set_option maxRecDepth 100000 in
theorem Jc(A:Option Addr)(c:Nat)(H:List Txn)(w:World)(h:aF w (Old w) (.slice A H.length c) H)(hn:aB H)(hr:aC H=false):
 Calls Tryz.prog 114 #[.agg #[.slice A H.length c]] w fun e w'=>e= .returned (.slice none 0 0)∧Below w.heap.size w w':=by
 obtain⟨W0,hW0⟩:∃W0,w.alloc (.cells #[.slice A H.length c] 24)=W0:=⟨_,rfl⟩;have hB:=ah (Below.refl w.heap.size w) hW0 (Nat.le_refl _);have k0:=Blk.newEq hW0;have hrc:=hide (fF A c H W0 (h.below hB) hn);rw[hr]at hrc;have c0:=Blk.n0 k0;clear h hr;go_enter Tryz.func114,Tryz.ntmps114;go_wp2_with fail;clear hW0;refine hrc.out.mono ?_;rintro e w1 ⟨rfl,hb1⟩;go_wp2;go_ret;exact⟨rfl,hB.trans (hb1.mono hB.size)⟩
set_option maxRecDepth 100000 in
theorem Fu(A:Option Addr)(c:Nat)(H:List Txn)(w:World)(h:aF w (Old w) (.slice A H.length c) H)(hn:aB H)(hr:aC H=false):
 Calls Tryz.prog 52 #[.agg #[.slice A H.length c]] w fun e w'=>e= .returned (.slice none 0 0)∧Below w.heap.size w w':=by
 obtain⟨W0,hW0⟩:∃W0,w.alloc (.cells #[.slice A H.length c] 24)=W0:=⟨_,rfl⟩;have hB:=ah (Below.refl w.heap.size w) hW0 (Nat.le_refl _);have k0:=Blk.newEq hW0;have hrc:=hide (Jc A c H W0 (h.below hB) hn hr);have c0:=Blk.n0 k0;clear h hr;go_enter Tryz.func52,Tryz.ntmps52;go_wp2_with fail;clear hW0;refine hrc.out.mono ?_;rintro e w1 ⟨rfl,hb1⟩;have hb:=hB.trans (hb1.mono hB.size);clear hrc hb1 hB k0 c0;go_wp2_with fail;go_loopw [3,14] (fun s3 s14 wr=>s3= .slice none 0 0∧s14= .int .i64 0∧Below w.heap.size w wr) (fun _ _ _=>0);case atStart=>exact⟨rfl,rfl,hb⟩
 case round=>
  clear hb;obtain⟨rfl,rfl,hb⟩:=hrel;go_wp2;go_ret;exact⟨rfl,hb⟩
set_option maxRecDepth 100000 in
theorem nC(A:Option Addr)(c:Nat)(H:List Txn)(x y:Int)(w:World)(h:aF w (Old w) (.slice A H.length c) H)(hn:aB H):
 Calls Tryz.prog 17 #[.agg #[.slice A H.length c],.agg #[.int .i64 x,.int .i64 y]] w fun e w'=>e= .returned (.bool (jR H x y))∧Below w.heap.size w w':=by
 obtain⟨W0,hW0⟩:∃W0,(w.alloc (.cells #[.slice A H.length c] 24)).alloc (.cells #[.int .i64 x,.int .i64 y] 26)=W0:=⟨_,rfl⟩;have hB:=aG hW0;have k0:=Blk.fC hW0;have k1:=Blk.dQ hW0;have hpa:∃n:Nat,(aC H=true→n=(aM H).length)∧Calls Tryz.prog 52 #[.agg #[.slice A H.length c]] W0 fun e w'=>(∃A' c',e= .returned (.slice A' n c'))∧Below W0.heap.size W0 w':=by
  cases hr:aC H with
  |true=>
   refine⟨(aM H).length,fun _=>rfl,(qR A c H W0 (h.below hB) hn hr).mono ?_⟩;rintro e w1 ⟨v,rfl,hv,hb⟩;obtain⟨A',c',rfl⟩:=hv.form;exact⟨⟨A',c',rfl⟩,hb⟩
  |false=>
   refine⟨0,(by simp),(Fu A c H W0 (h.below hB) hn hr).mono ?_⟩;rintro e w1 ⟨rfl,hb⟩;exact⟨⟨none,0,rfl⟩,hb⟩
 obtain⟨n,hn2,hpc⟩:=hpa;have hrc:=hide (fun W (hb:Below w.heap.size w W)=>fF A c H W (h.below hb) hn);obtain⟨r,hr⟩:∃r,jR H x y=r:=⟨_,rfl⟩;have hre:Hid (r=(aC H&&decide (0≤y)&&decide (y≤(n:Int))&&decide (0≤x)&&decide (x<max (n:Int) 1))):=hide (by
  rw[←hr];unfold jR;cases hq:aC H with
  |true=>rw[hn2 hq]
  |false=>rfl)
 rw[hr];have c0:=Blk.n0 k0;generalize aC H=q at*;replace hpc:=hide hpc;clear h hr hn2;go_enter Tryz.func17,Tryz.ntmps17;go_wp2_with fail;clear hW0;refine hpc.out.mono ?_;rintro e w1 ⟨⟨A',c',rfl⟩,hb1⟩;have hB1:=hB.trans (hb1.mono hB.size);replace k0:=k0.below hb1 k0.lt;replace k1:=k1.below hb1 k1.lt;have Qp:=hide (hrc.out w1 hB1);clear hpc hb1 hB hrc c0;have c0:=Blk.n0 k0;go_wp2_with fail;refine Qp.out.mono ?_;rintro e w2 ⟨rfl,hb2⟩;have hB2:=hB1.trans (hb2.mono hB1.size);replace k1:=k1.below hb2 k1.lt;have d0:=Blk.n0 k1;have d1:=Blk.n1 k1;clear Qp hb2 hB1 c0 k0 k1;cases q with
 |false=>
  obtain rfl:r=false:=(by rw[hre.out];rfl);clear hre;go_wp2;go_ret;exact⟨rfl,hB2⟩
 |true=>
  by_cases h1:0≤y
  ·have g1:decide (y≥0)=true:=(by simpa using h1);by_cases h2:y≤(n:Int)
   ·have g2:decide (y≤(n:Int))=true:=(by simpa using h2);by_cases h3:0≤x
    ·have g3:decide (x≥0)=true:=(by simpa using h3);obtain⟨z,hz⟩:∃z,decide (x<max (n:Int) 1)=z:=⟨_,rfl⟩;have hrq:r=z:=(by rw[hre.out,hz];simp[h1,h2,h3]);subst hrq;clear hre h1 h2 h3;go_wp2;go_ret;exact⟨by first|rfl|exact bP hz,hB2⟩
    ·have g3:decide (x≥0)=false:=(by simpa using h3);obtain rfl:r=false:=(by rw[hre.out];simp[h3]);clear hre h3;go_wp2;go_ret;exact⟨rfl,hB2⟩
   ·have g2:decide (y≤(n:Int))=false:=(by simpa using h2);obtain rfl:r=false:=(by rw[hre.out];simp[h2]);clear hre h2;go_wp2;go_ret;exact⟨rfl,hB2⟩
  ·have g1:decide (y≥0)=false:=(by simpa using h1);obtain rfl:r=false:=(by rw[hre.out];simp[h1]);clear hre h1;go_wp2;go_ret;exact⟨rfl,hB2⟩
end Go.Proofs.YtfhnamomiaekdaaGreatDoor
