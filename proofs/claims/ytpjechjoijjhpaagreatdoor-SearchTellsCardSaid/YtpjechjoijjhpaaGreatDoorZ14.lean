/-
  Walks: layer 22: what facts choose.
-/
import Derived.Test.YtpjechjoijjhpaaGreatDoorZ01
import Derived.Test.YtpjechjoijjhpaaGreatDoorZ09
import Derived.Test.YtpjechjoijjhpaaGreatDoorZ03
import Derived.Test.YtpjechjoijjhpaaGreatDoorZ04
import Derived.Test.YtpjechjoijjhpaaGreatDoorZ05
import Derived.Test.YtpjechjoijjhpaaGreatDoorZ11
set_option linter.unusedVariables false
set_option linter.unusedSimpArgs false
namespace Go.Proofs.YtpjechjoijjhpaaGreatDoor
open Go.RowKit Go.Inq
set_option maxHeartbeats 4000000
attribute [local go_sem↓] Go.wp_at_zero Go.wp_at_succ
theorem vR{L:List Fct}{k:Nat}(h:k<L.length):ay (L.take (k+1))=ay (L.take k)++[L[k].c]:=by rw[List.take_succ_eq_append_getElem h,Gy]
set_option maxRecDepth 100000 in
theorem jB(A:Option Addr)(c:Nat)(L:List Fct)(w:World)(h:bM w (Old w) (.slice A L.length c) L)(hn:L.length≤1000000):
 Calls Tryz.prog 21 #[.slice A L.length c] w (ED w (ay L)):=by
 obtain⟨ic,hic,hi1,hi2,hi3⟩:=info_parts gY;have hst:=hide (fun k (hk:k<L.length)=>vR hk);have hall:=hide (show ay (L.take L.length)=ay L by rw[List.take_length]);replace h:=hide h;go_enter Tryz.func21,Tryz.ntmps21;go_wp2_with fail;go_loopw [3,8] (fun s3 s8 wr=>∃k:Nat,k≤L.length∧s8= .int .i64 k∧bG wr w.heap.size s3 (ay (L.take k))∧Below w.heap.size w wr) (fun _ s8 _=>L.length-(intOf s8).toNat);case atStart=>exact⟨0,Nat.zero_le _,by go_num,bG.nil _ _,Below.refl _ _⟩
 case round=>
  obtain⟨Wo,rfl⟩:∃Wo,Wo=wr:=⟨_,rfl⟩;obtain⟨k,hk,rfl,hown,hb⟩:=hrel;have hk1:(0:Int)≤(k:Int):=Int.natCast_nonneg _;by_cases hlt:k<L.length
  ·have hk2:(k:Int)<(L.length:Int):=(by omega);obtain⟨b,off,Ay,cy,rfl,-,d⟩:=(h.out.below hb).at_ hlt;obtain⟨d0,d1,d2,d3,d4,d5,d6,-⟩:=d;have hs:=hide (hst.out k hlt);have hl2:(ay (L.take k)).length≤1000000:=(by rw[bN,List.length_take];omega);generalize L[k]=f at*;obtain⟨⟨fk,fa,fb⟩,fd,fi,fj,fy⟩:=f;dsimp only at d0 d1 d2 d3 d4 d5 d6 hs;obtain⟨Av,cv,rfl⟩:=hown.form;generalize ay (L.take k)=M at*;have oL:=hb.size;have hA:=ah hb (W:=Wo.alloc (.cells #[.int .i64 fk,.int .i64 fa,.int .i64 fb,.int .i64 fd,.int .i64 fi,.int .i64 fj,.slice Ay fy.length cy] 67)) rfl oL;have hown2:=hide (World.ownsRow.alloc hown (.cells #[.int .i64 fk,.int .i64 fa,.int .i64 fb,.int .i64 fd,.int .i64 fi,.int .i64 fj,.slice Ay fy.length cy] 67));clear hown;go_upto_region 5 with fail;generalize hWa:Wo.alloc (.cells #[.int .i64 fk,.int .i64 fa,.int .i64 fb,.int .i64 fd,.int .i64 fi,.int .i64 fj,.slice Ay fy.length cy] 67)=Wa at*;have nn:=Blk.newEq hWa;have hsa:=hA.size;clear hWa d0 d1 d2 d3 d4 d5 d6;have e0:=Blk.n0 nn;have e1:=Blk.n1 nn;have e2:=Blk.n2 nn;go_wp2_with (at_builtin;refine aN (enc:=dX) rfl (.tmp 12) (.tmp 15) 52 rfl w.heap.size 62 ic _ 3 24 Tryz.underlying52 hic hi1 hi2 hi3 rfl (by decide) (.slice Av M.length cv) M rfl hown2.out (fun _=>rfl) (⟨fk,fa,fb⟩:Cho) _ rfl rfl bR (by simp[maxLen];omega) (by omega) hsa w w.heap.size (Nat.le_refl _) hA ?_;intro v1 w6 hown1 hg1 hb1 jN);go_wp2;go_roundw;case rel=>exact⟨k+1,by omega,by go_num,by rw[hs.out];exact hown1,hb1⟩
   case measure=>simp[intOf];omega
  ·obtain rfl:k=L.length:=(by omega);rw[hall.out]at hown;go_wp2;go_ret;exact⟨_,rfl,hown,hb⟩
set_option maxHeartbeats 8000000
set_option maxRecDepth 100000 in
theorem Dy(A:Option Addr)(c:Nat)(H:List Txn)(level:Int)(Al:Option Addr)(cl:Nat)(L:List Fct)(f:Fct)(Ac:Option Addr)(cc:Nat)(w:World)(h:aC w (Old w) (.slice A H.length c) H)(hn:aA H)(hL:bM w (Old w) (.slice Al L.length cl) L)(hl:L.length≤1000000)(hy:aM w (Old w) (.slice Ac f.cyc.length cc) f.cyc)(hyl:f.cyc.length≤1000000):
 Calls Tryz.prog 150 #[.agg #[.slice A H.length c,.int .i64 level,.slice Al L.length cl,.int .i64 f.c.key,.int .i64 f.c.a,.int .i64 f.c.b,.int .i64 f.kind,.int .i64 f.i,.int .i64 f.j,.slice Ac f.cyc.length cc]] w fun e w'=>e= .returned (.bool (Eb H level L f))∧Below w.heap.size w w':=by
 obtain⟨ic,hic,hi1,hi2,hi3⟩:=info_parts gY;obtain⟨⟨key,a,b⟩,kind,i,j,cyc⟩:=f;dsimp only at hy hyl⊢;obtain⟨W0,hW0⟩:∃W0,w.alloc (.cells #[.slice A H.length c,.int .i64 level,.slice Al L.length cl,.int .i64 key,.int .i64 a,.int .i64 b,.int .i64 kind,.int .i64 i,.int .i64 j,.slice Ac cyc.length cc] 177)=W0:=⟨_,rfl⟩;have hB:=ah (Below.refl w.heap.size w) hW0 (Nat.le_refl _);have k0:=Blk.newEq hW0;obtain⟨r,hr⟩:∃r,Eb H level L ⟨⟨key,a,b⟩,kind,i,j,cyc⟩=r:=⟨_,rfl⟩;have hre:Hid (r=(decide (i=0)&&decide (j=0)&&iE H level (ay L++[⟨key,b,a⟩]) cyc)):=hide hr.symm;rw[hr];have hcs:=hide (fun W (hb:Below w.heap.size w W)=>jB Al cl L W (hL.below hb) hl);have hMl:(ay L).length≤1000000:=(by rw[bN];exact hl);have hrg:=hide (fun W (hb:Below w.heap.size w W) Al' cl' (hC:aV W (Old W) (.slice Al' (ay L++[(⟨key,b,a⟩:Cho)]).length cl') (ay L++[⟨key,b,a⟩]))=>zl A c H level Al' cl' (ay L++[⟨key,b,a⟩]) Ac cc cyc W (h.below hb) hn hC (by rw[List.length_append,List.length_singleton];omega) (hy.below hb) (by omega));generalize iE H level (ay L++[⟨key,b,a⟩]) cyc=q at*;generalize ay L=M at*;have c2:=Blk.n2 k0;clear hr h hL hy c2;go_enter Tryz.func150,Tryz.ntmps150;go_upto_region 1 with fail;clear hW0;refine cZ W0.heap.size [wV (.pointer (some ⟨w.heap.size,2,none⟩)),wV (.slice Al L.length cl),wO W0.heap.size 62 3 M.length (M.map dX).flatten,wV (.pointer (some ⟨w.heap.size,3,none⟩)),wV (.pointer (some ⟨w.heap.size,3,none⟩)),wV (.pointer (some ⟨w.heap.size,3,none⟩)),wV (.int .i64 key),wV (.pointer (some ⟨w.heap.size,3,none⟩)),wV (.pointer (some ⟨w.heap.size,3,none⟩)),wV (.pointer (some ⟨w.heap.size,5,none⟩)),wV (.int .i64 b),wV (.pointer (some ⟨w.heap.size,3,none⟩)),wV (.pointer (some ⟨w.heap.size,3,none⟩)),wV (.pointer (some ⟨w.heap.size,4,none⟩)),wV (.int .i64 a),wV (.agg #[.int .i64 key,.int .i64 b,.int .i64 a]),wS W0.heap.size 62 1 #[.int .i64 key,.int .i64 b,.int .i64 a],wO W0.heap.size 62 3 (M++[(⟨key,b,a⟩:Cho)]).length ((M++[(⟨key,b,a⟩:Cho)]).map dX).flatten,wO W0.heap.size 62 3 (M++[(⟨key,b,a⟩:Cho)]).length ((M++[(⟨key,b,a⟩:Cho)]).map dX).flatten] [[],[0],[1],[],[3],[4],[5],[],[7],[8],[9],[],[11],[12],[13],[6,10,14],[15],[2,16],[17]] [[],[],[],[],[],[],[],[],[],[],[],[],[],[],[],[],[],[62],[]] [[],[],[62],[],[],[],[],[],[],[],[],[],[],[],[],[],[62],[62],[62]] [] [62] (Nat.le_refl _) (by kernel_rfl) (by kernel_rfl) (by kernel_rfl) (by kernel_rfl) (by kernel_rfl) (by kernel_rfl) rfl trivial (by kernel_rfl) (by kernel_rfl) ?hstep ?hend;case hstep=>
  simp only[iO,gW,RsT,acV,wV,wO,wS,wB,wU,cK,gA,gZ,gS,List.getD_cons_zero,List.getD_cons_succ,List.getD_nil,Act.put,sA,sZ,sS,Nat.zero_add,Nat.reduceAdd,if_true,and_true];refine⟨?_,?_,?o2,?_,?_,?_,?_,?_,?_,?_,?_,?_,?_,?_,?_,?_,?o16,?o17,?o18⟩;all_goals intro vs W R hR hT hd
  all_goals have hsz:=hT.size
  all_goals have hbW:=hB.trans (hT.below.mono hB.size)
  all_goals have kq:=hT.blk k0 (by decide)
  all_goals have c2:=kq.cell 2
  all_goals have c3:=kq.cell 3
  all_goals have c4:=kq.cell 4
  all_goals have c5:=kq.cell 5
  all_goals simp only[gA,gZ,gS]at c2 c3 c4 c5
  case o2=>
   rw[hd];go_wp2_with fail;refine(hcs.out W hbW).mono ?_;rintro e W2 ⟨v,rfl,hv,hb2⟩;go_wp2;exact⟨rfl,_,rfl,hR _ _ (bO hv hsz) (TyW.calm hb2 hsz)⟩
  case o16=>
   go_wp2;exact⟨rfl,_,rfl,hR _ _ ⟨W.heap.size,hsz,rfl,Blk.new _ _ _⟩ (TyW.calm ((Below.refl _ _).alloc (Nat.le_refl _) _) hsz)⟩
  case o17=>
   obtain⟨o2,g,hg,e16,kg⟩:=hd;rw[e16];refine bg (enc:=dX) rfl (.tmp 6) (.tmp 20) 52 rfl W0.heap.size 62 ic _ 3 24 Tryz.underlying52 hic hi1 hi2 hi3 rfl (by decide) (vs 2) (fun b=>b=g) M rfl o2 (fun _=>rfl) (.slice (some ⟨g,0,none⟩) 1 1) [(⟨key,b,a⟩:Cho)] rfl (SlR.one kg rfl rfl rfl) bR (by simp[maxLen];omega) (by simp;omega) hsz ?_;intro v6 W6 hown6 HY RY;exact⟨rfl,_,rfl,hR _ _ hown6 (TyW.grown o2 HY (by simp) (Nat.le_refl _) hsz)⟩
  case o18=>
   go_wp2;exact⟨rfl,_,rfl,hR _ _ hd (TyW.refl _ _ _)⟩
  all_goals (go_wp2;exact⟨rfl,_,rfl,hR _ _ (by first|rfl|trivial) (TyW.refl _ _ _)⟩)
 case hend=>
  intro vs W hT hd;have o18:bG W W0.heap.size (vs 18) (M++[(⟨key,b,a⟩:Cho)]):=hd 18 (by simp) (by kernel_rfl);have hsz:=hT.size;have hbW:=hB.trans (hT.below.mono hB.size);have kq:=hT.blk k0 (by decide);simp only[acV,gA,gZ,gS,Act.put,sA,sZ,sS,List.length_cons,List.length_nil,Nat.reduceAdd];generalize M++[(⟨key,b,a⟩:Cho)]=N at*;obtain⟨A18,c18,e18⟩:=o18.form;have hC:=hrg.out W hbW A18 c18 (e18▸o18.sl (K:=Old W) fun g _ h=>h);rw[e18];have c0:=Blk.n0 kq;have c1:=Blk.n1 kq;have c7:=Blk.n7 kq;have c8:=Blk.n8 kq;have c9:=Blk.n9 kq;replace hC:=hide hC;clear hd o18 e18 hrg hcs kq k0 hT;by_cases h1:i=0
  ·by_cases h2:j=0
   ·have hrq:r=q:=(by rw[hre.out];simp[h1,h2]);have g1:(i==0)=true:=(by simp[h1]);have g2:(j==0)=true:=(by simp[h2]);subst hrq;clear h1 h2 hre;go_wp2_with fail;refine hC.out.mono ?_;rintro e w1 ⟨rfl,hb1⟩;go_wp2;go_ret;exact⟨rfl,hbW.trans (hb1.mono hbW.size)⟩
   ·have hrq:r=false:=(by rw[hre.out];simp[h2]);have g1:(i==0)=true:=(by simp[h1]);have g2:(j==0)=false:=(by simp[h2]);subst hrq;clear h1 h2 hre;go_wp2;go_ret;exact⟨rfl,hbW⟩
  ·have hrq:r=false:=(by rw[hre.out];simp[h1]);have g1:(i==0)=false:=(by simp[h1]);subst hrq;clear h1 hre;go_wp2;go_ret;exact⟨rfl,hbW⟩
end Go.Proofs.YtpjechjoijjhpaaGreatDoor
