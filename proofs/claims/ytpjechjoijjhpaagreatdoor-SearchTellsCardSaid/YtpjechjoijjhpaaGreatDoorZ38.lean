/-
  Walks: layer 31's reference: whether a path may be, with facts.
-/
import Derived.Test.YtpjechjoijjhpaaGreatDoorZ34
import Derived.Test.YtpjechjoijjhpaaGreatDoorZ35
import Derived.Test.YtpjechjoijjhpaaGreatDoorZ37
import Derived.Test.YtpjechjoijjhpaaGreatDoorZ29
import Derived.Test.YtpjechjoijjhpaaGreatDoorZ23
set_option linter.unusedVariables false
set_option linter.unusedSimpArgs false
namespace Go.Proofs.YtpjechjoijjhpaaGreatDoor
open Go.RowKit Go.Inq
set_option maxHeartbeats 8000000
attribute [local go_sem↓] Go.wp_at_zero Go.wp_at_succ
theorem MP(H:List Txn)(level:Int)(l:List Cho)(path:List Mk)(m:Mk):Kg H level (l++aK path) l.length m=gu H level l path m:=by
 unfold Kg gu;rw[List.drop_left,Mg,List.append_assoc];cases dh H m.c<;>cases(aK path).contains m.c<;>cases(aK path).contains (bD m.c)<;>cases m.right<;>simp[List.length_eq_zero_iff,List.append_assoc]
structure MQ(path:List Mk):Prop where
 len:path.length≤1000
 size:bJ path≤500000
 cyc:∀m∈path,∀n∈m.done,n.cyc.length≤1000000
theorem MQ.done{path:List Mk}(h:MQ path){m:Mk}(hm:m∈path):m.done.length≤800000:=by
 have:=vL hm;have:=h.size;omega
set_option maxRecDepth 100000 in
theorem uW(A:Option Addr)(c:Nat)(H:List Txn)(level:Int)(Al:Option Addr)(cl:Nat)(L:List Fct)(Ap:Option Addr)(cp:Nat)(path:List Mk)(w:World)(h:aC w (Old w) (.slice A H.length c) H)(hn:aA H)(hL:bM w (Old w) (.slice Al L.length cl) L)(hF:tH L)(hl:L.length≤10000)(hP:MkS w (Old w) (.slice Ap path.length cp) path)(hM:MQ path):
 Calls Tryz.prog 14 #[.agg #[.slice A H.length c],.int .i64 level,.slice Al L.length cl,.slice Ap path.length cp] w fun e w'=>e= .returned (.bool (dF H level L path))∧Below w.heap.size w w':=by
 obtain⟨ic,hic,hi1,hi2,hi3⟩:=info_parts gY;obtain⟨W0,hW0⟩:∃W0,w.alloc (.cells #[.slice A H.length c] 24)=W0:=⟨_,rfl⟩;have hB:=ah (Below.refl w.heap.size w) hW0 (Nat.le_refl _);have k0:=Blk.newEq hW0;have hPl:=hM.len;have hrp:=hide (rH A c H level Al cl L W0 (h.below hB) hn (hL.below hB) hF (by omega));have hch:=hide (fun W (hb:Below w.heap.size w W)=>iY Al cl L W (hL.below hb) (by omega));have hpc:=hide (fun k (hk:k≤path.length) W (hb:Below w.heap.size w W)=>(by
  have e:(path.take k).length=k:=(by rw[List.length_take];omega);have:=lI Ap cp (path.take k) W (by rw[e];exact(hP.below hb).take hk) (by omega);rw[e]at this;exact this:Calls Tryz.prog 17 #[.slice Ap k cp] W (ED W (aK (path.take k)))))
 have hone:=hide (fun k (hk:k<path.length) Ac cc R fr Ad cd W (hb:Below w.heap.size w W) (hR:aV W (Old W) (.slice Ac (List.length R) cc) R) (hf:fr≤List.length R) (hRl:List.length R≤90000) (ht:aY W (Old W) (.slice Ad (path[k]'hk).done.length cd) (path[k]'hk).done)=>Jk A c H level Ac cc R fr (path[k]'hk) Ad cd W (h.below hb) hn hR hf hRl ht (hM.done (List.getElem_mem hk)) (hM.cyc _ (List.getElem_mem hk)));have hPs:=hide (fun W (hb:Below w.heap.size w W)=>hP.below hb);have hno:=hide (fun k (hk:k<path.length)=>CG (H:=H) (level:=level) (L:=L) hk);have hyes:=hide (zK (H:=H) (level:=level) (L:=L) (path:=path));have hgt:=hide (show 20000≤L.length+path.length→dF H level L path=false from fun g=>by unfold dF;rw[decide_eq_false (by omega)];rfl);have hnr:=hide (show eu H level L=false→dF H level L path=false from fun g=>by unfold dF;rw[g];simp);have hmk:=hide (fun k (hk:k<path.length)=>(by
  have:=MP H level (ay L) (path.take k) path[k];rw[bN]at this;exact this:Kg H level (ay L++aK (path.take k)) L.length path[k]=gu H level (ay L) (path.take k) path[k]))
 have hcap:path.length≤cp:=by
  obtain⟨_,_,e,h1⟩:=SlR.len hP;simp only[Value.slice.injEq]at e;omega
 obtain⟨r,hr⟩:∃r,dF H level L path=r:=⟨_,rfl⟩;rw[hr]at hno hyes hgt hnr;rw[hr];have c0:=Blk.n0 k0;clear h hL hP hF hM hr;by_cases hlen:20000≤L.length+path.length
 ·obtain rfl:=hgt.out hlen;have g1:decide ((L.length:Int)+path.length≥20000)=true:=(by simp;omega);have g2:decide (20000≤L.length+path.length)=true:=(by simp;omega);have g3:decide (20000≤(L.length:Int)+path.length)=true:=(by simp;omega);clear hrp hch hone hpc hPs hno hyes hgt hnr hmk;go_enter Tryz.func14,Tryz.ntmps14;go_wp2;go_ret;exact⟨rfl,hB⟩
 ·have g1:decide ((L.length:Int)+path.length≥20000)=false:=(by simp;omega);have g2:decide (20000≤L.length+path.length)=false:=(by simp;omega);have g3:decide (20000≤(L.length:Int)+path.length)=false:=(by simp;omega);replace hlen:=hide hlen;cases hq:eu H level L with
  |false=>
   rw[hq]at hrp;obtain rfl:=hnr.out hq;clear hch hone hpc hPs hno hyes hgt hnr hq hmk;go_enter Tryz.func14,Tryz.ntmps14;go_wp2_with fail;refine hrp.out.mono ?_;rintro e w1 ⟨rfl,hb1⟩;go_wp2;go_ret;exact⟨rfl,hB.trans (hb1.mono hB.size)⟩
  |true=>
   rw[hq]at hrp;have lu:=hide (hyes.out (by have:=hlen.out;omega) hq);clear hgt hnr hq hyes;go_enter Tryz.func14,Tryz.ntmps14;go_wp2_with fail;refine hrp.out.mono ?_;rintro e w1 ⟨rfl,hb1⟩;have hB1:=hB.trans (hb1.mono hB.size);replace k0:=k0.below hb1 k0.lt;clear hrp hb1 hB c0 hW0 g1 g2 g3;go_wp2_with fail;go_loopw [10] (fun s10 wr=>∃k:Nat,k≤path.length∧s10= .int .i64 (k:Int)∧Blk wr w.heap.size 24 #[.slice A H.length c]∧Hid (∀j,j<k→(hj:j<path.length)→gu H level (ay L) (path.take j) path[j]=true)∧Below w.heap.size w wr) (fun s10 _=>path.length-(intOf s10).toNat);case atStart=>exact⟨0,by omega,by go_num,k0,hide (fun j hj=>absurd hj (by omega)),hB1⟩
   case round=>
    clear k0 hB1;obtain⟨Wo,rfl⟩:∃Wo,Wo=wr:=⟨_,rfl⟩;obtain⟨k,hk,rfl,k0,hall,hb⟩:=hrel;have hk0:(0:Int)≤(k:Int):=Int.natCast_nonneg _;by_cases hlt:k<path.length
    ·have hk1:(k:Int)<(path.length:Int):=(by omega);have hkc:k≤cp:=(by omega);have RZ:(k:Int)≤(cp:Int):=(by omega);have mK:=hide (hch.out Wo hb);have UU:=hide (hpc.out k hk);have CJ:=hide (hone.out k hlt);have uN:=hide (hno.out k hlt);have QS:=hide (hmk.out k hlt);have bK:Hid (gu H level (ay L) (path.take k) path[k]=true→∀j,j<k+1→(hj:j<path.length)→gu H level (ay L) (path.take j) path[j]=true):=hide fun g j hj hj2=>by
      by_cases e:j=k
      ·subst e;exact g
      ·exact hall.out j (by omega) hj2
     have UW:=hide (fun W (hW:Below w.heap.size w W)=>(hPs.out W hW).at_ hlt);have hCl:(ay L).length=L.length:=bN L;have hQl:(aK (path.take k)).length=k:=(by rw[fT,List.length_take];omega);have hRl:Hid ((ay L++aK (path.take k)).length≤90000):=hide (by rw[List.length_append,hCl,hQl];omega);have hfr:Hid (L.length≤(ay L++aK (path.take k)).length):=hide (by rw[List.length_append,hCl];omega);have hC1:(ay L).length≤10000:=(by omega);have hQ1:(aK (path.take k)).length≤1000:=(by omega);replace hCl:=hide hCl;replace hQl:=hide hQl;obtain⟨qm,hqm⟩:∃qm,gu H level (ay L) (path.take k) path[k]=qm:=⟨_,rfl⟩;rw[hqm]at uN bK QS;clear hch hpc hone hno hmk hall hqm;generalize ay L=C at*;generalize aK (path.take k)=Q at*;generalize path[k]=X at*;have hsz:=hb.size;have c0:=Blk.n0 k0;go_wp2_with fail;refine mK.out.mono ?_;rintro e w2 ⟨vC,rfl,hC,hb2⟩;obtain⟨Ac,cc,rfl⟩:=bG.form hC;have hB2:=hb.trans (hb2.mono hsz);have k2:=k0.below hb2 k0.lt;have hCh:=hide hC;have Bn:=hide (UU.out w2 hB2);clear mK UU hC c0;go_wp2_with fail;refine Bn.out.mono ?_;rintro e w3 ⟨vQ,rfl,hQ,hb3⟩;obtain⟨Aq,cq,rfl⟩:=bG.form hQ;have Tj:=hb2.trans (hb3.mono hb2.size);have hs3:=Tj.size;have hC3:=hide (own_below hCh.out hb3 (Nat.le_refl _));have hQs:=bG.sl (K:=fun _=>True) hQ (fun _ _ _=>trivial);clear Bn hCh hQ;obtain⟨M,hMM⟩:∃M,C++Q=M:=⟨_,rfl⟩;rw[hMM]at QS hRl hfr;go_upto_region 11 with(at_builtin;go_loud (refine bg (w:=w3) (enc:=dX) rfl (.tmp 33) (.tmp 37) 52 rfl Wo.heap.size 62 ic _ 3 24 Tryz.underlying52 hic hi1 hi2 hi3 rfl (by decide) (.slice Ac C.length cc) (fun _=>True) C rfl hC3.out (fun _=>rfl) (.slice Aq Q.length cq) Q rfl hQs bR (by unfold maxLen;omega) (by omega) hs3 ?_);intro v4 w4 gD hg4 PN);rw[hMM]at gD;have hb4:Below Wo.heap.size Wo w4:=below_grown Tj hg4 hs3 (fun j e=>(hC3.out.lt j e).1);have hB4:=hb.trans (hb4.mono hsz);have k4:=k0.below hb4 k0.lt;obtain⟨A4,c4,rfl⟩:=aW gD;have hR4:=hide (bG.sl (K:=Old w4.drew) (l:=M) (v:= .slice A4 M.length c4) (w:=w4.drew) gD (fun g _ h=>h));obtain⟨b,off,Ad,cd,rfl,-,d⟩:=UW.out w4 hB4;obtain⟨d0,d1,d2,d3,d4,hD⟩:=d;have hcl:=hide (CJ.out A4 c4 M L.length Ad cd w4.drew hB4.drew hR4.out hfr.out hRl.out (aY.keep hD (Agree.drew _ _) (fun b h=>h)));rw[QS.out]at hcl;replace hMM:=hide hMM;obtain⟨⟨xk,xa,xb⟩,xq,xd⟩:=X;dsimp only at d0 d1 d2 d3 d4 hcl;clear hQs hC3 gD hg4 PN hD CJ QS hR4 Tj hb2 hb3 hB2 k2 hs3 UW k0;have c0:=Blk.n0 k4;refine bn [0,1,2,3,4,5,6,7,8] [9,10] (by kernel_rfl) (by kernel_rfl) (fun _ _ d _ _ h=>by cases d<;>exact h) ?_;simp only[List.filterMap_cons,List.filterMap_nil,gZ,gS];repeat still_step
     refine wpStill_nil ?_;go_wp2_with fail;refine hcl.out.mono ?_;rintro e w5 ⟨rfl,hb5⟩;have hb2:=(aZ hB4).trans (hb5.mono hB4.size);have k1:=k4.drew.below hb5 k4.lt;clear hcl c0 d0 d1 d2 d3 d4 k4;cases qm with
     |false=>
      obtain rfl:=uN.out rfl;clear uN bK lu;go_wp2;go_ret;exact⟨rfl,hb2⟩
     |true=>
      have hs2:=hide (bK.out rfl);clear uN bK;go_wp2;go_roundw;case rel=>exact⟨k+1,by omega,by go_num,k1,hs2,hb2⟩
      case measure=>simp[intOf];omega
    ·obtain rfl:k=path.length:=(by omega);obtain rfl:=lu.out hall.out;clear hch hone hpc hPs hno hmk hall;go_wp2;go_ret;exact⟨rfl,hb⟩
end Go.Proofs.YtpjechjoijjhpaaGreatDoor
