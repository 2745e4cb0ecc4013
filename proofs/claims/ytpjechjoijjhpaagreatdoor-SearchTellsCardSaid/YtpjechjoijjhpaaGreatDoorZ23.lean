/-
  Walks: layer 31: whether a path may be, with facts.
-/
import Derived.Carry
import Derived.Test.YtpjechjoijjhpaaGreatDoorZ22
import Derived.Test.YtpjechjoijjhpaaGreatDoorZ05
import Derived.Test.YtpjechjoijjhpaaGreatDoorZ16
import Derived.Test.YtpjechjoijjhpaaGreatDoorZ14
import Derived.Test.YtpjechjoijjhpaaGreatDoorZ09
import Derived.Test.YtpjechjoijjhpaaGreatDoorZ04
set_option linter.unusedVariables false
set_option linter.unusedSimpArgs false
namespace Go.Proofs.YtpjechjoijjhpaaGreatDoor
open Go.RowKit Go.Inq
set_option maxHeartbeats 8000000
attribute [local go_sem↓] Go.wp_at_zero Go.wp_at_succ
def ql(path:List Mk)(k:Nat)(x:Cho):Option Bool:=if jm (path.take k) x then some true else none
theorem Iz(path:List Mk)(x:Cho):ql path 0 x=none:=by unfold ql jm;simp
theorem FI(path:List Mk)(m:Mk)(x:Cho):jm (path++[m]) x=(jm path x||(decide (x=m.c)||decide (x=bD m.c))):=by unfold jm;rw[List.any_append];simp
theorem IB{path:List Mk}{k:Nat}(hk:k<path.length)(x:Cho):ql path (k+1) x=if x=bD path[k].c then some true else if x=path[k].c then some true else ql path k x:=by
 unfold ql;rw[List.take_succ_eq_append_getElem hk,FI];by_cases h1:x=bD path[k].c
 ·rw[if_pos h1,decide_eq_true h1];simp
 ·rw[if_neg h1,decide_eq_false h1];by_cases h2:x=path[k].c
  ·rw[if_pos h2,decide_eq_true h2];simp
  ·rw[if_neg h2,decide_eq_false h2];simp
theorem LB(path:List Mk)(k:Nat)(x:Cho):sN wm (.bool false) (ql path k x)= .bool (jm (path.take k) x):=by
 unfold ql;cases jm (path.take k) x<;>rfl
theorem CG{H:List Txn}{level:Int}{L:List Fct}{path:List Mk}{k:Nat}(hk:k<path.length)(h:gu H level (ay L) (path.take k) path[k]=false):dF H level L path=false:=by
 rw[←Bool.not_eq_true,iB];intro g;have:=iG.1 g.marks k hk;rw[h]at this;cases this
theorem zK{H:List Txn}{level:Int}{L:List Fct}{path:List Mk}(h1:L.length+path.length<20000)(h2:eu H level L=true)(h:∀j,j<path.length→(hj:j<path.length)→gu H level (ay L) (path.take j) path[j]=true):dF H level L path=true:=
 iB.2 ⟨h1,h2,iG.2 fun i hi=>h i hi hi⟩
theorem OQ{H:List Txn}{level:Int}{l:List Cho}{path:List Mk}{m:Mk}:
 (jm path m.c=true→gu H level l path m=false)∧(dh H m.c=false→gu H level l path m=false)∧
 (jm path m.c=false→dh H m.c=true→(m.right=false→gu H level l path m=decide (m.done.length=0))∧(m.right=true→gu H level l path m=tV H level (l++aK path++[m.c]) m.done)):=by
 unfold gu;refine⟨fun h=>by rw[h];rfl,fun h=>by rw[h];simp,fun h1 h2=>⟨fun h=> ?_,fun h=> ?_⟩⟩
 ·rw[h1,h2,h];simp[List.length_eq_zero_iff]
 ·rw[h1,h2,h];rfl
theorem IC{H:List Txn}(hr:aG H=true)(c:Cho):dR H [c]=dh H c:=by unfold dR;rw[hr];simp
set_option maxRecDepth 100000 in
theorem l5(A:Option Addr)(c:Nat)(H:List Txn)(level:Int)(Al:Option Addr)(cl:Nat)(L:List Fct)(Ap:Option Addr)(cp:Nat)(path:List Mk)(w:World)(h:aC w (Old w) (.slice A H.length c) H)(hn:aA H)(hL:bM w (Old w) (.slice Al L.length cl) L)(hF:tH L)(hP:MkS w (Old w) (.slice Ap path.length cp) path)(hM:qU path):
 Calls Tryz.prog 13 #[.agg #[.slice A H.length c],.int .i64 level,.slice Al L.length cl,.slice Ap path.length cp] w fun e w'=>e= .returned (.bool (dF H level L path))∧Below w.heap.size w w':=by
 obtain⟨ic,hic,hi1,hi2,hi3⟩:=info_parts gY;have hmm:= @run_makeMap Tryz.prog;obtain⟨W0,hW0⟩:∃W0,w.alloc (.cells #[.slice A H.length c] 24)=W0:=⟨_,rfl⟩;have hB:=ah (Below.refl w.heap.size w) hW0 (Nat.le_refl _);have k0:=Blk.newEq hW0;have hLl:=hF.1;have hPl:=hM.len;have hrp:=hide (uq A c H level Al cl L W0 (h.below hB) hn (hL.below hB) hF);have hch:=hide (fun W (hb:Below w.heap.size w W)=>jB Al cl L W (hL.below hb) hF.1);have hone:=hide (fun W (hb:Below w.heap.size w W) g (x:Cho) (kg:Blk W g 62 #[.int .i64 x.key,.int .i64 x.a,.int .i64 x.b])=>jF A c H (some ⟨g,0,none⟩) 1 [x] W (h.below hb) hn (SlR.one (R:=Flat dX) kg rfl rfl kg.lt) (by simp));have hck:=hide (fun W (hb:Below w.heap.size w W) Am cm M (hMs:aV W (Old W) (.slice Am (List.length M) cm) M) (hml:List.length M≤100000000) At ct tree (ht:aY W (Old W) (.slice At (List.length tree) ct) tree) (hN:tJ tree)=>FD A c H level Am cm M At ct tree W (h.below hb) hn hMs hml ht hN.1 hN.2);have hPs:=hide (fun W (hb:Below w.heap.size w W)=>hP.below hb);have hno:=hide (fun k (hk:k<path.length)=>CG (H:=H) (level:=level) (L:=L) hk);have hyes:=hide (zK (H:=H) (level:=level) (L:=L) (path:=path));have hgt:=hide (show 20000≤L.length+path.length→dF H level L path=false from fun g=>by unfold dF;rw[decide_eq_false (by omega)];rfl);have hnr:=hide (show eu H level L=false→dF H level L path=false from fun g=>by unfold dF;rw[g];simp);have hmay:=hide (show eu H level L=true→aG H=true from fun g=>(gQ.1 (dP g)).1);have hfit:=hide (fun k (hk:k<path.length)=>hM.at_ hk);obtain⟨r,hr⟩:∃r,dF H level L path=r:=⟨_,rfl⟩;rw[hr]at hno hyes hgt hnr;rw[hr];have c0:=Blk.n0 k0;clear h hL hP hF hM hr;by_cases hlen:20000≤L.length+path.length
 ·obtain rfl:=hgt.out hlen;have g1:decide ((L.length:Int)+path.length≥20000)=true:=(by simp;omega);have g2:decide (20000≤L.length+path.length)=true:=(by simp;omega);have g3:decide (20000≤(L.length:Int)+path.length)=true:=(by simp;omega);clear hrp hch hone hck hPs hno hyes hgt hnr hmay hfit;go_enter Tryz.func13,Tryz.ntmps13;go_wp2;go_ret;exact⟨rfl,hB⟩
 ·have g1:decide ((L.length:Int)+path.length≥20000)=false:=(by simp;omega);have g2:decide (20000≤L.length+path.length)=false:=(by simp;omega);have g3:decide (20000≤(L.length:Int)+path.length)=false:=(by simp;omega);replace hlen:=hide hlen;cases hq:eu H level L with
  |false=>
   rw[hq]at hrp;obtain rfl:=hnr.out hq;clear hch hone hck hPs hno hyes hgt hnr hmay hfit hq;go_enter Tryz.func13,Tryz.ntmps13;go_wp2_with fail;refine hrp.out.mono ?_;rintro e w1 ⟨rfl,hb1⟩;go_wp2;go_ret;exact⟨rfl,hB.trans (hb1.mono hB.size)⟩
  |true=>
   rw[hq]at hrp;have hrH:=hide (hmay.out hq);have lu:=hide (hyes.out (by have:=hlen.out;omega) hq);clear hgt hnr hmay hq hyes;go_enter Tryz.func13,Tryz.ntmps13;go_wp2_with fail;refine hrp.out.mono ?_;rintro e w1 ⟨rfl,hb1⟩;have hB1:=hB.trans (hb1.mono hB.size);have k1:=k0.below hb1 k0.lt;have mK:=hide (hch.out w1 hB1);clear hrp hb1 hB k0 c0 hW0 hch g1 g2 g3;go_wp2_with fail;refine mK.out.mono ?_;rintro e w2 ⟨vC,rfl,hC,hb2⟩;obtain⟨Ac,cc,rfl⟩:=bG.form hC;have hB2:=hB1.trans (hb2.mono hB1.size);have k2:=k1.below hb2 k1.lt;have hC2:=bO hC hB1.size;clear mK hb2 hB1 k1 hC;go_wp2_with fail;obtain⟨W3,hW3⟩:∃W3,w2.alloc (.map #[] 0)=W3:=⟨_,rfl⟩;have hm0:jJ wm W3 w2.heap.size (ql path 0):=by
    rw[←hW3];exact(jJ.new w2).same fun x=>(Iz path x).symm
   have hb3:=ah (Below.refl w2.heap.size w2) hW3 (Nat.le_refl _);have hB3:=hB2.trans (hb3.mono hB2.size);have k3:=k2.below hb3 k2.lt;have hC3:bG W3 w.heap.size (.slice Ac (ay L).length cc) (ay L++aK (path.take 0)):=by
    have:=own_below hC2 hb3 (Nat.le_refl _);have e:aK (path.take 0)=[]:=(by simp[aK]);rw[e,List.append_nil];exact this
   have hgm:w.heap.size≤w2.heap.size:=hB2.size;try rw[hW3]
   generalize w2.heap.size=gm at*;clear hb3 hB2 k2 hC2 hW3;go_loopw [9,31] (fun s9 s31 wr=>∃k:Nat,k≤path.length∧s31= .int .i64 (k:Int)∧bG wr w.heap.size s9 (ay L++aK (path.take k))∧Blk wr w.heap.size 24 #[.slice A H.length c]∧jJ wm wr gm (ql path k)∧Hid (∀j,j<k→(hj:j<path.length)→gu H level (ay L) (path.take j) path[j]=true)∧Below w.heap.size w wr) (fun _ s31 _=>path.length-(intOf s31).toNat);case atStart=>exact⟨0,by omega,by go_num,hC3,k3,hm0,hide (fun j hj=>absurd hj (by omega)),hB3⟩
   case round=>
    clear k3 hB3 hm0 hC3;obtain⟨Wo,rfl⟩:∃Wo,Wo=wr:=⟨_,rfl⟩;obtain⟨k,hk,rfl,hC,k0,hm,hall,hb⟩:=hrel;have hk0:(0:Int)≤(k:Int):=Int.natCast_nonneg _;by_cases hlt:k<path.length
    ·have hk1:(k:Int)<(path.length:Int):=(by omega);have hsz:=hb.size;obtain⟨b,off,Ad,cd,rfl,-,d⟩:=(hPs.out Wo hb).at_ hlt;obtain⟨d0,d1,d2,d3,d4,hD⟩:=d;have hft:=hide (hfit.out k hlt);have his:=hide (OQ (H:=H) (level:=level) (l:=ay L) (path:=path.take k) (m:=path[k]));have uN:=hide (hno.out k hlt);have hkf:=hide (LB path k path[k].c);have hst:=hide (IB hlt);have hpc:=hide (zI hlt);have bK:Hid (gu H level (ay L) (path.take k) path[k]=true→∀j,j<k+1→(hj:j<path.length)→gu H level (ay L) (path.take j) path[j]=true):=hide fun g j hj hj2=>by
      by_cases e:j=k
      ·subst e;exact g
      ·exact hall.out j (by omega) hj2
     obtain⟨qk,hqk⟩:∃qk,jm (path.take k) path[k].c=qk:=⟨_,rfl⟩;obtain⟨qo,hqo⟩:∃qo,dh H path[k].c=qo:=⟨_,rfl⟩;obtain⟨qm,hqm⟩:∃qm,gu H level (ay L) (path.take k) path[k]=qm:=⟨_,rfl⟩;rw[hqk,hqo,hqm]at his;rw[hqm]at uN bK;rw[hqk]at hkf;have hMl:(ay L++aK (path.take k)).length≤20000:=(by rw[List.length_append,bN,fT,List.length_take];have:=hlen.out;omega);have hci:=hide (CB path[k]);have OT:=hide (fun W hb g=>hone.out W hb g path[k].c);have Bn:Hid (ay L++aK (path.take (k+1))=ay L++aK (path.take k)++[path[k].chosen]):=hide (by rw[hpc.out,List.append_assoc]);clear hall hqk hqm hpc;generalize hX:path[k]=X at*;generalize ql path k=B at*;generalize hB2:ql path (k+1)=B2 at*;generalize hM2:ay L++aK (path.take (k+1))=M2 at*;replace hB2:=hide hB2;replace hM2:=hide hM2;obtain⟨⟨xk,xa,xb⟩,xq,xd⟩:=X;dsimp only at his d0 d1 d2 d3 d4 hD hft hkf hst OT hqo hci;replace hqo:=hide hqo;replace hX:=hide hX;rw[hci.out]at Bn;have CJ:=hide (fun W hb g kg=>(by
      have:=OT.out W hb g kg;rw[IC hrH.out,hqo.out]at this;exact this:Calls Tryz.prog 37 #[.agg #[.slice A H.length c],.slice (some ⟨g,0,none⟩) 1 1] W fun e w'=>e= .returned (.bool qo)∧Below W.heap.size W w'))
     clear OT hci hqo;obtain⟨Ac,cc,rfl⟩:=bG.form hC;generalize ay L++aK (path.take k)=M at*;obtain⟨Wa,hWa⟩:∃Wa,Wo.alloc (.cells #[.int .i64 xk,.int .i64 xa,.int .i64 xb,.bool xq,.slice Ad xd.length cd] 64)=Wa:=⟨_,rfl⟩;have hba:=ah (Below.refl Wo.heap.size Wo) hWa (Nat.le_refl _);have nn:=Blk.newEq hWa;have kA:=k0.below hba k0.lt;have hmA:=hm.below hba hm.lt;have hCA:=hide (own_below hC hba (Nat.le_refl _));have hDA:=hide (aY.below hD hba);have hBA:=hb.trans (hba.mono hsz);have hszA:=hBA.size;have hgq:w.heap.size≤Wo.heap.size:=hsz;have Ut:(Instr.lookup 99 (.map (some gm)) (.agg #[.int .i64 xk,.int .i64 xa,.int .i64 xb]) false).run Tryz.prog Wa= .ok (.bool qk) Wa:=by
      have:=hmA.Qw Iw Tryz.underlying99 (z:= .bool false) (fun w=>by kernel_rfl) ⟨xk,xa,xb⟩;rw[hkf.out]at this;exact this
     clear k0 hm hC hD hba;generalize XI:Wo.heap.size=gq at*;have a0:=Blk.n0 nn;have a1:=Blk.n1 nn;have a2:=Blk.n2 nn;have a3:=Blk.n3 nn;have a4:=Blk.n4 nn;have c0:=Blk.n0 kA;cases qk with
     |true=>
      obtain rfl:=his.out.1 rfl;obtain rfl:=uN.out rfl;clear uN his hst bK CJ Bn hCA hDA hft hkf lu hmA;go_wp2;go_ret;exact⟨rfl,hBA⟩
     |false=>
      go_upto_region 8 with fail;try rw[hWa]
      clear hWa d0 d1 d2 d3 d4;obtain⟨Wb,hWb⟩:∃Wb,Wa.alloc (.cells #[.int .i64 xk,.int .i64 xa,.int .i64 xb] 62)=Wb:=⟨_,rfl⟩;have hbb:=ah (Below.refl Wa.heap.size Wa) hWb (Nat.le_refl _);have hBb:=hBA.trans (hbb.mono hszA);have hon:=hide (CJ.out Wb hBb Wa.heap.size (Blk.newEq hWb));go_wp2_with fail;refine hon.out.mono ?_;rintro e w4 ⟨rfl,hb4⟩;have IE:=hbb.trans (hb4.mono hbb.size);have hB4:=hBA.trans (IE.mono hszA);clear hon hWb hbb hBb hb4 a0 a1 a2 a3 a4 c0 CJ Ut hkf;cases qo with
      |false=>
       obtain rfl:=his.out.2.1 rfl;obtain rfl:=uN.out rfl;clear uN his hst bK Bn hCA hDA hft lu hmA;go_wp2;go_ret;exact⟨rfl,hB4⟩
      |true=>
       have nM:=nn.below IE nn.lt;have k4:=kA.below IE kA.lt;have hm4:=hmA.below IE hmA.lt;have hC4:=own_below hCA.out IE (Nat.le_refl _);have hD4:=aY.below hDA.out IE;have DR:=hB4.size;have OU:=hide (his.out.2.2 (by trivial) (by trivial));clear nn kA hmA hCA hDA IE hBA hszA his;obtain⟨N,hNM⟩:∃N,M++[(⟨xk,xa,xb⟩:Cho)]=N:=⟨_,rfl⟩;have hcap:M.length≤cc:=aV.Uo (bG.sl (K:=fun _=>True) hC4 fun _ _ _=>trivial);have hCs:aV w4 (fun b=>b<w4.heap.size) (.slice Ac M.length M.length) M:=aV.clip (bG.sl (K:=fun b=>b<w4.heap.size) hC4 fun _ _ h=>h);have hMc:=hide (fun W (hb:Below w4.heap.size w4 W)=>aV.keep (K':=fun b=>b<w4.heap.size) hCs (Agree.below hb fun b h=>h) (fun b (h:b<w4.heap.size)=>h));clear hCs;go_upto_region 10 with fail;go_cut [73] (fun s73 wz=>s73= .bool (!qm)∧Below w4.heap.size w4 wz);case first=>
        cases xq with
        |false=>
         have hqm:=OU.out.1 (by trivial);clear OU hck hMc hD4 hC4 hm4 uN bK Bn hst;have c0:=Blk.n0 nM;have c3:=Blk.n3 nM;have c4:=Blk.n4 nM;by_cases hz:xd.length=0
         ·have g1:decide ((xd.length:Int)>0)=false:=decide_eq_false (by omega);have g2:decide (0<xd.length)=false:=decide_eq_false (by omega);obtain rfl:qm=true:=(by rw[hqm];simpa using hz);replace hz:=hide hz;replace hqm:=hide hqm;go_quiet (fail);go_wp2
          go_meet
          exact⟨rfl,⟨rfl,rfl,rfl,Nat.le_refl _,fun _ _=>rfl⟩⟩
         ·have g1:decide ((xd.length:Int)>0)=true:=decide_eq_true (by omega);have g2:decide (0<xd.length)=true:=decide_eq_true (by omega);obtain rfl:qm=false:=(by rw[hqm];simpa using hz);replace hz:=hide hz;replace hqm:=hide hqm;go_quiet (fail);go_wp2
          go_meet
          exact⟨rfl,⟨rfl,rfl,rfl,Nat.le_refl _,fun _ _=>rfl⟩⟩
        |true=>
         rw[hNM]at OU;have hqm:=hide (OU.out.2 (by trivial));have Ws:=hide (fun W (hb:Below w4.heap.size w4 W) A6 c6 hMs=>(by
          have:=hck.out W (hB4.trans (hb.mono hB4.size)) A6 c6 N hMs (by rw[←hNM];simp;omega) Ad cd xd (aY.below hD4 hb) hft.out;rw[←hqm.out]at this;exact this:Calls Tryz.prog 38 #[.agg #[.slice A H.length c],.int .i64 level,.slice A6 N.length c6,.slice Ad xd.length cd] W fun e w'=>e= .returned (.bool qm)∧Below W.heap.size W w'))
         replace hMc:=hMc.out;refine cZ w4.heap.size [wV (.pointer (some ⟨gq,3,none⟩)),wV (.bool true),wV (.bool false),wV (.bool false),wU,wU,wU,wU,wV (.bool false),wV (.bool false),wV (.pointer (some ⟨gq,3,none⟩)),wV (.bool true),wV (.bool true),wV (.agg #[.slice A H.length c]),wV (.int .i64 level),wV (.slice Ac M.length cc),wV (.slice Ac M.length M.length),wV (.pointer (some ⟨gq,0,none⟩)),wV (.agg #[.int .i64 xk,.int .i64 xa,.int .i64 xb]),wS w4.heap.size 62 1 #[.int .i64 xk,.int .i64 xa,.int .i64 xb],wO w4.heap.size 62 3 N.length (N.map dX).flatten,wV (.pointer (some ⟨gq,4,none⟩)),wV (.slice Ad xd.length cd),wV (.bool qm),wV (.bool (!qm)),wV (.bool (!qm)),wV (.bool (!qm))] [[],[0],[1],[2],[3],[3,4],[3,5],[3,6],[3,7],[8],[9],[9,10],[9,11],[12],[12],[12],[12,15],[12],[12,17],[12,18],[12,16,19],[12],[12,21],[12,13,14,20,22],[12,23],[9,12,24],[9,25]] [[],[],[],[],[],[],[],[],[],[],[],[],[],[],[],[],[],[],[],[],[],[],[],[],[],[],[]] [[],[],[],[],[],[],[],[],[],[],[],[],[],[],[],[],[],[],[],[62],[62],[],[],[],[],[],[]] [] [] (Nat.le_refl _) (by kernel_rfl) (by kernel_rfl) (by kernel_rfl) (by kernel_rfl) (by kernel_rfl) (by kernel_rfl) rfl trivial (by kernel_rfl) (by kernel_rfl) ?hstep ?hend;case hstep=>
          simp only[iO,gW,RsT,acV,wV,wO,wS,wB,wU,wX,wK,wA,cK,gA,gZ,gS,List.getD_cons_zero,List.getD_cons_succ,List.getD_nil,Act.put,sA,sZ,sS,Nat.zero_add,Nat.reduceAdd,if_true,and_true];refine⟨?_,?o1,?o2,?o3,?_,?_,?_,?_,?o8,?o9,?o10,?o11,?o12,?o13,?o14,?o15,?o16,?o17,?o18,?o19,?o20,?o21,?o22,?o23,?o24,?o25,?o26⟩;all_goals intro vs W R hR hT hd
          all_goals have hsz:=hT.size
          all_goals have hbW:=hB4.trans (hT.below.mono hB4.size)
          case o1=>
           have kq:=nM.below hT.below nM.lt;have c3:=Blk.n3 kq;rw[hd];go_wp2;exact⟨rfl,_,rfl,hR _ _ rfl (TyW.refl _ _ _)⟩
          case o2=>
           rw[hd];go_wp2;exact⟨rfl,_,rfl,hR _ _ rfl (TyW.refl _ _ _)⟩
          case o3=>
           rw[hd];go_wp2;exact⟨rfl,_,rfl,hR _ _ rfl (TyW.refl _ _ _)⟩
          case o8=>
           rw[hd];go_wp2;exact⟨rfl,_,rfl,hR _ _ rfl (TyW.refl _ _ _)⟩
          case o9=>
           rw[hd];go_wp2;exact⟨rfl,_,rfl,hR _ _ rfl (TyW.refl _ _ _)⟩
          case o10=>
           rw[hd];go_wp2;exact⟨rfl,_,rfl,hR _ _ rfl (TyW.refl _ _ _)⟩
          case o11=>
           have kq:=nM.below hT.below nM.lt;have c3:=Blk.n3 kq;rw[hd.1,hd.2];go_wp2;exact⟨rfl,_,rfl,hR _ _ rfl (TyW.refl _ _ _)⟩
          case o12=>
           rw[hd.1,hd.2];go_wp2;exact⟨rfl,_,rfl,hR _ _ rfl (TyW.refl _ _ _)⟩
          case o13=>
           have c0:=Blk.n0 (k4.below hT.below k4.lt);rw[hd];go_wp2;exact⟨rfl,_,rfl,hR _ _ rfl (TyW.refl _ _ _)⟩
          case o14=>
           rw[hd];go_wp2;exact⟨rfl,_,rfl,hR _ _ rfl (TyW.refl _ _ _)⟩
          case o15=>
           rw[hd];go_wp2;exact⟨rfl,_,rfl,hR _ _ rfl (TyW.refl _ _ _)⟩
          case o16=>
           rw[hd.1,hd.2];go_wp2_with fail;refine(sK Ac M.length cc W hcap).mono ?_;rintro e W2 ⟨rfl,rfl⟩;go_wp2;exact⟨rfl,_,rfl,hR _ _ rfl (TyW.refl _ _ _)⟩
          case o17=>
           rw[hd];go_wp2;exact⟨rfl,_,rfl,hR _ _ rfl (TyW.refl _ _ _)⟩
          case o18=>
           have kq:=nM.below hT.below nM.lt;have c0:=Blk.n0 kq;have c1:=Blk.n1 kq;have c2:=Blk.n2 kq;rw[hd.1,hd.2];go_wp2;exact⟨rfl,_,rfl,hR _ _ rfl (TyW.refl _ _ _)⟩
          case o19=>
           rw[hd.1,hd.2];go_wp2;exact⟨rfl,_,rfl,hR _ _ ⟨W.heap.size,hsz,rfl,Blk.new _ _ _⟩ (TyW.calm ((Below.refl _ _).alloc (Nat.le_refl _) _) hsz)⟩
          case o20=>
           obtain⟨e2,e3,gg,hg,e5,kg⟩:=hd;rw[e2,e3,e5];refine zJ rfl ?_;refine fP (enc:=dX) rfl _ _ 52 rfl 62 ic _ 3 24 Tryz.underlying52 hic hi1 hi2 hi3 rfl (by decide) Ac (fun b=>b<w4.heap.size) M rfl (hMc W hT.below) (fun _=>rfl) gg _ ⟨xk,xa,xb⟩ kg rfl rfl bR (by unfold maxLen;omega) (by omega) ?_;intro v6 W6 hown6 hb6;rw[hNM]at hown6;exact⟨rfl,_,rfl,hR _ _ (bO hown6 hsz) (TyW.calm hb6 hsz)⟩
          case o21=>
           rw[hd];go_wp2;exact⟨rfl,_,rfl,hR _ _ rfl (TyW.refl _ _ _)⟩
          case o22=>
           have kq:=nM.below hT.below nM.lt;have c4:=Blk.n4 kq;rw[hd.1,hd.2];go_wp2;exact⟨rfl,_,rfl,hR _ _ rfl (TyW.refl _ _ _)⟩
          case o23=>
           obtain⟨e2,e3,e4,o20,e22⟩:=hd;obtain⟨A6,c6,e6⟩:=aW o20;rw[e6]at o20;rw[e2,e3,e4,e6,e22];go_wp2_with fail;refine(Ws.out W hT.below A6 c6 (bG.sl o20 fun g _ h=>h)).mono ?_;rintro e W2 ⟨rfl,hb2⟩;go_wp2;exact⟨rfl,_,rfl,hR _ _ rfl (TyW.calm hb2 hsz)⟩
          case o24=>
           rw[hd.1,hd.2];go_wp2;exact⟨rfl,_,rfl,hR _ _ rfl (TyW.refl _ _ _)⟩
          case o25=>
           rw[hd.1,hd.2.1,hd.2.2];go_wp2;exact⟨rfl,_,rfl,hR _ _ rfl (TyW.refl _ _ _)⟩
          case o26=>
           rw[hd.1,hd.2];go_wp2;exact⟨rfl,_,rfl,hR _ _ rfl (TyW.refl _ _ _)⟩
          all_goals (go_wp2;exact⟨rfl,_,rfl,hR _ _ (by first|rfl|trivial) (TyW.refl _ _ _)⟩)
         case hend=>
          intro vs W hT hd;have o26:vs 26= .bool (!qm):=hd 26 (by simp) (by kernel_rfl);simp only[acV,gA,gZ,gS,Act.put,sA,sZ,sS,List.length_cons,List.length_nil,Nat.reduceAdd];rw[o26];go_wp2
          go_meet
          exact⟨rfl,hT.below⟩
       case rest=>
        obtain⟨rfl,hbc⟩:=hcut;have hB5:=hB4.trans (hbc.mono hB4.size);clear hck OU hft hD4 hNM;cases qm with
        |false=>
         obtain rfl:=uN.out rfl;clear uN hst bK Bn lu hm4 hMc hC4;go_wp2;go_ret;exact⟨rfl,hB5⟩
        |true=>
         have nM5:=nM.below hbc nM.lt;have k5:=k4.below hbc k4.lt;have hm5:=hm4.below hbc hm4.lt;have Uu:=(fun W (hb:Below wc.heap.size wc W)=>aV.fit (K':=fun b=>b<wc.heap.size) (hMc.out W (hbc.trans (hb.mono hbc.size))) (fun b (h:b<w4.heap.size)=>Nat.lt_of_lt_of_le h hbc.size));have hcs:=hide (fun W=>uM xk xa xb xq Ad xd.length cd W);have OV:=hide (bK.out rfl);have nU:Hid (gq≠gm):=hide fun e=>by
          subst e;obtain⟨es,cl,l,q1,-,-⟩:=hm5;have:=(show wc.heap[gq]?=_ from nM5).symm.trans q1;cases this
         clear uN lu bK hMc hC4 nM k4 hm4 hbc hB4;generalize(if xq=true then xb else xa)=ya at*;generalize(if xq=true then xa else xb)=yb at*;obtain⟨w5,rfl⟩:∃w5,w5=wc:=⟨_,rfl⟩;go_upto_region 12 with fail;refine cZ w5.heap.size [wV (.slice Ac M.length cc),wV (.slice Ac M.length M.length),wV (.agg #[.int .i64 xk,.int .i64 xa,.int .i64 xb,.bool xq,.slice Ad xd.length cd]),wV (.agg #[.int .i64 xk,.int .i64 ya,.int .i64 yb]),wS w5.heap.size 62 1 #[.int .i64 xk,.int .i64 ya,.int .i64 yb],wO w5.heap.size 62 3 M2.length (M2.map dX).flatten,wO w5.heap.size 62 3 M2.length (M2.map dX).flatten] [[],[0],[],[2],[3],[1,4],[5]] [[],[],[],[],[],[],[]] [[],[],[],[],[62],[62],[62]] [] [] (Nat.le_refl _) (by kernel_rfl) (by kernel_rfl) (by kernel_rfl) (by kernel_rfl) (by kernel_rfl) (by kernel_rfl) rfl trivial (by kernel_rfl) (by kernel_rfl) ?hstep ?hend;case hstep=>
          simp only[iO,gW,RsT,acV,wV,wO,wS,wB,wU,wX,wK,wA,cK,gA,gZ,gS,List.getD_cons_zero,List.getD_cons_succ,List.getD_nil,Act.put,sA,sZ,sS,Nat.zero_add,Nat.reduceAdd,if_true,and_true];refine⟨?_,?o1,?o2,?o3,?o4,?o5,?o6⟩;all_goals intro vs W R hR hT hd
          all_goals have hsz:=hT.size
          case o1=>
           rw[hd];go_wp2_with fail;refine(sK Ac M.length cc W hcap).mono ?_;rintro e W2 ⟨rfl,rfl⟩;go_wp2;exact⟨rfl,_,rfl,hR _ _ rfl (TyW.refl _ _ _)⟩
          case o2=>
           have kq:=nM5.below hT.below nM5.lt;have c0:=Blk.n0 kq;have c1:=Blk.n1 kq;have c2:=Blk.n2 kq;have c3:=Blk.n3 kq;have c4:=Blk.n4 kq;go_wp2;exact⟨rfl,_,rfl,hR _ _ rfl (TyW.refl _ _ _)⟩
          case o3=>
           rw[hd];go_wp2_with fail;refine(hcs.out W).mono ?_;rintro e W2 ⟨rfl,hb2⟩;go_wp2;exact⟨rfl,_,rfl,hR _ _ rfl (TyW.calm hb2 hsz)⟩
          case o4=>
           rw[hd];go_wp2;exact⟨rfl,_,rfl,hR _ _ ⟨W.heap.size,hsz,rfl,Blk.new _ _ _⟩ (TyW.calm ((Below.refl _ _).alloc (Nat.le_refl _) _) hsz)⟩
          case o5=>
           obtain⟨e3,gg,hg,e5,kg⟩:=hd;rw[e3,e5];refine fP (enc:=dX) rfl _ _ 52 rfl 62 ic _ 3 24 Tryz.underlying52 hic hi1 hi2 hi3 rfl (by decide) Ac (fun b=>b<w5.heap.size) M rfl (Uu W hT.below) (fun _=>rfl) gg _ ⟨xk,ya,yb⟩ kg rfl rfl bR (by unfold maxLen;omega) (by omega) ?_;intro v6 W6 hown6 hb6;rw[←Bn.out]at hown6;exact⟨rfl,_,rfl,hR _ _ (bO hown6 hsz) (TyW.calm hb6 hsz)⟩
          case o6=>
           go_wp2;exact⟨rfl,_,rfl,hR _ _ hd (TyW.refl _ _ _)⟩
          all_goals (go_wp2;exact⟨rfl,_,rfl,hR _ _ (by first|rfl|trivial) (TyW.refl _ _ _)⟩)
         case hend=>
          intro vs W hT hd;have o6:W.ownsRow w5.heap.size 62 3 (vs 6) M2.length (M2.map dX).flatten:=hd 6 (by simp) (by kernel_rfl);have hb6:=hT.below;simp only[acV,gA,gZ,gS,Act.put,sA,sZ,sS,List.length_cons,List.length_nil,Nat.reduceAdd];generalize vs 6=v6 at*;have nM6:=nM5.below hb6 nM5.lt;have k6:=k5.below hb6 k5.lt;have hm6:=hm5.below hb6 hm5.lt;have hB6:=hB5.trans (hb6.mono hB5.size);have hC6:bG W w.heap.size v6 M2:=bO o6 hB5.size;have hsz5:=hB5.size;have hgh:Hid (w.heap.size≠gm):=hide fun e=>by
           subst e;obtain⟨es,cl,l,q1,-,-⟩:=hm6;have:=(show W.heap[w.heap.size]?=_ from k6).symm.trans q1;cases this
          have hmb:Hid (∀cs,Blk W gm 62 cs→False):=hide fun cs h=>by
           obtain⟨es,cl,l,q1,-,-⟩:=hm6;have:=(show W.heap[gm]?=_ from h).symm.trans q1;cases this
          clear hd hT hcs Uu nM5 k5 hm5 hB5 o6 Bn hb6;obtain⟨W6,rfl⟩:∃W6,W6=W:=⟨_,rfl⟩;go_upto_region 13 with fail;refine l9 (qX gm W6 (knV gm gq ⟨xk,xa,xb⟩) B ⟨xk,xa,xb⟩) knD (fun _=>[]) (by kernel_rfl) (by kernel_rfl) (by kernel_rfl) (by kernel_rfl) (qX.start hm6) ?hstep2 ?FJ;case hstep2=>
           intro i o ho P vs W hno hd hnd hI
           match i,ho with
           |0,ho=>
            simp only[gZ,gS,Option.some.injEq]at ho;subst ho;simp only[acV,gA,gZ,gS,Act.put,sA,sZ,sS];go_wp2;exact⟨rfl,_,rfl,hI.kV (by decide)⟩
           |1,ho=>
            simp only[gZ,gS,Option.some.injEq]at ho;subst ho;simp only[acV,gA,gZ,gS,Act.put,sA,sZ,sS];go_wp2;exact⟨rfl,_,rfl,hI.kV (by decide)⟩
           |2,ho=>
            have e0:=hI.v 1 (by decide) (hd 1 (by simp[knD]));simp only[knV]at e0;simp only[gZ,gS,Option.some.injEq]at ho;subst ho;simp only[acV,gA,gZ,gS,Act.put,sA,sZ,sS];rw[e0];have kq:=nM6.grown hI.gr (by intro e;injection e with e;exact nU.out e);have c0:=Blk.n0 kq;have c1:=Blk.n1 kq;have c2:=Blk.n2 kq;go_wp2;exact⟨rfl,_,rfl,hI.kV (by decide)⟩
           |3,ho=>
            simp only[gZ,gS,Option.some.injEq]at ho;subst ho;simp only[acV,gA,gZ,gS,Act.put,sA,sZ,sS];go_wp2;exact⟨rfl,_,rfl,hI.kV (by decide)⟩
           |4,ho=>
            simp only[gZ,gS,Option.some.injEq]at ho;subst ho;simp only[acV,gA,gZ,gS,Act.put,sA,sZ,sS];go_wp2;exact⟨rfl,_,rfl,hI.kV (by decide)⟩
           |5,ho=>
            have e0:=hI.v 4 (by decide) (hd 4 (by simp[knD]));simp only[knV]at e0;simp only[gZ,gS,Option.some.injEq]at ho;subst ho;simp only[acV,gA,gZ,gS,Act.put,sA,sZ,sS];rw[e0];have kq:=nM6.grown hI.gr (by intro e;injection e with e;exact nU.out e);have c0:=Blk.n0 kq;have c1:=Blk.n1 kq;have c2:=Blk.n2 kq;go_wp2;exact⟨rfl,_,rfl,hI.kV (by decide)⟩
           |6,ho=>
            have e0:=hI.v 5 (by decide) (hd 5 (by simp[knD]));simp only[knV]at e0;simp only[gZ,gS,Option.some.injEq]at ho;subst ho;simp only[acV,gA,gZ,gS,Act.put,sA,sZ,sS];rw[e0];go_wp2_with fail;refine(uK xk xa xb W).mono ?_;rintro e W2 ⟨rfl,hb2⟩;go_wp2;exact⟨rfl,_,rfl,hI.calm (by decide) hb2⟩
           |7,ho=>
            have e0:=hI.v 0 (by decide) (hd 0 (by simp[knD]));have e1:=hI.v 2 (by decide) (hd 2 (by simp[knD]));simp only[knV]at e0 e1;simp only[gZ,gS,Option.some.injEq]at ho;subst ho;simp only[acV,gA,gZ,gS,Act.put,sA,sZ,sS];rw[e0,e1];obtain⟨es,cl,hup,hI2⟩:=hI.one hno undef;dsimp only at hup;go_wp2;exact⟨rfl,undef,rfl,hI2⟩
           |8,ho=>
            have e0:=hI.v 3 (by decide) (hd 3 (by simp[knD]));have e1:=hI.v 6 (by decide) (hd 6 (by simp[knD]));simp only[knV]at e0 e1;simp only[gZ,gS,Option.some.injEq]at ho;subst ho;simp only[acV,gA,gZ,gS,Act.put,sA,sZ,sS];rw[e0,e1];obtain⟨es,cl,hup,hI2⟩:=hI.two hno undef;dsimp only at hup;go_wp2;exact⟨rfl,undef,rfl,hI2⟩
           |n+9,ho=>simp at ho
          case FJ=>
           intro L2 vs2 W7 hall7 hI;have hm7:=hI.m;rw[hall7 7 (by simp),hall7 8 (by simp)]at hm7;have hm8:jJ wm W7 gm B2:=hm7.same fun y=>(by rw[OP];exact(hst.out y).symm);have hgr:=hI.gr;have e10:=hI.v 0 (by decide) (hall7 0 (by simp));simp only[acV,gA,gZ,gS,Act.put,sA,sZ,sS,List.length_cons,List.length_nil,Nat.reduceAdd];have k7:=k6.grown hgr (by intro e;injection e with e;exact hgh.out e);have hC7:bG W7 w.heap.size v6 M2:=hC6.kept (row:=some gm) hgr (.inr fun e=>by
            obtain⟨cs,hb⟩:=yB hC6 e;exact hmb.out cs hb)
           have hB7:=hB6.grown hgr hB6.size (fun k e=>by injection e with e;omega);clear hI hm7 hgr hm6 k6 hC6 hB6 hst hall7 nM6;go_wp2;go_roundw;case rel=>exact⟨k+1,by omega,by go_num,by rw[hM2.out];exact hC7,k7,by rw[hB2.out];exact hm8,OV,hB7⟩
           case measure=>simp[intOf];omega
    ·obtain rfl:k=path.length:=(by omega);obtain rfl:=lu.out fun j hj hj2=>hall.out j hj hj2;go_wp2;go_ret;exact⟨rfl,hb⟩
end Go.Proofs.YtpjechjoijjhpaaGreatDoor
