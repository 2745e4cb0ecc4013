/-
  Walks: layer 30: whether a state may be.
-/
import Derived.Test.YtfhnamomiaekdaaGreatDoorP07
import Derived.Test.YtfhnamomiaekdaaGreatDoorP05
set_option linter.unusedVariables false
set_option linter.unusedSimpArgs false
namespace Go.Proofs.YtfhnamomiaekdaaGreatDoor
open Go.RowKit Go.Inq
set_option maxHeartbeats 8000000
attribute [local go_sem↓] Go.wp_at_zero Go.wp_at_succ
set_option maxRecDepth 100000 in
theorem jJ(A:Option Addr)(c:Nat)(H:List Txn)(v:Value)(s:Wd)(w:World)(h:aA w (Old w) (.slice A H.length c) H)(hn:aG H)(hv:WdS w (Old w) v s)(hs:lq s):
 Calls Tryz.prog 42 #[.agg #[.slice A H.length c],v] w fun e w'=>e= .returned (.bool (cZ H s))∧Below w.heap.size w w':=by
 obtain⟨Ap,cp,Al,cl,rfl,hP,hL⟩:=hv.form;obtain⟨_,_,O9,hcp⟩:=SlR.len hP;injection O9 with q1 q2 q3
 subst q1 q3;have hfB:=hide (zZ (H:=H) (s:=s));have hfP:=hide (fun k=>Aa (H:=H) (s:=s) (k:=k));have hfL:=hide (lg (H:=H) (s:=s));have hfR:=hide (fun k=>CZ (H:=H) (s:=s) (k:=k));have hpW:=hide (Ab (H:=H) (s:=s));have hlW:=hide (Ac (H:=H) (s:=s));have hyes:=hide (C8 (H:=H) (s:=s));have hnil:=hide (C9 (H:=H) (s:=s));have hbW:Hid (og H s=(ay H&&decide (1≤s.width)&&decide (s.width≤32)&&decide (s.path.length≤H.length-1))):=hide rfl;obtain⟨width,cut,path,left⟩:=s;dsimp only at*;obtain⟨hs1,hs2,hs3⟩:=hs;dsimp only at hs1 hs2 hs3;obtain⟨W0,hW0⟩:∃W0,(w.alloc (.cells #[.slice A H.length c] 24)).alloc (.cells #[.int .i64 width,.bool cut,.slice Ap path.length cp,.slice Al left.length cl] 84)=W0:=⟨_,rfl⟩;have hB:=aN hW0;have k0:=Blk.jg hW0;have k1:=Blk.iB hW0;have hT:=hide (h.below hB);have hP0:=hide (hP.below hB);have hL0:=hide (hL.below hB);have c0:=Blk.n0 k0;have KW:ay H=true→H.length≤32:=fun h=>((aC H).1 h).1;replace KW:=hide KW;replace hn:=hide hn;have hs0:=size_two hW0;replace hs0:=hide hs0;replace hs3:=hide hs3;clear h hP hL hv;go_enter Tryz.func42,Tryz.ntmps42;go_wp2_with fail;clear hW0 c0;refine(dn A c H _ hT.out hn.out).mono ?_;rintro e w1 ⟨rfl,hb1⟩;replace k0:=k0.below hb1 k0.lt;replace k1:=k1.below hb1 k1.lt;have hP1:=hide (hP0.out.below hb1);have hL1:=hide (hL0.out.below hb1);have hb:=hB.trans (hb1.mono hB.size);clear hb1 hB hT hP0 hL0;have c0:=Blk.n0 k1;have c2:=Blk.n2 k1;have c3:=Blk.n3 k1;cases hr:ay H with
 |false=>
  have hres:=hide (hfB.out (by rw[hbW.out,hr];rfl));clear hr;go_wp2;go_ret;exact⟨by rw[hres.out];rfl,hb⟩
 |true=>
  have h32:=KW.out hr;rw[hr]at hbW;clear hr KW;by_cases hw1:1≤width
  ·have ND:decide (width<1)=false:=(by simpa using hw1);by_cases hw2:width≤32
   ·have NG:decide (width>32)=false:=(by simpa using hw2);by_cases hp:path.length≤H.length-1
    ·have hbase:=hide (show og H ⟨width,cut,path,left⟩=true by rw[hbW.out];simp[hw1,hw2,hp]);have hmb:decide ((path.length:Int)>max ((H.length:Int)-1) 0)=false:=(by simp;omega);clear hw1 hw2 hp hfB hbW;go_wp2_with fail;clear hmb ND NG c0 c2 c3;go_loopw [39] (fun s39 wr=>∃k:Nat,k≤path.length∧s39= .int .i64 k∧Hid (∀j (hj:j<path.length),j<k→aW H.length [path[j]] (path.take j)=true)∧Below w1.heap.size w1 wr) (fun s39 _=>path.length-(intOf s39).toNat);case atStart=>exact⟨0,Nat.zero_le _,by go_num,fun j hj h=>absurd h (by omega),Below.refl _ _⟩
     case round=>
      obtain⟨k,hk,rfl,hall,hbr⟩:=hrel;have hk1:(0:Int)≤(k:Int):=Int.natCast_nonneg _;have hPr:=hide (hP1.out.below hbr);have m1:=k1.below hbr k1.lt;have c2:=Blk.n2 m1;have c3:=Blk.n3 m1;have hbF:=hb.trans (hbr.mono hb.size);by_cases hlt:k<path.length
      ·have hi2:(k:Int)<(path.length:Int):=(by omega);obtain⟨b,off,rfl,_,d0⟩:=hPr.out.at_ hlt;have hbad:=hide (hfP.out k hlt);have hst:Hid (aW H.length [path[k]] (path.take k)=true→∀j (hj:j<path.length),j<k+1→aW H.length [path[j]] (path.take j)=true):=fun g j hj hjk=>by
        by_cases e:j=k
        ·subst e;exact g
        ·exact hall.out j hj (by omega)
       have htk:=hide (aB.take hPr.out hk);have hlk:(path.take k).length=k:=(by rw[List.length_take];omega);have hkc:k≤cp:=(by omega);obtain⟨W2,hW2⟩:∃W2,wr.alloc (.cells #[.int .i64 path[k]] 3)=W2:=⟨_,rfl⟩;have hB2:=ah (Below.refl wr.heap.size wr) hW2 (Nat.le_refl _);have n0:=Blk.newEq hW2;have hone:=hide (aB.bW (l:=[path[k]]) (K:=Old W2) n0 n0.lt);have hcall:=hide (rU H.length (some ⟨wr.heap.size,0,none⟩) 1 [path[k]] (some ⟨b,off,none⟩) cp (path.take k) (Old W2) W2 (fun b h=>h) hone.out (by simp) (by rw[hlk];exact htk.out.below hB2) (by rw[hlk];omega));rw[hlk]at hcall;have c2b:=Blk.n2 (m1.av hW2);have hbG:=hbF.trans (hB2.mono hbF.size);have hbR:=hbr.trans (hB2.mono hbr.size);clear hall hone n0 hB2 htk hPr m1 hbF hbr hcp;generalize hfr:aW H.length [path[k]] (path.take k)=fr at*;generalize path[k]=x at*;go_wp2_with fail;clear hW2 c2b c2 d0;refine hcall.out.mono ?_;rintro e W3 ⟨rfl,hb3⟩;replace hbG:=hbG.trans (hb3.mono hbG.size);replace hbR:=hbR.trans (hb3.mono hbR.size);clear hcall hb3;cases fr with
       |false=>
        have hres:=hide (hbad.out rfl);clear hst hbad hfr;go_wp2;go_ret;exact⟨by rw[hres.out];rfl,hbG⟩
       |true=>
        have hgo:=hide (hst.out rfl);clear hst hbad hfr;go_wp2;go_roundw;case rel=>exact⟨k+1,by omega,by go_num,hgo,hbR⟩
        case measure=>simp[intOf];omega
      ·have hpw:=hide (hpW.out fun j hj=>hall.out j hj (by omega));have hL2:=hide (hL1.out.below hbr);clear hall hP1;by_cases hl0:left=[]
       ·subst hl0;have hres:=hide (hnil.out hbase.out hpw.out rfl);have hpe:decide (path=[])=((path.length:Int)==0):=by
         cases path<;>simp;omega
        rw[hpe]at hres;clear hpe;go_wp2;go_ret;exact⟨by rw[hres.out];rfl,hbF⟩
       ·have yX:0<left.length:=List.length_pos_iff.2 hl0;have Mr:((left.length:Int)==0)=false:=(by simp;omega);by_cases hle:left.length=path.length+1
        ·have NH:((left.length:Int) !=(path.length:Int)+1)=false:=(by rw[hle];simp);have Jb:=hide (hyes.out hbase.out hpw.out hl0 hle);clear hyes hbase hpw hl0 hfL hnil hfP hpW hL1;obtain⟨Wp,rfl⟩:∃Wp,Wp=wr:=⟨_,rfl⟩;replace hle:=hide hle;go_wp2_with fail;clear c2 c3 yX Mr NH hlt k1 k0 hbr hk hk1;go_loopw [73] (fun s73 wq=>∃k:Nat,k≤left.length∧s73= .int .i64 k∧Hid (∀j (hj:j<left.length),j<k→eO left[j]=true∧aW H.length left[j] (path.take j)=true)∧Below Wp.heap.size Wp wq) (fun s73 _=>left.length-(intOf s73).toNat);case atStart=>exact⟨0,Nat.zero_le _,by go_num,fun j hj h=>absurd h (by omega),Below.refl _ _⟩
         case round=>
          obtain⟨Wo,rfl⟩:∃Wo,Wo=wr:=⟨_,rfl⟩;obtain⟨i,hi,rfl,hall,hbr⟩:=hrel;have hk1:(0:Int)≤(i:Int):=Int.natCast_nonneg _;have hPo:=hide (hPr.out.below hbr);have m2:=m1.below hbr m1.lt;have hbG:=hbF.trans (hbr.mono hbF.size);by_cases hlt:i<left.length
          ·have hi2:(i:Int)<(left.length:Int):=(by omega);have hip:i≤path.length:=(by have:=hle.out;omega);obtain⟨bl,ol,Ar,cr,rfl,_,d0,hrow⟩:=(hL2.out.below hbr).at_ hlt;have hrl:=hs3.out _ (List.getElem_mem hlt);have hbad:=hide (hfR.out i hlt);have hst:Hid (eO left[i]=true∧aW H.length left[i] (path.take i)=true→∀j (hj:j<left.length),j<i+1→eO left[j]=true∧aW H.length left[j] (path.take j)=true):=fun g j hj hjk=>by
            by_cases e:j=i
            ·subst e;exact g
            ·exact hall.out j hj (by omega)
           have hri:=hide (qX left[i]);clear hall;generalize left[i]=row at*;replace hrow:=hide hrow;go_wp2_with fail;clear d0;go_loopw [10] (fun s10 wq=>∃j:Nat,(row.length=0∧j=0∨j<row.length)∧s10= .int .i64 ((j:Int)+1)∧Hid (∀q,0<q→(h:q<row.length)→q<j+1→row[q-1]<row[q])∧Below Wo.heap.size Wo wq) (fun s10 _=>row.length-(intOf s10).toNat);case atStart=>exact⟨0,by omega,by go_num,fun q h1 h2 h3=>absurd h3 (by omega),Below.refl _ _⟩
           case round=>
            obtain⟨j,hj,rfl,hup,hbq⟩:=hrel;have hj1:(0:Int)≤(j:Int):=Int.natCast_nonneg _;by_cases hjl:j+1<row.length
            ·have hj2:((j:Int)+1)<(row.length:Int):=(by omega);have hj3:(j:Int)<(row.length:Int):=(by omega);obtain⟨b,off,rfl,_,x0⟩:=(hrow.out.below hbq).at_ (i:=j) (by omega);have x1:=((hrow.out.below hbq).cells (i:=j+1) hjl).2;have Ms:Hid (row[j]<row[j+1]→∀q,0<q→(h:q<row.length)→q<j+1+1→row[q-1]<row[q]):=fun g q h1 h2 h3=>by
              by_cases e:q=j+1
              ·subst e;exact g
              ·exact hup.out q h1 h2 (by omega)
             have hno:Hid (¬row[j]<row[j+1]→eO row=false):=fun g=>by
              cases hrr:eO row with
              |false=>rfl
              |true=>exact absurd (hri.out.1 hrr (j+1) (by omega) hjl) g
             clear hup;generalize row[j]=x at*;generalize row[j+1]=y at*;by_cases hxy:x<y
             ·have hb1:decide (x≥y)=false:=(by simp;omega);have hgo:=hide (Ms.out hxy);clear hno Ms hxy;go_wp2_with fail;go_quiet (fail);go_wp2;go_roundw;case rel=>exact⟨j+1,by omega,by go_num,hgo,hbq.trans ⟨rfl,rfl,rfl,Nat.le_refl _,fun _ _=>rfl⟩⟩
              case measure=>simp[intOf];omega
             ·have hb1:decide (x≥y)=true:=(by simp;omega);have hres:=hide (hbad.out (.inl (hno.out hxy)));clear hno Ms hxy;go_wp2_with fail;go_quiet (fail);go_wp2;go_ret;exact⟨by rw[hres.out];rfl,(hbG.trans (hbq.mono hbG.size)).trans ⟨rfl,rfl,rfl,Nat.le_refl _,fun _ _=>rfl⟩⟩
            ·have hrise:=hide (hri.out.2 fun q h1 h2=>hup.out q h1 h2 (by omega));have hj2:((j:Int)+1)≥(row.length:Int):=(by omega);have m3:=m2.below hbq m2.lt;have c2:=Blk.n2 m3;have hlk:(path.take i).length=i:=(by rw[List.length_take];omega);have hkc:i≤cp:=(by omega);have htk:=(aB.take hPo.out hip).below hbq;have hcall:=hide (rU H.length Ar cr row Ap cp (path.take i) (Old wr) wr (fun b h=>h) (hrow.out.below hbq) hrl (by rw[hlk];exact htk) (by rw[hlk];omega));rw[hlk]at hcall;have hbR:=hbr.trans (hbq.mono hbr.size);have hbS:=hbG.trans (hbq.mono hbG.size);clear hri hup hrow htk m2 m3 hPo hbG hbr hbq m1 hlk hj hjl;generalize hfr:aW H.length row (path.take i)=fr at*;go_wp2_with fail;clear c2;refine hcall.out.mono ?_;rintro e W3 ⟨rfl,hb3⟩;replace hbS:=hbS.trans (hb3.mono hbS.size);replace hbR:=hbR.trans (hb3.mono hbR.size);clear hcall hb3;cases fr with
             |false=>
              have hres:=hide (hbad.out (.inr rfl));clear hst hbad hfr;go_wp2;go_ret;exact⟨by rw[hres.out];rfl,hbS⟩
             |true=>
              have hgo:=hide (hst.out ⟨hrise.out,rfl⟩);clear hst hbad hfr;go_wp2;go_roundw;case rel=>exact⟨i+1,by omega,by go_num,hgo,hbR⟩
              case measure=>simp[intOf];omega
          ·have hres:=hide (Jb.out (hlW.out fun j hj=>hall.out j hj (by omega)));go_wp2;go_ret;exact⟨by rw[hres.out];rfl,hbG⟩
        ·have NH:((left.length:Int) !=(path.length:Int)+1)=true:=(by simp;omega);have hres:=hide (hfL.out hl0 hle);go_wp2;go_ret;exact⟨by rw[hres.out];rfl,hbF⟩
    ·have hres:=hide (hfB.out (by rw[hbW.out];simp[hp]));have hmb:decide ((path.length:Int)>max ((H.length:Int)-1) 0)=true:=(by simp;omega);clear hp hw1 hw2;go_wp2;go_ret;exact⟨by rw[hres.out];rfl,hb⟩
   ·have NG:decide (width>32)=true:=(by simpa using hw2);have hres:=hide (hfB.out (by rw[hbW.out];simp[hw2]));clear hw2;go_wp2;go_ret;exact⟨by rw[hres.out];rfl,hb⟩
  ·have ND:decide (width<1)=true:=(by simpa using hw1);have hres:=hide (hfB.out (by rw[hbW.out];simp[hw1]));clear hw1;go_wp2;go_ret;exact⟨by rw[hres.out];rfl,hb⟩
end Go.Proofs.YtfhnamomiaekdaaGreatDoor
