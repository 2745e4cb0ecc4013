/-
  Walks: layer 30's reference: are two states alike?
-/
import Derived.Test.YtfhnamomiaekdaaGreatDoorRows
import Derived.Test.YtfhnamomiaekdaaGreatDoorCards
import Derived.Test.YtfhnamomiaekdaaGreatDoorTie
import Derived.ProofKit
import Derived.OpenShut
import Derived.LaidMore
import Derived.Lay
import Derived.SevenTiedAt
import Derived.Stop.Joined
import Derived.HandedShaped
import Derived.SliceStrings
import Derived.Deep.Slices
import Derived.Below
import Derived.Carry
import Derived.Lib.LaidU8
import Derived.Deep.Fields
import Derived.ChangeSame
import Derived.Lib.SmallJoins
import Derived.Deep.Strs
import Derived.JoinedOf
import Derived.Test.YtfhnamomiaekdaaGreatDoorP16
import Derived.Test.YtfhnamomiaekdaaGreatDoorP05
import Derived.Test.YtfhnamomiaekdaaGreatDoorP07
import Derived.Test.YtfhnamomiaekdaaGreatDoorP02
import Derived.Test.YtfhnamomiaekdaaGreatDoorP17
import Derived.Test.YtfhnamomiaekdaaGreatDoorP23
import Derived.Test.YtfhnamomiaekdaaGreatDoorP09
set_option linter.unusedVariables false
set_option linter.unusedSimpArgs false
namespace Go.Proofs.YtfhnamomiaekdaaGreatDoor
open Go.RowKit Go.Inq
set_option maxHeartbeats 8000000
attribute [local go_sem↓] Go.wp_at_zero Go.wp_at_succ
def xZ(s:Wd):Prop:=s.path.length≤1000000∧s.left.length≤1000000∧∀l∈s.left,l.length≤1000000
theorem Og{s s':Wd}(h1:s.width=s'.width)(h2:s.cut=s'.cut)(h3:s.path=s'.path)(h4:s.left=s'.left):s=s':=by
 cases s;cases s';simp only at h1 h2 h3 h4;subst h1 h2 h3 h4;rfl
set_option maxRecDepth 100000 in
theorem DU(s s':Wd)(v v':Value)(w:World)(hv:WdS w (Old w) v s)(hv':WdS w (Old w) v' s')(hs:xZ s)(hs':xZ s'):
 Calls Tryz.prog 43 #[v,v'] w fun e w'=>e= .returned (.bool (decide (s=s')))∧Below w.heap.size w w':=by
 obtain⟨Ap,cp,Al,cl,rfl,hP,hL⟩:=hv.form;obtain⟨Ap',cp',Al',cl',rfl,hP',hL'⟩:=hv'.form;obtain⟨hs1,hs2,hs3⟩:=hs;obtain⟨P5,Rf,MV⟩:=hs';clear hv hv';obtain⟨W0,hW0⟩:∃W0,(w.alloc (.cells #[.int .i64 s.width,.bool s.cut,.slice Ap s.path.length cp,.slice Al s.left.length cl] 90)).alloc (.cells #[.int .i64 s'.width,.bool s'.cut,.slice Ap' s'.path.length cp',.slice Al' s'.left.length cl'] 90)=W0:=⟨_,rfl⟩;have hb:=aN hW0;have k1:=Blk.jg hW0;have k2:=Blk.iB hW0;have hP0:=hP.below hb;have Oh:=hP'.below hb;have hL0:=hL.below hb;have hL0':=hL'.below hb;clear hP hP' hL hL';have e0:=Blk.n0 k1;have e1:=Blk.n1 k1;have e2:=Blk.n2 k1;have e3:=Blk.n3 k1;have d0:=Blk.n0 k2;have d1:=Blk.n1 k2;have d2:=Blk.n2 k2;have d3:=Blk.n3 k2;replace hs3:=hide hs3;replace MV:=hide MV;replace hL0:=hide hL0;replace hL0':=hide hL0';go_enter Tryz.func43,Tryz.ntmps43;go_wp2_with fail;clear hW0 e0 e1 e2 e3 d0 d1 d2 d3;refine(zK Ap Ap' cp cp' s.path s'.path W0 hP0 Oh hs1 P5).mono ?_;rintro e W1 ⟨rfl,hb1⟩;replace k1:=k1.below hb1 k1.lt;replace k2:=k2.below hb1 k2.lt;replace hb:=hb.trans (hb1.mono hb.size);replace hL0:=hide (hL0.out.below hb1);replace hL0':=hide (hL0'.out.below hb1);clear hP0 Oh hb1;have e0:=Blk.n0 k1;have e1:=Blk.n1 k1;have e3:=Blk.n3 k1;have d0:=Blk.n0 k2;have d1:=Blk.n1 k2;have d3:=Blk.n3 k2;have hne:Hid (s≠s'→decide (s=s')=false):=hide fun h=>(by simpa using h);have hyes:=hide (Og (s:=s) (s':=s'));have hpp:Hid (decide (s.path=s'.path)=true↔s.path=s'.path):=hide (by simp);generalize decide (s.path=s'.path)=pb at*;go_upto_region 2 with fail;go_cut [37] (fun s37 wz=>∃bb:Bool,s37= .bool bb∧Hid (bb=true→s≠s')∧Hid (bb=false→s.width=s'.width∧s.cut=s'.cut∧s.path=s'.path∧s.left.length=s'.left.length)∧W1=wz);case first=>
  by_cases q1:s.width=s'.width;rotate_left
  ·have hr:Hid (s=s'→False):=hide (fun e:s=s'=>q1 (by rw[e]));have q1b:(s.width !=s'.width)=true:=(by simpa using q1);clear q1;go_wp2
   go_meet
   exact⟨true,rfl,hide (fun _ e=>hr.out e),hide (fun h=>by cases h),rfl⟩
  have q1b:(s.width !=s'.width)=false:=(by simpa using q1);rcases Bool.eq_false_or_eq_true s.cut with hc1|hc1<;>rcases Bool.eq_false_or_eq_true s'.cut with hc2|hc2;all_goals
   rw[hc1]at e1;rw[hc2]at d1
  rotate_left
  ·have hr:Hid (s=s'→False):=hide (fun e:s=s'=>by rw[e,hc2]at hc1;cases hc1);clear q1 hc1 hc2;go_wp2
   go_meet
   exact⟨true,rfl,hide (fun _ e=>hr.out e),hide (fun h=>by cases h),rfl⟩
  ·have hr:Hid (s=s'→False):=hide (fun e:s=s'=>by rw[e,hc2]at hc1;cases hc1);clear q1 hc1 hc2;go_wp2
   go_meet
   exact⟨true,rfl,hide (fun _ e=>hr.out e),hide (fun h=>by cases h),rfl⟩
  all_goals
   have hc:=hide (hc1.trans hc2.symm);clear hc1 hc2;cases pb with
   |false=>
    have hr:Hid (s=s'→False):=hide (fun e:s=s'=>by have:=hpp.out.2 (by rw[e]);cases this);clear q1 hpp;go_wp2
    go_meet
    exact⟨true,rfl,hide (fun _ e=>by cases hr.out e),hide (fun h=>by cases h),rfl⟩
   |true=>
    by_cases q4:s.left.length=s'.left.length
    ·have q4b:((s.left.length:Int) !=(s'.left.length:Int))=false:=(by simp;omega);have q4c:(s.left.length !=s'.left.length)=false:=(by simpa using q4);have Oi:=hide (And.intro q1 (And.intro hc.out (And.intro (hpp.out.1 rfl) q4)));clear q1 q4 hc hpp;go_wp2
     go_meet
     exact⟨false,rfl,hide (fun h=>by cases h),hide (fun _=>Oi.out),rfl⟩
    ·have hr:Hid (s=s'→False):=hide (fun e:s=s'=>q4 (by rw[e]));have q4b:((s.left.length:Int) !=(s'.left.length:Int))=true:=(by simp;omega);have q4c:(s.left.length !=s'.left.length)=true:=(by simpa using q4);clear q1 q4 hc hpp;go_wp2
     go_meet
     exact⟨true,rfl,hide (fun _ e=>hr.out e),hide (fun h=>by cases h),rfl⟩
 case rest=>
 obtain⟨bb,rfl,hb1,hb2,rfl⟩:=hcut;cases bb with
 |true=>
  have hr:=hide (hne.out (hb1.out rfl));go_wp2;go_ret;exact⟨by rw[hr.out];rfl,hb⟩
 |false=>
  obtain⟨q1,q2,q3,q4⟩:=hb2.out rfl;replace hyes:=hide (hyes.out q1 q2 q3);clear q1 q2 q3 hpp hb1 hb2;have q5:s'.left.length≤s.left.length:=(by omega);have q6:s.left.length≤s'.left.length:=(by omega);have Jb:Hid ((∀j (hj:j<s.left.length) (hj':j<s'.left.length),s.left[j]=s'.left[j])→decide (s=s')=true):=hide (fun h=>by
   simp only[decide_eq_true_eq];exact hyes.out (List.ext_getElem q4 h))
  clear q4 hyes;clear e0 e1 e3 d0 d1 d3;have e3:=Blk.n3 k1;have d3:=Blk.n3 k2;have e0:=Blk.n0 k1;have e1:=Blk.n1 k1;have d0:=Blk.n0 k2;have d1:=Blk.n1 k2;replace hb:=hide hb;go_upto_region 5 with fail;go_loopw [6] (fun s6 wr=>∃i:Nat,i≤s.left.length∧s6= .int .i64 i∧Hid (∀j (hj:j<s.left.length) (hj':j<s'.left.length),j<i→s.left[j]=s'.left[j])∧Below W1.heap.size W1 wr) (fun s6 _=>s.left.length-(intOf s6).toNat);case atStart=>exact⟨0,Nat.zero_le _,by go_num,fun j _ _ h=>absurd h (by omega),Below.refl _ _⟩
  case round=>
   obtain⟨i,hi,rfl,hall,hbr⟩:=hrel;obtain⟨Wr,rfl⟩:∃Wr,Wr=wr:=⟨_,rfl⟩;have hi1:(0:Int)≤(i:Int):=Int.natCast_nonneg _;have m1:=k1.below hbr k1.lt;have m2:=k2.below hbr k2.lt;have hLr:=hide (hL0.out.below hbr);have Oj:=hide (hL0'.out.below hbr);clear e3 d3 e0 e1 d0 d1;have e3:=Blk.n3 m1;have d3:=Blk.n3 m2;by_cases hlt:i<s.left.length
   ·have hlt':i<s'.left.length:=(by omega);have hi2:(i:Int)<(s.left.length:Int):=(by omega);have hi3:(i:Int)<(s'.left.length:Int):=(by omega);obtain⟨b,off,A1,c1,rfl,-,x1,hI⟩:=hLr.out.at_ hlt;obtain⟨b',off',A2,c2,rfl,-,x2,hI'⟩:=Oj.out.at_ hlt';have hg1:=hs3.out _ (List.getElem_mem hlt);have hg2:=MV.out _ (List.getElem_mem hlt');have hne2:Hid (s.left[i]≠s'.left[i]→decide (s=s')=false):=hide (fun h=>hne.out fun e=>h (by subst e;rfl));have hstp:Hid (s.left[i]=s'.left[i]→∀j (hj:j<s.left.length) (hj':j<s'.left.length),j<i+1→s.left[j]=s'.left[j]):=hide (fun e j hj hj' hlt=>by
     by_cases h:j=i
     ·subst h;exact e
     ·exact hall j hj hj' (by omega))
    generalize s.left[i]=l1 at*;generalize s'.left[i]=l2 at*;have hI0:=hide (hI.keep (w':=Wr.drew) (K':=Old Wr.drew) (Agree.drew _ _) (fun _ h=>h));have P6:=hide (hI'.keep (w':=Wr.drew) (K':=Old Wr.drew) (Agree.drew _ _) (fun _ h=>h));clear hLr Oj hI hI';replace hall:=hide hall;go_upto_region 7 with fail;refine mE [0,1,2,3,4,5,6,7,8,9] [10,11] (by kernel_rfl) (by kernel_rfl) (fun _ _ d _ _ h=>by cases d<;>exact h) ?_;simp only[List.filterMap_cons,List.filterMap_nil,gZ,gS];repeat still_step
    refine wpStill_nil ?_;go_wp2_with fail;refine(zK A1 A2 c1 c2 l1 l2 _ hI0.out P6.out hg1 hg2).mono ?_;rintro e W2 ⟨rfl,hb2⟩;have Ol:=hbr.drew.trans (hb2.mono (show W1.heap.size≤Wr.drew.heap.size from hbr.size));by_cases he:l1=l2
    ·have hd:decide (l1=l2)=true:=(by simpa using he);have hs2:=hide (hstp.out he);clear he;rw[hd];go_wp2;go_roundw;case rel=>exact⟨i+1,by omega,by go_num,hs2.out,Ol⟩
     case measure=>simp[intOf];omega
    ·have hd:decide (l1=l2)=false:=(by simpa using he);have hr:=hide (hne2.out he);clear he;rw[hd];go_wp2;go_ret;exact⟨by rw[hr.out];rfl,hb.out.trans (Ol.mono hb.out.size)⟩
   ·have hr:=hide (Jb.out fun j hj hj'=>hall j hj hj' (by omega));replace hall:=hide hall;go_wp2;go_ret;exact⟨by rw[hr.out];rfl,hb.out.trans (hbr.mono hb.out.size)⟩
set_option maxHeartbeats 4000000
set_option maxHeartbeats 8000000
def DV(s:Wd):Bool:=decide (s.path.length≤40)&&decide (s.left.length≤40)&&s.left.all fun l=>decide (l.length≤40)
set_option maxRecDepth 100000 in
theorem DW(v:Value)(s:Wd)(w:World)(hv:WdS w (Old w) v s):
 Calls Tryz.prog 40 #[v] w fun e w'=>e= .returned (.bool (DV s))∧Below w.heap.size w w':=by
 obtain⟨Ap,cp,Al,cl,rfl,hP,hL⟩:=hv.form;obtain⟨W0,hW0⟩:∃W0,w.alloc (.cells #[.int .i64 s.width,.bool s.cut,.slice Ap s.path.length cp,.slice Al s.left.length cl] 84)=W0:=⟨_,rfl⟩;have hb:=ah (Below.refl w.heap.size w) hW0 (Nat.le_refl _);have k0:=Blk.newEq hW0;have c2:=Blk.n2 k0;have c3:=Blk.n3 k0;have hL0:=hide (hL.below hb);have hf:Hid (DV s=(decide (s.path.length≤40)&&decide (s.left.length≤40)&&s.left.all fun l=>decide (l.length≤40))):=hide rfl;obtain⟨width,cut,path,left⟩:=s;dsimp only at*;generalize DV ⟨width,cut,path,left⟩=r at*;clear hP hL hv;go_enter Tryz.func40,Tryz.ntmps40;by_cases h1:path.length≤40
 ·have h1b:decide (40<path.length)=false:=decide_eq_false (by omega);have h1c:decide ((path.length:Int)>40)=false:=decide_eq_false (by omega);by_cases h2:left.length≤40
  ·have h2b:decide (40<left.length)=false:=decide_eq_false (by omega);have h2c:decide ((left.length:Int)>40)=false:=decide_eq_false (by omega);have hf2:Hid (r=left.all fun l=>decide (l.length≤40)):=hide (by rw[hf.out];simp[h1,h2]);have P7:left.length≤40:=h2;clear h1 h2 hf;go_wp2_with fail;clear hW0
   go_loop [3] (fun s3=>∃i:Nat,i≤left.length∧s3= .int .i64 i∧Hid (∀j (hj:j<left.length),j<i→left[j].length≤40)) (fun s3=>left.length-(intOf s3).toNat)
   case atStart=>exact⟨0,Nat.zero_le _,by go_num,hide (fun j _ h=>absurd h (by omega))⟩
   case round=>
    obtain⟨i,hi,rfl,hall⟩:=hrel;have hi1:(0:Int)≤(i:Int):=Int.natCast_nonneg _;by_cases hlt:i<left.length
    ·have hi2:(i:Int)<(left.length:Int):=(by omega);obtain⟨bl,ol,Ar,cr,hA,-,d0,-⟩:=hL0.out.at_ hlt;subst hA;have hbad:Hid (¬left[i].length≤40→r=false):=hide (fun g=>by
      rw[hf2.out,List.all_eq_false];exact⟨left[i],List.getElem_mem hlt,by simpa using g⟩)
     have hst:Hid (left[i].length≤40→∀j (hj:j<left.length),j<i+1→left[j].length≤40):=hide (fun g j hj hji=>by
      by_cases e:j=i
      ·subst e;exact g
      ·exact hall.out j hj (by omega))
     generalize left[i].length=n at*;by_cases hn:n≤40
     ·have hnb:decide (40<n)=false:=decide_eq_false (by omega);have hnc:decide ((n:Int)>40)=false:=decide_eq_false (by omega);have hg:=hide (hst.out hn);clear hbad hst hall hf2 hn;go_wp2
      go_round
      case rel=>exact⟨i+1,by omega,by go_num,hg⟩
      case measure=>simp[intOf];omega
     ·have hnb:decide (40<n)=true:=decide_eq_true (by omega);have hnc:decide ((n:Int)>40)=true:=decide_eq_true (by omega);have hg:=hbad.out hn;subst hg;clear hbad hst hall hf2 hn;go_wp2;go_ret;exact⟨rfl,hb⟩
    ·have hg:r=true:=by
      rw[hf2.out,List.all_eq_true];intro x hx;obtain⟨j,hj,rfl⟩:=List.getElem_of_mem hx;exact decide_eq_true (hall.out j hj (by omega))
     subst hg;clear hall hf2;go_wp2;go_ret;exact⟨rfl,hb⟩
  ·have h2b:decide (40<left.length)=true:=decide_eq_true (by omega);have h2c:decide ((left.length:Int)>40)=true:=decide_eq_true (by omega);have hg:r=false:=(by rw[hf.out];simp[h2]);subst hg;clear h1 h2 hf;go_wp2;go_ret;exact⟨rfl,hb⟩
 ·have h1b:decide (40<path.length)=true:=decide_eq_true (by omega);have h1c:decide ((path.length:Int)>40)=true:=decide_eq_true (by omega);have hg:r=false:=(by rw[hf.out];simp[h1]);subst hg;clear h1 hf;go_wp2;go_ret;exact⟨rfl,hb⟩
end Go.Proofs.YtfhnamomiaekdaaGreatDoor
namespace Go.Inq
end Go.Inq
namespace Go.Proofs.YtfhnamomiaekdaaGreatDoor
open Go.RowKit Go.Inq
set_option maxHeartbeats 8000000
attribute [local go_sem↓] Go.wp_at_zero Go.wp_at_succ
set_option maxRecDepth 100000 in
theorem rY(v:Value)(s:Wd)(K:Nat→Prop)(w:World)(hv:WdS w K v s):
 Calls Tryz.prog 44 #[v] w fun e w'=>e= .returned v∧Below w.heap.size w w':=by
 obtain⟨Ap,cp,Al,cl,rfl,-,-⟩:=hv.form;obtain⟨W0,hW0⟩:∃W0,(w.alloc (.cells #[.int .i64 s.width,.bool s.cut,.slice Ap s.path.length cp,.slice Al s.left.length cl] 84)).alloc (.cells #[.int .i64 0,.bool false,.slice none 0 0,.slice none 0 0] 90)=W0:=⟨_,rfl⟩;have hb:=aN hW0;have k1:=Blk.jg hW0;have k2:=Blk.iB hW0;have e0:=Blk.n0 k1;have e1:=Blk.n1 k1;have e2:=Blk.n2 k1;have e3:=Blk.n3 k1;have d0:=Blk.n0 k2;have d1:=Blk.n1 k2;have d2:=Blk.n2 k2;have d3:=Blk.n3 k2;have f0:=k2.frozen 0;have f1:=k2.frozen 1;have f2:=k2.frozen 2;have f3:=k2.frozen 3;go_enter Tryz.func44,Tryz.ntmps44;go_wp2_with fail;clear hW0;have hz:=aZ (a:= .int .i64 s.width) (b:= .bool s.cut) (c:= .slice Ap s.path.length cp) (d:= .slice Al s.left.length cl) k2;have hzb:=aQ (p:=w.heap.size+1) (a:= .int .i64 s.width) (b:= .bool s.cut) (c:= .slice Ap s.path.length cp) (d:= .slice Al s.left.length cl) hb (by omega);have y0:=Blk.n0 hz;have y1:=Blk.n1 hz;have y2:=Blk.n2 hz;have y3:=Blk.n3 hz;unfold bY at y0 y1 y2 y3;exact bodyPost_ret (v:= .agg #[.int .i64 s.width,.bool s.cut,.slice Ap s.path.length cp,.slice Al s.left.length cl]) (by simp[results,Tryz.results44,go_sem,y0,y1,y2,y3]) rfl ⟨rfl,hzb⟩
theorem G7(H:List Txn)(path:List Int):(jG H path).length≤H.length:=by
 unfold jG;rw[List.length_map];exact Nat.le_trans (List.length_filter_le _ _) (by simp)
end Go.Proofs.YtfhnamomiaekdaaGreatDoor
namespace Go.Proofs.YtfhnamomiaekdaaGreatDoor
open Go.RowKit Go.Inq
theorem u7{s:Wd}(h:DV s=true):xZ s∧lq s∧s.path.length≤40∧s.left.length≤40∧∀l∈s.left,l.length≤40:=by
 unfold DV at h;simp only[Bool.and_eq_true,decide_eq_true_eq,List.all_eq_true]at h;obtain⟨⟨h1,h2⟩,h3⟩:=h;exact⟨⟨by omega,by omega,fun l hl=>by have:=h3 l hl;omega⟩,⟨by omega,by omega,fun l hl=>by have:=h3 l hl;omega⟩,h1,h2,h3⟩
theorem G8{H:List Txn}{level:Int}{s:Wd}(h:DV s=true)(hH:H.length≤40):xZ (stepW H level s).1∧(stepW H level s).2.2.length≤1000000:=by
 obtain⟨-,-,h1,h2,h3⟩:=u7 h;have hc:∀p:List Int,(jG H p).length≤1000000:=fun p=>Nat.le_trans (G7 H p) (by omega);have hput:∀s1:Wd,s1.path.length≤1000→s1.left.length≤1000→(∀l∈s1.left,l.length≤1000)→xZ (jU H s1):=fun s1 g1 g2 g3=>by
  refine⟨by unfold jU;simp;omega,by unfold jU;simp;omega,fun l hl=> ?_⟩;unfold jU at hl;simp only[List.mem_append,List.mem_singleton]at hl;rcases hl with hl|rfl
  ·have:=g3 l hl;omega
  ·exact Nat.le_trans (by rw[List.length_take];exact Nat.min_le_right _ _) (hc _)
 have hs:xZ s:=⟨by omega,by omega,fun l hl=>by have:=h3 l hl;omega⟩;unfold stepW;split
 ·exact⟨hs,by simp⟩
 ·split
  ·exact⟨hs,by simp⟩
  ·split
   ·exact⟨hput s (by omega) (by omega) (fun l hl=>by have:=h3 l hl;omega),by simp⟩
   ·split
    ·refine⟨⟨?_,?_,fun l hl=> ?_⟩,by simp⟩
     ·simp;omega
     ·simp;omega
     ·have:=h3 l ((List.dropLast_sublist _).subset hl);omega
    ·split
     ·exact⟨⟨by simp,by simp,by simp⟩,by simp⟩
     ·exact⟨hs,by simp⟩
   ·rename_i t r heq;have hm:(t::r)∈s.left:=List.mem_of_mem_getLast? heq;have hr:r.length≤40:=(by have:=h3 _ hm;simp at this;omega);have hd:∀l∈s.left.dropLast++[r],l.length≤1000:=fun l hl=>by
     simp only[List.mem_append,List.mem_singleton]at hl;rcases hl with hl|rfl
     ·have:=h3 l ((List.dropLast_sublist _).subset hl);omega
     ·omega
    have hdl:(s.left.dropLast++[r]).length≤1000:=(by simp;omega);dsimp only;split
    ·exact⟨⟨by dsimp only;omega,by dsimp only;omega,fun l hl=>by have:=hd l hl;omega⟩,by simp⟩
    ·rename_i o ho;split
     ·refine⟨⟨by dsimp only;omega,by dsimp only;omega,fun l hl=>by have:=hd l hl;omega⟩,?_⟩;have:=fV (show bM H.length _ H.length=some o from ho);simp;omega
     ·exact⟨hput _ (by simp;omega) hdl hd,by simp⟩
end Go.Proofs.YtfhnamomiaekdaaGreatDoor
namespace Go.Proofs.YtfhnamomiaekdaaGreatDoor
open Go.ChangeShapes Go.WideShapes Go.ChangeAt Go.RowKit Go.Inq
theorem own:ownKnob Tryz.prog.godebug=none:=by kernel_rfl
theorem laidOut:laidOutB Tryz.prog=true:=by kernel_rfl
theorem jq {H:Type} {enc:TypeId×Value→H} {a:Assume} {C:Checked} {os:Os} {f:FuncId} {fn:Func} {s:ChangeSpec} {conds:List PathCond} {apart fresh handsOn again:Bool} {X:World→Array Value→Prop}
 (hX:∀(w w':World) (args:Array Value),w.heap=w'.heap→X w args→X w' args)
 (own:ownKnob C.prog.godebug=none) (started:os.Started) (noInit:C.prog.inits.idxOf? f=none) (hfn:C.prog.funcs[f]?=some fn)
 (witness:∃(w:World) (tape:Tape) (i:Input),w.os=os∧(w.forCall tape i).Shaped C.prog∧i.vars=[]∧Input.okWide C.prog (w.forCall tape i) .any w.heap.size f i∧
  ((s.pre enc C.prog fn conds apart (w.forCall tape i).memory i.args∧X (w.forCall tape i).memory i.args)∧sizedMet enc C.prog fn (OpenSpec.ofChange s) apart (w.forCall tape i).memory i.args)∧a.holds C.prog (lone (Frame.enter C.prog f i.args .normal) [] (w.forCall tape i)))
 (contract:∀(W:World) (base:Nat) (args:Array Value) (ds gs:List (DataW H)) (before:List MemPlace),
  (∀(j:Nat) t v,fn.params[j]?=some t→args[j]?=some v→Value.okWide C.prog W .any base t v)→
  DataW.Whole enc C.prog fn.params.toList s.vars apart W args.toList ds gs before→
  X W args→W.ShapedOpen C.prog→
  Calls C.prog f args W fun e W'=>∃v,e= .returned v∧s.post enc C.prog fn apart fresh handsOn again W args v W'):
 ReturnsInHanded a C os f .any (fun w args=>(s.pre enc C.prog fn conds apart w args∧X w args)∧sizedMet enc C.prog fn (OpenSpec.ofChange s) apart w args) (s.post enc C.prog fn apart fresh handsOn again):=by
 refine returnsInHanded_of_calls own started noInit witness ?_;intro w tape i _ hsh _ hok hpre hholds;obtain⟨_,_,_,fn',hfn',_,_,_,_,hval⟩:=hok;have e:fn'=fn:=Option.some.inj (hfn'.symm.trans hfn);subst e;obtain⟨⟨⟨ds,gs,before,hw,hc⟩,hx⟩,hz⟩:=hpre;have hw':=DataW.Whole.of_heap (w':=w.forCall tape i) (by rfl) hw;refine(contract (w.forCall tape i) w.heap.size i.args ds gs before hval hw' (hX _ _ _ (by rfl) hx) hsh).mono fun e W' ⟨v,he,hp⟩=> ?_;subst he;exact ChangeSpec.post_blind hp
def rC(P:Program)(ts:List TypeId):Bool:=ts.all fun t=>P.readableRec t&&decide (t<P.types.size)
theorem Below.JY{P:Program}(hl:laidOutB P=true){H:Type}{enc:TypeId×Value→H}{W W':World}(hb:Below W.heap.size W W'):∀(ts:List TypeId) (vs:List Value) (ds:List (DataW H)) (ps:List MemPlace),rC P ts=true→
 DataW.TrodAll enc P W 0 (fun _=>true) true ts vs ds ps→(∀x∈ps,x.block<W.heap.size)→DataW.TrodAll enc P W' 0 (fun b=>decide (b<W.heap.size)) true ts vs ds ps:=by
 intro ts
 induction ts with
 |nil=>
  intro vs ds ps _ h _;cases vs with
  |cons=>exact h.elim
  |nil=>
   cases ds with
   |cons=>exact h.elim
   |nil=>exact h
 |cons t ts ih=>
  intro vs ds ps hk h hlt;cases vs with
  |nil=>exact h.elim
  |cons v vs=>
   cases ds with
   |nil=>exact h.elim
   |cons d ds=>
    obtain⟨p,q,h1,h2,rfl⟩:=h;unfold rC at hk;rw[List.all_cons,Bool.and_eq_true,Bool.and_eq_true]at hk;exact⟨p,q,Below.trod hl hk.1.1 (of_decide_eq_true hk.1.2) h1 hb (fun x hx=>hlt x (List.mem_append.2 (.inl hx))),ih _ _ _ hk.2 h2 (fun x hx=>hlt x (List.mem_append.2 (.inr hx))),rfl⟩
theorem Below.trodAll {H:Type} {enc:TypeId×Value→H} {W W':World} (hb:Below W.heap.size W W') {ts:List TypeId} {vs:List Value} {ds:List (DataW H)} {ps:List MemPlace} (hk:rC Tryz.prog ts=true)
 (h:DataW.TrodAll enc Tryz.prog W 0 (fun _=>true) true ts vs ds ps) (hlt:∀x∈ps,x.block<W.heap.size):DataW.TrodAll enc Tryz.prog W' 0 (fun b=>decide (b<W.heap.size)) true ts vs ds ps:=
 Below.JY laidOut hb ts vs ds ps hk h hlt
theorem jB.of{l:List (String×DataW Unit)}{W:World}(h:laidMetH Tryz.prog l W)(hp:laidMetH Tryz.prog l W=laidMet Tryz.prog l W)(hm:("math/bits.deBruijn64tab",Rows.laid_math_bits_deBruijn64tab)∈l):jB W:=by
 rw[hp]at h;obtain⟨g,t,cs,fuel,p,hg,ht,hv,hd⟩:=Lib.laidMet.reads h hm;obtain rfl:=Option.some.inj ((show Tryz.prog.globalNamed "math/bits.deBruijn64tab" =some 0 by kernel_rfl).symm.trans hg);obtain rfl:=Option.some.inj ((show(Tryz.prog.globals[0]?).map (·.type)=some 292 by kernel_rfl).symm.trans ht);have hc:=Lib.cells_of_tab (k:= .u8) (zs:=Lib.deBruijn64tab.map fun(x:Nat)=>(x:Int)) Tryz.underlying292 Tryz.underlying5 (by kernel_rfl) (by kernel_rfl) hd;intro j hj;rw[World.var?_cell hg hv j];have h1:cs.toList[j]?=some (.int .u8 (Lib.deBruijn64tab.getD j 0)):=by
  rw[hc,List.getElem?_map,List.getElem?_map,List.getElem?_eq_getElem hj];simp[List.getD_eq_getElem?_getD,List.getElem?_eq_getElem hj]
 simpa using h1
end Go.Proofs.YtfhnamomiaekdaaGreatDoor
namespace Go.Proofs.YtfhnamomiaekdaaGreatDoor
open Go.Joins Go.ChangeShapes Go.WideShapes Go.ChangeAt Go.RowKit Go.Deep Go.Inq
section
variable{H:Type}{enc:TypeId×Value→H}{w:World}{base:Nat}{spare:Nat→Bool}{held:Bool}
theorem nN {α:Type} {size:Nat} {R:World→(Nat→Prop)→List Value→α→Prop} {te ts:TypeId} (P:α→Prop) (x0:α) (hT:Tryz.prog.underlying ts=some (.slice te)) (hC:Tryz.prog.cellsOf te=size) (hs0:0<size)
 (hop:∀n cs x,DataW.trod enc Tryz.prog w base spare held n te cs=some x→∃t,R w (Old w) cs t∧P t)
 {n:Nat} {v:Value} {x:DataW H×List MemPlace} (h:DataW.trod enc Tryz.prog w base spare held n ts [v]=some x):
 ∃(A:Option Addr) (c:Nat) (l:List α),v= .slice A l.length c∧SlR size R w (Old w) (.slice A l.length c) l∧l.length≤maxLen∧∀t∈l,P t:=by
 rcases open_slice hT h with⟨h1,_⟩|⟨a,len,cap,m,n',D,Pl,h1,_,hl,hm,hmm,hx,hi⟩
 ·injection h1 with h1
  exact⟨none,0,[],h1,SlR.nil _ _ _ _ _ _,Nat.zero_le _,fun t ht=>by simp at ht⟩
 ·injection h1 with h1
  subst h1;rw[hC]at hi;have hlm:len≤m:=(by rw[hmm];split<;>omega);have hex:∀i,∃p:α×List Value,i<len→p.2.length=size∧R w (Old w) p.2 p.1∧P p.1∧∀j u,p.2[j]?=some u→w.cell? (a.add (i*size+j))=some u:=fun i=>by
   by_cases hil:i<len
   ·obtain⟨cs,hc,ht⟩:=hi i (by omega);obtain⟨t,hR,hP⟩:=hop _ _ _ ht;obtain⟨_,hcl,hat⟩:=World.cells?_some hc;refine⟨(t,cs),fun _=>⟨by simpa using hcl,hR,hP,fun j u hj=> ?_⟩⟩;have hj4:j<size:=by
     rcases Nat.lt_or_ge j size with h|h
     ·exact h
     ·rw[List.getElem?_eq_none (by dsimp only;omega)]at hj;cases hj
    rw[←Go.Deep.add_add,hat j hj4];exact hj
   ·exact⟨(x0,[]),fun h=>absurd h hil⟩
  obtain⟨f,hf⟩:=Classical.axiomOfChoice hex;have hlen:((List.range len).map fun i=>(f i).1).length=len:=(by simp);refine⟨some a,cap,(List.range len).map fun i=>(f i).1,by rw[hlen],⟨some a,cap,(List.range len).map fun i=>(f i).2,rfl,by omega,by simp,fun i cs x h1 h2=> ?_,fun h0=> ?_⟩,by omega,fun t ht=> ?_⟩
  ·simp only[List.getElem?_map]at h1 h2;cases hr:(List.range len)[i]? with
   |none=>rw[hr]at h1;cases h1
   |some k=>
    rw[hr]at h1 h2;simp at h1 h2;subst h1 h2;have hk:k<len:=by
     rw[List.getElem?_eq_some_iff]at hr;obtain⟨h3,h4⟩:=hr;simp at h3 h4;omega
    exact⟨(hf k hk).1,(hf k hk).2.1⟩
  ·rw[hlen]at h0;obtain⟨g1,_,_,g4⟩:=hf 0 h0;have hc0:=g4 0 ((f 0).2[0]'(by omega)) (List.getElem?_eq_getElem (by omega));obtain⟨_,_,_,_,hs⟩:=World.shape?_of_cell? hc0;obtain⟨b,o,sp⟩:=a;have hsp:sp=none:=by
    cases sp with
    |none=>rfl
    |some q=>simp[Addr.add]at hs
   subst hsp;have hbl:b<w.heap.size:=(by have:=block_lt_of_cell hc0;rwa[Addr.add_lit]at this);refine⟨b,o,rfl,hbl,fun i j cs u h1 h2=> ?_⟩;simp only[List.getElem?_map]at h1;cases hr:(List.range len)[i]? with
   |none=>rw[hr]at h1;cases h1
   |some k=>
    rw[hr]at h1;simp at h1;subst h1;have hk:k=i∧i<len:=by
     rw[List.getElem?_eq_some_iff]at hr;obtain⟨h3,h4⟩:=hr;simp at h3 h4;exact⟨h4.symm,h3⟩
    have:=(hf i hk.2).2.2.2 j u (by rw[←hk.1];exact h2);rw[Addr.add_lit,←Nat.add_assoc]at this;exact this
  ·obtain⟨k,hk,rfl⟩:=List.mem_map.1 ht;exact(hf k (by simpa using hk)).2.2.1
theorem JZ{n:Nat}{cs:List Value}{x:DataW H×List MemPlace}(h:DataW.trod enc Tryz.prog w base spare held n 3 cs=some x):∃k:Int,Go.Inq.Flat Go.Inq.encI w (Old w) cs k∧True:=by
 obtain⟨k,e,_⟩:=DataW.trod_int Tryz.underlying3 h;exact⟨k,e,trivial⟩
theorem rD{n:Nat}{v:Value}{x:DataW H×List MemPlace}(h:DataW.trod enc Tryz.prog w base spare held n 33 [v]=some x):
 ∃(A:Option Addr) (c:Nat) (l:List Int),v= .slice A l.length c∧aB w (Old w) (.slice A l.length c) l∧l.length≤maxLen:=by
 obtain⟨A,c,l,h1,h2,h3,_⟩:=nN (R:=Go.Inq.Flat Go.Inq.encI) (size:=1) (fun _=>True) 0 Tryz.underlying33 (by kernel_rfl) (by decide) (fun n cs x h=>JZ h) h;exact⟨A,c,l,h1,h2,h3⟩
theorem G9{n:Nat}{cs:List Value}{x:DataW H×List MemPlace}(hC:Tryz.prog.cellsOf 106=2)(h:DataW.trod enc Tryz.prog w base spare held n 106 cs=some x):∃e:It,Go.Inq.Flat It.enc w (Old w) cs e∧True:=by
 obtain⟨y0,y1,n',_,hl,h0,h1⟩:=trod_struct2 Tryz.underlying106 h;rw[hC]at hl;have h31:Tryz.prog.cellsOf 3=1:=(by kernel_rfl);simp only[h31]at h0 h1
 match cs,hl with
 |[a,b],_=>
  obtain⟨k0,e0,_⟩:=DataW.trod_int Tryz.underlying3 h0;obtain⟨k1,e1,_⟩:=DataW.trod_int Tryz.underlying3 h1;simp at e0 e1;exact⟨⟨k0,k1⟩,by unfold Go.Inq.Flat;simp[It.enc,e0,e1],trivial⟩
theorem DX{n:Nat}{v:Value}{x:DataW H×List MemPlace}(h:DataW.trod enc Tryz.prog w base spare held n 107 [v]=some x):
 ∃(A:Option Addr) (c:Nat) (l:List It),v= .slice A l.length c∧ItS w (Old w) (.slice A l.length c) l∧l.length≤maxLen:=by
 obtain⟨A,c,l,h1,h2,h3,_⟩:=nN (R:=Go.Inq.Flat It.enc) (size:=2) (fun _=>True) ⟨0,0⟩ Tryz.underlying107 (by kernel_rfl) (by decide) (fun n cs x h=>G9 (by kernel_rfl) h) h;exact⟨A,c,l,h1,h2,h3⟩
theorem J2{n:Nat}{cs:List Value}{x:DataW H×List MemPlace}(hC:Tryz.prog.cellsOf 109=3)(h:DataW.trod enc Tryz.prog w base spare held n 109 cs=some x):
 ∃t:Txn,vZ w (Old w) cs t∧t.writes.length≤maxLen∧t.reads.length≤maxLen:=by
 obtain⟨y0,y1,y2,n',_,hl,h0,h1,h2⟩:=trod_struct3 Tryz.underlying109 h;rw[hC]at hl;have e1:Tryz.prog.cellsOf 3=1:=(by kernel_rfl);have e2:Tryz.prog.cellsOf 33=1:=(by kernel_rfl);have e3:Tryz.prog.cellsOf 107=1:=(by kernel_rfl);simp only[e1,e2,e3]at h0 h1 h2
 match cs,hl with
 |[a,b,c],_=>
  obtain⟨k0,e0,_⟩:=DataW.trod_int Tryz.underlying3 h0;simp at e0;have h1':DataW.trod enc Tryz.prog w base spare held n' 33 [b]=some y1:=(by simpa using h1);have h2':DataW.trod enc Tryz.prog w base spare held n' 107 [c]=some y2:=(by simpa using h2);obtain⟨A,c',l,hv,hev,hlen⟩:=rD h1';obtain⟨A2,c2',l2,hv2,MW,xD⟩:=DX h2';exact⟨⟨k0,l,l2⟩,⟨b,c,by rw[e0],by rw[hv];exact hev,by rw[hv2];exact MW⟩,hlen,xD⟩
theorem He{n:Nat}{v:Value}{x:DataW H×List MemPlace}(h:DataW.trod enc Tryz.prog w base spare held n 22 [v]=some x):
 ∃(A:Option Addr) (c:Nat) (l:List Txn),v= .slice A l.length c∧aA w (Old w) (.slice A l.length c) l∧l.length≤maxLen∧∀t∈l,t.writes.length≤maxLen∧t.reads.length≤maxLen:=
 nN (R:=vZ) (size:=3) (fun t=>t.writes.length≤maxLen∧t.reads.length≤maxLen) ⟨0,[],[]⟩ Tryz.underlying22 (by kernel_rfl) (by decide) (fun n cs x h=>J2 (by kernel_rfl) h) h
theorem Hf{n:Nat}{cs:List Value}{x:DataW H×List MemPlace}(hC:Tryz.prog.cellsOf 24=1)(h:DataW.trod enc Tryz.prog w base spare held n 24 cs=some x):
 ∃(A:Option Addr) (c:Nat) (l:List Txn),cs=[.slice A l.length c]∧aA w (Old w) (.slice A l.length c) l∧l.length≤maxLen∧∀t∈l,t.writes.length≤maxLen∧t.reads.length≤maxLen:=by
 obtain⟨y0,n',_,hl,h0⟩:=trod_struct1 Tryz.underlying24 h;rw[hC]at hl;have e1:Tryz.prog.cellsOf 22=1:=(by kernel_rfl);simp only[e1]at h0
 match cs,hl with
 |[a],_=>
  have h0':DataW.trod enc Tryz.prog w base spare held n' 22 [a]=some y0:=(by simpa using h0);obtain⟨A,c,l,hv,h1,h2,h3⟩:=He h0';exact⟨A,c,l,by rw[hv],h1,h2,h3⟩
end
section
variable{H:Type}{enc:TypeId×Value→H}{w:World}{base:Nat}{spare:Nat→Bool}{held:Bool}
theorem open_row{n:Nat}{cs:List Value}{x:DataW H×List MemPlace}(hC:Tryz.prog.cellsOf 33=1)(hl:cs.length=1)(h:DataW.trod enc Tryz.prog w base spare held n 33 cs=some x):∃l:List Int,dP w (Old w) cs l∧True:=by
 match cs,hl with
 |[a],_=>
  obtain⟨A,c,l,hv,h1,_⟩:=rD h;exact⟨l,⟨a,rfl,by rw[hv];exact h1⟩,trivial⟩
theorem Hg{n:Nat}{cs:List Value}{x:DataW H×List MemPlace}(h:DataW.trod enc Tryz.prog w base spare held n 33 cs=some x):cs.length=1:=by
 rcases open_slice Tryz.underlying33 h with⟨h1,_⟩|⟨a,len,cap,m,n',D,Pl,h1,_⟩
 ·rw[h1];rfl
 ·rw[h1];rfl
theorem DY{n:Nat}{v:Value}{x:DataW H×List MemPlace}(h:DataW.trod enc Tryz.prog w base spare held n 82 [v]=some x):
 ∃(A:Option Addr) (c:Nat) (l:List (List Int)),v= .slice A l.length c∧dw w (Old w) (.slice A l.length c) l∧l.length≤maxLen:=by
 obtain⟨A,c,l,h1,h2,h3,_⟩:=nN (R:=dP) (size:=1) (fun _=>True) [] Tryz.underlying82 (by kernel_rfl) (by decide) (fun n cs x h=>open_row (by kernel_rfl) (Hg h) h) h;exact⟨A,c,l,h1,h2,h3⟩
theorem DZ{n:Nat}{cs:List Value}{x:DataW H×List MemPlace}(hC:Tryz.prog.cellsOf 84=4)(h:DataW.trod enc Tryz.prog w base spare held n 84 cs=some x):
 ∃(A:Option Addr) (c:Nat) (A2:Option Addr) (c2:Nat) (s:Wd),cs=[.int .i64 s.width,.bool s.cut,.slice A s.path.length c,.slice A2 s.left.length c2]∧aB w (Old w) (.slice A s.path.length c) s.path∧dw w (Old w) (.slice A2 s.left.length c2) s.left:=by
 obtain⟨y0,y1,y2,y3,n',_,hl,h0,h1,h2,h3⟩:=trod_struct4 Tryz.underlying84 h;rw[hC]at hl;have e1:Tryz.prog.cellsOf 3=1:=(by kernel_rfl);have e2:Tryz.prog.cellsOf 4=1:=(by kernel_rfl);have e3:Tryz.prog.cellsOf 33=1:=(by kernel_rfl);have e4:Tryz.prog.cellsOf 82=1:=(by kernel_rfl);simp only[e1,e2,e3,e4]at h0 h1 h2 h3
 match cs,hl with
 |[a,b,c,d],_=>
  obtain⟨k0,g0,_⟩:=DataW.trod_int Tryz.underlying3 h0;obtain⟨k1,g1,_⟩:=DataW.trod_bool Tryz.underlying4 h1;simp at g0 g1;have h2':DataW.trod enc Tryz.prog w base spare held n' 33 [c]=some y2:=(by simpa using h2);have h3':DataW.trod enc Tryz.prog w base spare held n' 82 [d]=some y3:=(by simpa using h3);obtain⟨A,c',l,hv,hev,_⟩:=rD h2';obtain⟨A2,c2',l2,hv2,MW,_⟩:=DY h3';exact⟨A,c',A2,c2',⟨k0,k1,l,l2⟩,by rw[g0,g1,hv,hv2],hev,MW⟩
end
end Go.Proofs.YtfhnamomiaekdaaGreatDoor
namespace Go.Proofs.YtfhnamomiaekdaaGreatDoor
def J3(P:Program)(fn:Func)(s:ChangeSpec)(c:OpenClaim):Bool:=
 c.wf (OpenSpec.ofChange s)&&laidOutB P&&mapsRowed P&&fn.params.all (P.readableRec ·)&&namedTie P c.named s.vars
def Fb(P:Program)(fn:Func)(s:ChangeSpec)(c:OpenClaim):Bool:=
 (c.stops==[])&&(P.stops==[])&&(c.knobs==[])&&(P.stopKnobs==[])&&
 (c.maps==(fn.params.toList++s.plain.varTypes P).any (P.mapsRec ·))&&(c.ifaces==(fn.params.toList++s.plain.varTypes P).any (P.ifacesRec ·))&&(c.mapsOut==P.mapsAmong fn.resultTypes.toList)&&
 (c.loops==(fn.params.toList++s.plain.varTypes P).any (P.loopsFrom ·))&&(c.wideKeys==(fn.params.toList++s.plain.varTypes P++fn.resultTypes.toList).any (P.wideKeysFrom ·))&&
 s.vars.all (P.varReadable ·)&&fn.resultTypes.all (fun t=>P.readableRec t&&decide (t<P.types.size))&&(c.ifacesOut==fn.resultTypes.toList.any (P.ifacesRec ·))&&(c.loopsOut==fn.resultTypes.toList.any (P.loopsFrom ·))
def J4(P:Program)(fn:Func)(s:ChangeSpec)(c:OpenClaim):Bool:=
 (c.plainKeys==P.plainKeys)&&c.shortTexts.isNone&&P.stopsHeard&&P.mayEnter&&(c.lifted==P.liftsFinal)&&(P.make==some c.make)&&(c.kinds==(if c.domain.isEmpty then[]else fn.params.toList.map fun t=>match P.underlying t with|some (.int k)=>some k|_=>none))&&(c.pinned==c.pinnedBy)&&
 (c.veiled==(fn.params.toList++s.plain.varTypes P++fn.resultTypes.toList).any (P.veiledRec ·))&&c.veiledFits P fn.params.toList (fn.params.toList++s.plain.varTypes P++fn.resultTypes.toList)
theorem zm {P:Program} {f:FuncId} {fn:Func} {s:ChangeSpec} {c:OpenClaim} (he:J3 P fn s c=true)
 (ha:(c.inPlace==P.inPlace f)=true) (hb:(c.unfollowed==P.unfollowed f)=true) (hc:(c.recurses==P.recurses f)=true) (hd:(c.named==P.varsNamed f)=true)
 (hf:Fb P fn s c=true) (hg:J4 P fn s c=true):joinedFacts P f fn s c=true:=by
 unfold J3 at he;unfold Fb at hf;unfold J4 at hg;unfold joinedFacts;rw[Bool.and_eq_true]at he hf hg;simp only[Bool.and_eq_true,and_assoc]at he hf hg⊢;obtain⟨e1,e2,e3,e4,e5⟩:=he;obtain⟨f1,f2,f3,f4,f5,f6,f7,f8,f9,f10,f11,f12,f13⟩:=hf;obtain⟨g1,g2,g3,g4,g5,g6,g7,g8,g9,g10⟩:=hg;exact⟨e1,e2,e3,e4,e5,f1,f2,f3,f4,ha,hb,hc,hd,f5,f6,f7,f8,f9,f10,f11,f12,f13,g1,g2,g3,g4,g5,g6,g7,g8,g9,g10⟩
end Go.Proofs.YtfhnamomiaekdaaGreatDoor
namespace Go.Inq
def mZ(E:au):Nat→au
 |0=>E
 |k+1=>fun x y=>mZ E k x y||(mZ E k x k&&mZ E k k y)
def lJ(E:au)(x:Nat):List Nat→Nat→Bool
 |[],y=>E x y
 |a::l,y=>E x a&&lJ E a l y
theorem jP{E:au}:∀{x:Nat} {a:List Nat} {k:Nat} {b:List Nat} {y:Nat},lJ E x (a++k::b) y=(lJ E x a k&&lJ E k b y)
 |x,[],k,b,y=>rfl
 |x,c::a,k,b,y=>by
  show(E x c&&lJ E c (a++k::b) y)=(E x c&&lJ E c a k&&lJ E k b y);rw[jP,Bool.and_assoc]
theorem rZ{k:Nat}:∀{l:List Nat},k∈l→∃a b,l=a++k::b∧k∉a
 |[],h=>by simp at h
 |c::l,h=>by
  by_cases e:c=k
  ·exact⟨[],l,by rw[e];rfl,by simp⟩
  ·have h2:k∈l:=by
    rw[List.mem_cons]at h;exact h.resolve_left fun g=>e g.symm
   obtain⟨a,b,h3,h4⟩:=rZ h2;exact⟨c::a,b,by rw[h3];rfl,by simp;exact⟨fun g=>e g.symm,h4⟩⟩
theorem gD{E:au}:∀(k:Nat) (x y:Nat),mZ E k x y=true→∃l:List Nat,(∀a∈l,a<k)∧lJ E x l y=true
 |0,x,y,h=>⟨[],by simp,h⟩
 |k+1,x,y,h=>by
  unfold mZ at h;rw[Bool.or_eq_true,Bool.and_eq_true]at h;rcases h with h|⟨h1,h2⟩
  ·obtain⟨l,hl,hw⟩:=gD k x y h;exact⟨l,fun a ha=>by have:=hl a ha;omega,hw⟩
  ·obtain⟨l1,hl1,hw1⟩:=gD k x k h1;obtain⟨l2,hl2,hw2⟩:=gD k k y h2;refine⟨l1++k::l2,fun a ha=> ?_,by rw[jP,hw1,hw2];rfl⟩;simp only[List.mem_append,List.mem_cons]at ha;rcases ha with ha|rfl|ha
   ·have:=hl1 a ha;omega
   ·omega
   ·have:=hl2 a ha;omega
theorem nO{E:au}:∀(k:Nat) (m:Nat) (l:List Nat) (x y:Nat),l.length≤m→(∀a∈l,a<k)→lJ E x l y=true→mZ E k x y=true:=by
 intro k
 induction k with
 |zero=>
  intro m l x y _ hl hw;cases l with
  |nil=>exact hw
  |cons a l=>exact absurd (hl a (by simp)) (by omega)
 |succ k ihk=>
  intro m
  induction m with
  |zero=>
   intro l x y hm hl hw;obtain rfl:l=[]:=List.eq_nil_of_length_eq_zero (by omega);unfold mZ;rw[ihk 0 [] x y (by simp) (by simp) hw];rfl
  |succ m ihm=>
   intro l x y hm hl hw;by_cases hk:k∈l
   ·obtain⟨a,b,rfl,hka⟩:=rZ hk;rw[jP,Bool.and_eq_true]at hw;have h1:=ihk a.length a x k (Nat.le_refl _) (fun c hc=>by
     have:=hl c (by simp[hc]);have:c≠k:=fun e=>hka (e▸hc);omega) hw.1
    have h2:=ihm b k y (by simp at hm;omega) (fun c hc=>hl c (by simp[hc])) hw.2;unfold mZ at h2⊢;rw[Bool.or_eq_true,Bool.and_eq_true]at h2;have h3:mZ E k k y=true:=(by rcases h2 with h|h;exact h;exact h.2);rw[h1,h3];simp
   ·unfold mZ;rw[ihk l.length l x y (Nat.le_refl _) (fun c hc=>by
     have:=hl c hc;have:c≠k:=fun e=>hk (e▸hc);omega) hw]
    rfl
def sV(n:Nat)(E:au):au:=mZ E n
theorem nP{n:Nat}{E:au}{x y:Nat}(h:E x y=true):sV n E x y=true:=nO n 0 [] x y (by simp) (by simp) h
theorem vg{n:Nat}{E:au}{x y z:Nat}(hy:y<n)(h1:sV n E x y=true)(h2:sV n E y z=true):sV n E x z=true:=by
 obtain⟨a,ha,wa⟩:=gD n x y h1;obtain⟨b,hb,wb⟩:=gD n y z h2;refine nO n _ (a++y::b) x z (Nat.le_refl _) (fun c hc=> ?_) (by rw[jP,wa,wb];rfl);simp only[List.mem_append,List.mem_cons]at hc;rcases hc with hc|rfl|hc
 ·exact ha c hc
 ·exact hy
 ·exact hb c hc
theorem yc{n:Nat}{E:au}(f:Nat→Nat)(h:∀x y,x<n→y<n→E x y=true→f x<f y):∀(l:List Nat) (x y:Nat),x<n→y<n→(∀a∈l,a<n)→lJ E x l y=true→f x<f y
 |[],x,y,hx,hy,_,hw=>h x y hx hy hw
 |a::l,x,y,hx,hy,hl,hw=>by
  have hw':(E x a&&lJ E a l y)=true:=hw;rw[Bool.and_eq_true]at hw';have ha:=hl a (by simp);have h1:=h x a hx ha hw'.1;have h2:=yc f h l a y ha hy (fun b hb=>hl b (by simp[hb])) hw'.2;omega
def jr(n:Nat)(E:au):Bool:=(List.range n).any fun x=>sV n E x x
theorem Br{n:Nat}{E:au}(f:Nat→Nat)(h:∀x y,x<n→y<n→E x y=true→f x<f y):jr n E=false:=by
 unfold jr;rw[List.any_eq_false];intro x hx hc;obtain⟨l,hl,hw⟩:=gD n x x hc;have:=yc f h l x x (List.mem_range.1 hx) (List.mem_range.1 hx) hl hw;omega
theorem lK:∀(A B:List Nat),A.Nodup→(∀x∈A,x∈B)→A.length≤B.length
 |[],_,_,_=>Nat.zero_le _
 |a::A,B,hn,h=>by
  rw[List.nodup_cons]at hn;have h1:=lK A (B.erase a) hn.2 fun x hx=>(List.mem_erase_of_ne (fun e:x=a=>hn.1 (by rw[←e];exact hx))).2 (h x (by simp[hx]));rw[List.length_erase_of_mem (h a (by simp))]at h1;have:=List.length_pos_of_mem (h a (by simp));simp;omega
theorem D5{n:Nat}{E:au}{l:List Nat}{v:Nat}(h:j4 n E l=some v):v<n∧v∉l∧∀x,x<n→E x v=true→x∈l:=by
 unfold j4 at h;have h1:=List.find?_some h;have h2:=List.mem_of_find?_eq_some h;simp only[Bool.and_eq_true,Bool.not_eq_true',List.all_eq_true,List.mem_range,Bool.or_eq_true,List.contains_iff_mem]at h1;refine⟨by simpa using h2,fun hv=> ?_,fun x hx he=> ?_⟩
 ·have:=h1.1;rw[List.contains_iff_mem.2 hv]at this;cases this
 ·rcases h1.2 x hx with g|g
  ·rw[he]at g;cases g
  ·exact g
theorem Bt{n:Nat}{E:au}{l:List Nat}(h:j4 n E l=none){v:Nat}(hv:v<n)(hl:v∉l):∃x,x<n∧x∉l∧E x v=true:=by
 unfold j4 at h;rw[List.find?_eq_none]at h;have h1:=h v (List.mem_range.2 hv);have hc:l.contains v=false:=by
  rw[Bool.eq_false_iff];intro e;exact hl (List.contains_iff_mem.1 e)
 rw[hc]at h1;simp only[Bool.not_false,Bool.true_and,List.all_eq_true,List.mem_range,Classical.not_forall]at h1;obtain⟨x,hx,h2⟩:=h1;simp only[Bool.or_eq_true,Bool.not_eq_true',List.contains_iff_mem,not_or]at h2;exact⟨x,hx,h2.2,by simpa using h2.1⟩
structure Ma(n:Nat)(E:au)(l:List Nat):Prop where
 nd:l.Nodup
 lt:∀x∈l,x<n
 up:∀y∈l,∀x,x<n→E x y=true→x∈l∧l.idxOf x<l.idxOf y
theorem iU{n:Nat}{E:au}:∀(k:Nat) (l:List Nat),bM n E k=some l→Ma n E l
 |0,l,h=>by
  unfold bM at h;injection h with h
  subst h;exact⟨List.nodup_nil,by simp,by simp⟩
 |k+1,l,h=>by
  unfold bM at h;split at h
  ·cases h
  ·rename_i l0 h0;split at h
   ·cases h
   ·rename_i v hv;injection h with h
    subst h;have ih:=iU k l0 h0;obtain⟨h1,h2,h3⟩:=D5 hv;refine⟨?_,fun x hx=> ?_,fun y hy x hx he=> ?_⟩
    ·rw[List.nodup_append];refine⟨ih.nd,by simp,fun a ha b hb e=> ?_⟩;simp at hb;subst hb;exact h2 (e▸ha)
    ·rw[List.mem_append,List.mem_singleton]at hx;rcases hx with hx|rfl
     ·exact ih.lt x hx
     ·exact h1
    ·rw[List.mem_append,List.mem_singleton]at hy;rcases hy with hy|rfl
     ·obtain⟨g1,g2⟩:=ih.up y hy x hx he;exact⟨List.mem_append.2 (.inl g1),by rw[List.idxOf_append,List.idxOf_append,if_pos g1,if_pos hy];exact g2⟩
     ·have g1:=h3 x hx he;refine⟨List.mem_append.2 (.inl g1),?_⟩;rw[List.idxOf_append,List.idxOf_append,if_pos g1,if_neg h2];have:=List.idxOf_lt_length_of_mem g1;omega
theorem tq{n:Nat}{E:au}{o:List Nat}(h:gG n E=some o):jr n E=false:=by
 have ht:=iU n o h;have hl:=fV h;have hall:∀y,y<n→y∈o:=fun y hy=>by
  refine Classical.byContradiction fun hno=> ?_;have:=lK (y::o) (List.range n) (List.nodup_cons.2 ⟨hno,ht.nd⟩) (fun x hx=>by
   rw[List.mem_cons]at hx;rw[List.mem_range];rcases hx with rfl|hx
   ·exact hy
   ·exact ht.lt x hx)
  simp at this;omega
 exact Br (fun x=>o.idxOf x) fun x y hx hy he=>(ht.up y (hall y hy) x hx he).2
theorem Bu{n:Nat}{E:au}(R:Nat→Prop)(hR:∀v,R v→v<n)(hp:∀v,R v→∃x,R x∧E x v=true):∀(m:Nat) (v:Nat),R v→((List.range n).filter fun x=>sV n E x v).length≤m→jr n E=true
 |m,v,hv,hm=>by
  obtain⟨x,hx,he⟩:=hp v hv;by_cases hc:sV n E x x=true
  ·unfold jr;rw[List.any_eq_true];exact⟨x,List.mem_range.2 (hR x hx),hc⟩
  ·have hlt:((List.range n).filter fun y=>sV n E y x).length+1≤((List.range n).filter fun y=>sV n E y v).length:=by
    have:=lK (x::(List.range n).filter fun y=>sV n E y x) ((List.range n).filter fun y=>sV n E y v) (List.nodup_cons.2 ⟨fun h=>hc (List.mem_filter.1 h).2,List.Pairwise.filter _ List.nodup_range⟩) (fun y hy=>by
     rw[List.mem_cons]at hy;rw[List.mem_filter,List.mem_range];rcases hy with rfl|hy
     ·exact⟨hR y hx,nP he⟩
     ·rw[List.mem_filter,List.mem_range]at hy;exact⟨hy.1,vg (hR x hx) hy.2 (nP he)⟩)
    simpa using this
   match m,hm with
   |0,hm=>omega
   |m+1,hm=>exact Bu R hR hp m x hx (by omega)
theorem oz{n:Nat}{E:au}:∀k,bM n E k=none→∃j l,j<k∧bM n E j=some l∧j4 n E l=none
 |0,h=>by unfold bM at h;cases h
 |k+1,h=>by
  unfold bM at h;split at h
  ·rename_i h0;obtain⟨j,l,h1,h2⟩:=oz k h0;exact⟨j,l,by omega,h2⟩
  ·rename_i l0 h0;split at h
   ·rename_i hv;exact⟨k,l0,by omega,h0,hv⟩
   ·cases h
theorem tu{n:Nat}{E:au}(h:gG n E=none):jr n E=true:=by
 obtain⟨j,l,hj,hl,hx⟩:=oz n h;have ht:=iU j l hl;have hlen:=fV hl;obtain⟨v,hv,hvl⟩:∃v,v<n∧v∉l:=by
  refine Classical.byContradiction fun hno=> ?_;have:=lK (List.range n) l List.nodup_range fun x hx=>Classical.byContradiction fun hn=>hno ⟨x,List.mem_range.1 hx,hn⟩;simp at this;omega
 refine Bu (fun u=>u<n∧u∉l) (fun u hu=>hu.1) (fun u hu=> ?_) _ v ⟨hv,hvl⟩ (Nat.le_refl _);obtain⟨x,h1,h2,h3⟩:=Bt hx hu.1 hu.2;exact⟨x,⟨h1,h2⟩,h3⟩
theorem D6(n:Nat)(E:au):(gG n E).isSome= !jr n E:=by
 cases h:gG n E with
 |none=>rw[tu h];rfl
 |some o=>rw[tq h];rfl
theorem J5{l l':List Cho}(h:∀c∈l,c∈l'){x y:Nat}(he:wwE l x y=true):wwE l' x y=true:=by
 unfold wwE at he⊢;rw[List.any_eq_true]at he⊢;obtain⟨c,hc,h2⟩:=he;exact⟨c,h c hc,h2⟩
theorem Bw{H:List Txn}{l l':List Cho}(h:∀c∈l,c∈l'){x y:Nat}(he:rwE H l x y=true):rwE H l' x y=true:=by
 unfold rwE at he⊢;rw[Bool.or_eq_true]at he⊢;rcases he with he|he
 ·exact .inl he
 ·rw[List.any_eq_true]at he⊢;obtain⟨c,hc,h2⟩:=he;exact .inr ⟨c,h c hc,h2⟩
theorem D7{H:List Txn}{level:Int}{l l':List Cho}(h:∀c∈l,c∈l'){x y:Nat}(he:eH H level l x y=true):eH H level l' x y=true:=by
 have hd:∀a b,orE (bq H) (wwE l) a b=true→orE (bq H) (wwE l') a b=true:=fun a b g=>by
  unfold orE at g⊢;rw[Bool.or_eq_true]at g⊢;exact g.imp id (J5 h)
 show(orE (bq H) (wwE l') x y||(if level=1 then jZ H.length (orE (bq H) (wwE l')) (rwE H l')else rwE H l') x y)=true;have he':(orE (bq H) (wwE l) x y||(if level=1 then jZ H.length (orE (bq H) (wwE l)) (rwE H l)else rwE H l) x y)=true:=he;rw[Bool.or_eq_true]at he'⊢;rcases he' with g|g
 ·exact .inl (hd x y g)
 ·right;by_cases hl:level=1
  ·rw[if_pos hl]at g⊢;unfold jZ at g⊢;rw[List.any_eq_true]at g⊢;obtain⟨b,hb,h2⟩:=g;rw[Bool.and_eq_true]at h2;exact⟨b,hb,by rw[hd x b h2.1,Bw h h2.2];rfl⟩
  ·rw[if_neg hl]at g⊢;exact Bw h g
theorem yg{E F:au}(h:∀x y,E x y=true→F x y=true):∀(l:List Nat) (x y:Nat),lJ E x l y=true→lJ F x l y=true
 |[],x,y,hw=>h x y hw
 |a::l,x,y,hw=>by
  have hw':(E x a&&lJ E a l y)=true:=hw;rw[Bool.and_eq_true]at hw';show(F x a&&lJ F a l y)=true;rw[h x a hw'.1,yg h l a y hw'.2];rfl
theorem J6{n:Nat}{E F:au}(h:∀x y,E x y=true→F x y=true)(hc:jr n E=true):jr n F=true:=by
 unfold jr at hc⊢;rw[List.any_eq_true]at hc⊢;obtain⟨x,hx,h2⟩:=hc;obtain⟨l,hl,hw⟩:=gD n x x h2;exact⟨x,hx,nO n l.length l x x (Nat.le_refl _) hl (yg h l x x hw)⟩
def qo(H:List Txn)(level:Int)(l:List Cho):Bool:= !jr H.length (eH H level l)
theorem Hl{H:List Txn}{level:Int}{l l':List Cho}(h:∀c∈l,c∈l')(hg:qo H level l'=true):qo H level l=true:=by
 unfold qo at hg⊢;rw[Bool.not_eq_true']at hg⊢;rw[←Bool.not_eq_true]at hg⊢;exact fun hc=>hg (J6 (fun x y=>D7 h) hc)
theorem D8(H:List Txn)(level:Int)(l:List Cho):(gG H.length (eH H level l)).isSome=qo H level l:=D6 _ _
end Go.Inq
namespace Go.Proofs.YtfhnamomiaekdaaGreatDoor
open Go.RowKit Go.Inq
theorem Ho{l:List Int}{x:Int}(h0:l.contains x=false):bJ l x= -1:=by
 refine lu ?_;rw[List.idxOf?,List.findIdx?_eq_none_iff];intro y hy;rw[beq_eq_false_iff_ne];rintro rfl;rw[Bool.eq_false_iff]at h0;exact h0 (List.contains_iff_mem.2 hy)
theorem J7{l:List Int}{x:Int}:bJ l x<0↔l.contains x=false:=by
 constructor
 ·intro h;rw[Bool.eq_false_iff];intro hc;obtain⟨k,hk⟩:∃k,l.idxOf? x=some k:=by
   cases e:l.idxOf? x with
   |some k=>exact⟨k,rfl⟩
   |none=>
    rw[List.idxOf?,List.findIdx?_eq_none_iff]at e;have:=e x (List.contains_iff_mem.1 hc);simp at this
  rw[eX hk]at h;omega
 ·intro h;rw[Ho h];decide
theorem Fe{l:List Int}{x:Int}(h:l.contains x=true):0≤bJ l x:=by
 rcases Int.lt_or_le (bJ l x) 0 with g|g
 ·rw[J7,h]at g;cases g
 ·exact g
def aT(l:List Int)(n:Nat):Bool:=decide (l.length=n)&&(List.range n).all fun i=>l.contains (i:Int)
def ofC(order:List Int)(p:Cho):Cho:=if bJ order p.a>bJ order p.b then⟨p.key,p.b,p.a⟩else p
def ofL(H:List Txn)(order:List Int):List Cho:=(cK H).map (ofC order)
theorem yh{α β:Type}{f g:α→Option β}:∀{l:List α},(∀x∈l,f x=g x)→l.filterMap f=l.filterMap g
 |[],_=>rfl
 |x::l,h=>by
  rw[List.filterMap_cons,List.filterMap_cons,h x (by simp),yh fun y hy=>h y (by simp[hy])]
theorem zn{H:List Txn}{order:List Int}(h:aT order H.length=true):ofL H order=nW H order:=by
 unfold ofL nW;rw[←List.filterMap_eq_map];refine yh fun p hp=> ?_;obtain⟨a,b,ha,hb,hab,hbn,-,-⟩:=oK hp;unfold aT at h;rw[Bool.and_eq_true,List.all_eq_true]at h;have h1:=h.2 a (List.mem_range.2 (by omega));have h2:=h.2 b (List.mem_range.2 hbn);rw[←ha]at h1;rw[←hb]at h2;have g1:=Fe h1;have g2:=Fe h2;unfold gH ofC;show some (if _ then _ else _)=_;cases e1:order.idxOf? p.a with
 |none=>rw[lu e1]at g1;omega
 |some i=>
  cases e2:order.idxOf? p.b with
  |none=>rw[lu e2]at g2;omega
  |some j=>
   rw[eX e1,eX e2];dsimp only;by_cases hij:j<i
   ·rw[if_pos (by omega),if_pos hij]
   ·rw[if_neg (by omega),if_neg hij]
def Bz:List Cho→List Cho→Prop
 |[],[]=>True
 |p::P,c::C=>(c=p∨c=j5 p)∧Bz P C
 |_,_=>False
theorem BA{f:Cho→Cho}:∀{P:List Cho},(∀p∈P,f p=p∨f p=j5 p)→Bz P (P.map f)
 |[],_=>trivial
 |p::P,h=>⟨h p (by simp),BA fun q hq=>h q (by simp[hq])⟩
theorem qz:∀{P C:List Cho},Bz P C→∀p∈P,p∈C∨j5 p∈C
 |[],[],_,c,hc=>by cases hc
 |[],_::_,h,_,_=>h.elim
 |_::_,[],h,_,_=>h.elim
 |p::P,d::C,h,c,hc=>by
  rw[List.mem_cons]at hc;rcases hc with rfl|hc
  ·rcases h.1 with e|e
   ·exact .inl (by rw[←e];simp)
   ·exact .inr (by rw[←e];simp)
  ·rcases qz h.2 c hc with e|e
   ·exact .inl (by simp[e])
   ·exact .inr (by simp[e])
def J8(H:List Txn)(level:Int):List Cho→List Cho→Bool
 |[],l=>qo H level l
 |c::P,l=>J8 H level P (l++[c])||J8 H level P (l++[j5 c])
def hasB(H:List Txn)(level:Int):Bool:=J8 H level (cK H) []
theorem yt{l:List Int}{n j:Nat}(h:aT l n=true)(hj:j<l.length)(hm:∀k,k<n→∃i,∃hi:i<l.length,i≠j∧l[i]=(k:Int)):False:=by
 unfold aT at h;rw[Bool.and_eq_true]at h;have hl:=of_decide_eq_true h.1;have:=lK (List.range n) ((l.eraseIdx j).map Int.toNat) List.nodup_range fun k hk=>by
  obtain⟨i,hi,hij,e⟩:=hm k (List.mem_range.1 hk);exact List.mem_map.2 ⟨l[i],List.mem_eraseIdx_iff_getElem.2 ⟨i,hi,hij,rfl⟩,by rw[e];simp⟩
 simp[List.length_eraseIdx,hj]at this;omega
theorem kJ{l:List Int}{n k:Nat}(h:aT l n=true)(hk:k<n):(k:Int)∈l:=by
 unfold aT at h;rw[Bool.and_eq_true,List.all_eq_true]at h;exact List.contains_iff_mem.1 (h.2 k (List.mem_range.2 hk))
theorem BD{l:List Int}{n:Nat}(h:aT l n=true):l.length=n:=by
 unfold aT at h;rw[Bool.and_eq_true]at h;exact of_decide_eq_true h.1
theorem iV{l:List Int}{n j:Nat}(h:aT l n=true)(hj:j<l.length):0≤l[j]∧l[j]<(n:Int):=by
 refine Classical.byContradiction fun hno=>yt h hj fun k hk=> ?_;obtain⟨i,hi,e⟩:=List.getElem_of_mem (kJ h hk);refine⟨i,hi,?_,e⟩;rintro rfl;omega
theorem nQ{l:List Int}{n i j:Nat}(h:aT l n=true)(hij:i<j)(hj:j<l.length):l[i]'(by omega)≠l[j]:=by
 intro he;refine yt h hj fun k hk=> ?_;obtain⟨m,hm,e⟩:=List.getElem_of_mem (kJ h hk);by_cases hmj:m=j
 ·subst hmj;exact⟨i,by omega,by omega,by rw[he];exact e⟩
 ·exact⟨m,hm,hmj,e⟩
theorem vv{l:List Int}{n:Nat}(h:aT l n=true):l.Nodup:=by
 rw[List.nodup_iff_pairwise_ne,List.pairwise_iff_getElem];intro i j hi hj hij;exact nQ h hij hj
theorem zo{l:List Int}{n:Nat}(hl:l.length=n)(hd:l.Nodup)(hb:∀x∈l,0≤x∧x<(n:Int)):aT l n=true:=by
 unfold aT;rw[decide_eq_true hl,Bool.true_and,List.all_eq_true];intro k hk;have hk:=List.mem_range.1 hk;rw[List.contains_iff_mem];refine Classical.byContradiction fun hno=> ?_;have hnd:(l.map Int.toNat).Nodup:=by
  rw[List.nodup_iff_pairwise_ne,List.pairwise_map];exact(List.nodup_iff_pairwise_ne.1 hd).imp_of_mem fun ha hb' hne e=>hne (by have:=hb _ ha;have:=hb _ hb';omega)
 have:=lK (k::l.map Int.toNat) (List.range n) (List.nodup_cons.2 ⟨fun hm=>by
  obtain⟨y,hy,e⟩:=List.mem_map.1 hm;have:=hb y hy;exact hno (by rw[show(k:Int)=y by omega];exact hy),hnd⟩) fun x hx=>by
  rw[List.mem_cons]at hx;rw[List.mem_range];rcases hx with rfl|hx
  ·exact hk
  ·obtain⟨y,hy,rfl⟩:=List.mem_map.1 hx;have:=hb y hy;omega
 simp at this;omega
theorem Lh{H:List Txn}{π:List Int}(h:aT π H.length=true):Bz (cK H) (nW H π):=by
 rw[←zn h];unfold ofL;refine BA fun p _=> ?_;unfold ofC;split
 ·exact .inr rfl
 ·exact .inl rfl
structure lX(n:Nat)(E:au)(o:List Nat):Prop where
 t:Ma n E o
 len:o.length=n
 all:∀y,y<n→y∈o
theorem BF{n:Nat}{E:au}{o:List Nat}(ho:gG n E=some o):lX n E o:=by
 have ht:=iU n o ho;have hl:=fV ho;refine⟨ht,hl,fun y hy=>Classical.byContradiction fun hno=> ?_⟩;have:=lK (y::o) (List.range n) (List.nodup_cons.2 ⟨hno,ht.nd⟩) (fun x hx=>by
  rw[List.mem_cons]at hx;rw[List.mem_range];rcases hx with rfl|hx
  ·exact hy
  ·exact ht.lt x hx)
 simp at this;omega
theorem lX.perm{n:Nat}{E:au}{o:List Nat}(h:lX n E o):aT (o.map fun(x:Nat)=>(x:Int)) n=true:=by
 refine zo (by rw[List.length_map];exact h.len) ?_ fun x hx=> ?_
 ·rw[List.nodup_iff_pairwise_ne,List.pairwise_map];exact(List.nodup_iff_pairwise_ne.1 h.t.nd).imp fun hne e=>hne (by omega)
 ·obtain⟨y,hy,rfl⟩:=List.mem_map.1 hx;have:=h.t.lt y hy;omega
theorem lX.at_{n:Nat}{E:au}{o:List Nat}(h:lX n E o){x:Nat}(hx:x<n):∃hi:o.idxOf x<o.length,o[o.idxOf x]=x:=⟨List.idxOf_lt_length_of_mem (h.all x hx),List.getElem_idxOf _⟩
theorem lX.bJ{n:Nat}{E:au}{o:List Nat}(h:lX n E o){x:Nat}(hx:x<n):bJ (o.map fun(x:Nat)=>(x:Int)) (x:Int)=o.idxOf x:=by
 obtain⟨hi,he⟩:=h.at_ hx;refine tZ (by rw[List.length_map];exact hi) (by rw[List.getElem_map,he]) fun j hj hlt e=> ?_;rw[List.getElem_map]at e;have hnd:=List.pairwise_iff_getElem.1 (List.nodup_iff_pairwise_ne.1 h.t.nd) j (o.idxOf x) (by simpa using hj) hi hlt;exact hnd (by rw[he];omega)
theorem lX.up{n:Nat}{E:au}{o:List Nat}(h:lX n E o){x y:Nat}(hx:x<n)(hy:y<n)(he:E x y=true):o.idxOf x<o.idxOf y:=(h.t.up y (h.all y hy) x hx he).2
theorem Li{H:List Txn}{m:List Cho}{E:au}{o:List Nat}(hm:Bz (cK H) m)(ht:lX H.length E o)(hw:∀a b,wwE m a b=true→E a b=true):∀c∈nW H (o.map fun(x:Nat)=>(x:Int)),c∈m:=by
 intro c hc;rw[←zn ht.perm]at hc;unfold ofL at hc;obtain⟨p,hp,rfl⟩:=List.mem_map.1 hc;obtain⟨a,b,ha,hb,hab,hbn,-,-⟩:=oK hp;have hia:=ht.bJ (x:=a) (by omega);have hib:=ht.bJ (x:=b) hbn;unfold ofC;rw[ha,hb,hia,hib];have hin:∀q∈m,∀x y:Nat,q.a=x→q.b=y→x<H.length→y<H.length→o.idxOf x<o.idxOf y:=fun q hq x y hx hy hxn hyn=>ht.up hxn hyn (hw x y (by
  unfold wwE;rw[List.any_eq_true];exact⟨q,hq,by rw[hx,hy];simp⟩))
 rcases qz hm p hp with h|h
 ·have:=hin p h a b ha hb (by omega) hbn;rw[if_neg (by omega)];exact h
 ·have:=hin (j5 p) h b a hb ha hbn (by omega);rw[if_pos (by omega)];have e:j5 p=⟨p.key,b,a⟩:=(by unfold j5;rw[ha,hb]);rw[←e];exact h
def wrA(H:List Txn)(π:List Int)(key:Int)(i:Nat):Bool:=(aF H (π.getD i 0).toNat).writes.contains key
def eY(H:List Txn)(π:List Int)(key:Int):Nat→Int
 |0=> -1
 |k+1=>if wrA H π key k then π.getD k 0 else eY H π key k
theorem rE(H:List Txn)(π:List Int)(key:Int):∀k,(eY H π key k= -1∧∀i,i<k→wrA H π key i=false)∨∃i,i<k∧eY H π key k=π.getD i 0∧wrA H π key i=true∧∀j,i<j→j<k→wrA H π key j=false
 |0=> .inl ⟨rfl,fun i hi=>absurd hi (by omega)⟩
 |k+1=>by
  unfold eY;cases h:wrA H π key k with
  |true=>
   rw[if_pos rfl];exact .inr ⟨k,by omega,rfl,h,fun j h1 h2=>absurd h1 (by omega)⟩
  |false=>
   rw[if_neg (by decide)];rcases rE H π key k with⟨h1,h2⟩|⟨i,h1,h2,h3,h4⟩
   ·refine .inl ⟨h1,fun i hi=> ?_⟩;by_cases e:i=k
    ·subst e;exact h
    ·exact h2 i (by omega)
   ·refine .inr ⟨i,by omega,h2,h3,fun j hj1 hj2=> ?_⟩;by_cases e:j=k
    ·subst e;exact h
    ·exact h4 j hj1 (by omega)
def fD(H:List Txn)(π:List Int)(t:Nat):List It:=(aF H t).reads.map fun r=>⟨r.a,eY H π r.a (π.idxOf (t:Int))⟩
def r9(H:List Txn)(π:List Int):Bool:=(List.range π.length).all fun i=>(List.range i).all fun k=> !(decide (π.getD k 0>π.getD i 0)&&decide ((aF H (π.getD k 0).toNat).dH=(aF H (π.getD i 0).toNat).dH))
def oW(H:List Txn)(π:List Int):Bool:=(List.range H.length).all fun t=>decide ((aF H t).reads=fD H π t)
def vB(H:List Txn)(π:List Int):Bool:=aT π H.length&&oW H π&&r9 H π
theorem jQ{key:Int}{a b:Nat}:∀{l:List Nat},l.Pairwise (·<·)→a∈l→b∈l→a<b→(⟨key,a,b⟩:Cho)∈dD key l
 |[],_,h,_,_=>by cases h
 |x::r,hp,ha,hb,hab=>by
  rw[List.pairwise_cons]at hp;unfold dD;rw[List.mem_append];rw[List.mem_cons]at ha hb;rcases ha with rfl|ha
  ·rcases hb with rfl|hb
   ·omega
   ·exact .inl (List.mem_map.2 ⟨b,hb,rfl⟩)
  ·rcases hb with rfl|hb
   ·have:=hp.1 a ha;omega
   ·exact .inr (jQ hp.2 ha hb hab)
theorem sj{H:List Txn}{key:Int}{a b:Nat}(hab:a<b)(hb:b<H.length)(ha1:key∈(aF H a).writes)(hb1:key∈(aF H b).writes):(⟨key,a,b⟩:Cho)∈cK H:=by
 unfold cK;refine List.mem_flatten.2 ⟨_,List.mem_map.2 ⟨key,?_,rfl⟩,jQ (fU H key) (bB.2 ⟨by omega,ha1⟩) (bB.2 ⟨hb,hb1⟩) hab⟩;rw[aH hb]at hb1;exact jY.2 ⟨_,List.getElem_mem hb,hb1⟩
theorem qA{π:List Int}{n x:Nat}(h:aT π n=true)(hx:x<n):∃hi:π.idxOf (x:Int)<π.length,π[π.idxOf (x:Int)]=(x:Int):=⟨List.idxOf_lt_length_of_mem (kJ h hx),List.getElem_idxOf _⟩
theorem J9{π:List Int}{n x y:Nat}(h:aT π n=true)(hx:x<n)(hy:y<n)(he:π.idxOf (x:Int)=π.idxOf (y:Int)):x=y:=by
 obtain⟨h1,e1⟩:=qA h hx;obtain⟨h2,e2⟩:=qA h hy;have:π[π.idxOf (x:Int)]=π[π.idxOf (y:Int)]:=(by simp only[he]);omega
theorem ni{π:List Int}{n i:Nat}(h:aT π n=true)(hi:i<π.length):π.idxOf π[i]=i:=by
 have h1:π.idxOf π[i]<π.length:=List.idxOf_lt_length_of_mem (List.getElem_mem hi);have h2:π[π.idxOf π[i]]=π[i]:=List.getElem_idxOf _;rcases Nat.lt_trichotomy (π.idxOf π[i]) i with g|g|g
 ·exact absurd h2 (nQ h g hi)
 ·exact g
 ·exact absurd h2.symm (nQ h g h1)
theorem getD_at{π:List Int}{i:Nat}(hi:i<π.length):π.getD i 0=π[i]:=by rw[List.getD_eq_getElem?_getD,List.getElem?_eq_getElem hi,Option.getD_some]
theorem Ka{H:List Txn}{m:List Cho}{o:List Nat}(hr:ay H=true)(hm:Bz (cK H) m)(ht:lX H.length (eH H 0 m) o):vB H (o.map fun(x:Nat)=>(x:Int))=true:=by
 have hp:=ht.perm;have hfull:∀x y,((bq H x y||wwE m x y)||rwE H m x y)=true→eH H 0 m x y=true:=fun x y h=>by
  unfold eH;rw[if_neg (by decide)];exact h
 generalize hπ:(o.map fun(x:Nat)=>(x:Int))=π at hp;have hpos:∀x,x<H.length→π.idxOf (x:Int)=o.idxOf x:=fun x hx=>by
  obtain⟨hi,he⟩:=ht.at_ hx;have hi2:o.idxOf x<π.length:=(by rw[←hπ,List.length_map];exact hi);have:π[o.idxOf x]=(x:Int):=(by subst hπ;rw[List.getElem_map,he]);rw[←this];exact ni hp hi2
 have hup:∀x y,x<H.length→y<H.length→((bq H x y||wwE m x y)||rwE H m x y)=true→π.idxOf (x:Int)<π.idxOf (y:Int):=fun x y hx hy h=>by
  rw[hpos x hx,hpos y hy];exact ht.up hx hy (hfull x y h)
 have hbd:∀i (hi:i<π.length),∃u:Nat,u<H.length∧π[i]=(u:Int)∧π.idxOf (u:Int)=i:=fun i hi=>by
  have h1:=iV hp hi;refine⟨π[i].toNat,by omega,by omega,?_⟩;rw[show((π[i].toNat:Nat):Int)=π[i] by omega];exact ni hp hi
 unfold vB;rw[hp,Bool.true_and,Bool.and_eq_true];constructor
 ·unfold oW;rw[List.all_eq_true];intro t ht2;have ht2:=List.mem_range.1 ht2;refine decide_eq_true ?_;unfold fD;refine List.ext_getElem (by simp) fun i h1 h2=> ?_;rw[List.getElem_map];generalize hrr:(aF H t).reads[i]=r;have hmem:r∈(aF H t).reads:=by rw[←hrr];exact List.getElem_mem h1
  suffices hs:r.b=eY H π r.a (π.idxOf (t:Int)) by rw[←hs]
  obtain⟨it,et⟩:=qA hp ht2;have hth:=(((aC H).1 hr).2 t ht2).there r (by rw[←aH ht2];exact hmem);rcases rE H π r.a (π.idxOf (t:Int))with⟨g1,g2⟩|⟨j,g1,g2,g3,g4⟩
  ·rcases(gV H t r).1 hth with e|⟨k,hk,e1,e2,e3⟩
   ·rw[e,g1]
   ·exfalso;have hlt:=hup k t hk ht2 (by
     have:bq H k t=true:=by
      unfold bq orE wrE;rw[Bool.or_eq_true];right;rw[Bool.and_eq_true,List.any_eq_true];exact⟨decide_eq_true e2,r,hmem,decide_eq_true e1⟩
     rw[this];rfl)
    have:=g2 _ hlt;obtain⟨ik,ek⟩:=qA hp hk;unfold wrA at this;rw[getD_at ik,ek,Int.toNat_natCast,aH hk,List.contains_iff_mem.2 e3]at this;cases this
  ·have hjl:j<π.length:=(by omega);obtain⟨u,hu,eu,iu⟩:=hbd j hjl;have hut:u≠t:=fun e=>(by subst e;omega);unfold wrA at g3;rw[getD_at hjl,eu,Int.toNat_natCast,List.contains_iff_mem]at g3;rw[getD_at hjl,eu]at g2;rcases(gV H t r).1 hth with e|⟨k,hk,e1,e2,e3⟩
   ·exfalso;have hlt:=hup t u ht2 hu (by
     have:lV H t u=true:=by
      unfold lV;rw[Bool.and_eq_true,List.any_eq_true];exact⟨decide_eq_true hut.symm,r,hmem,by rw[Bool.and_eq_true,List.contains_iff_mem];exact⟨decide_eq_true e,g3⟩⟩
     unfold rwE;rw[this];simp)
    omega
   ·by_cases huk:u=k
    ·subst huk;rw[e1,g2]
    ·exfalso;have hlt:=hup k t hk ht2 (by
      have:bq H k t=true:=by
       unfold bq orE wrE;rw[Bool.or_eq_true];right;rw[Bool.and_eq_true,List.any_eq_true];exact⟨decide_eq_true e2,r,hmem,decide_eq_true e1⟩
      rw[this];rfl)
     obtain⟨ik,ek⟩:=qA hp hk;have hkw:r.a∈(aF H k).writes:=(by rw[aH hk];exact e3);have hku:π.idxOf (k:Int)<π.idxOf (u:Int):=by
      have hne:π.idxOf (k:Int)≠π.idxOf (u:Int):=fun e=>huk (J9 hp hk hu e).symm;refine Classical.byContradiction fun hno=> ?_;have:=g4 (π.idxOf (k:Int)) (by omega) hlt;unfold wrA at this;rw[getD_at ik,ek,Int.toNat_natCast,List.contains_iff_mem.2 hkw]at this;cases this
     have hch:(⟨r.a,k,u⟩:Cho)∈m∨(⟨r.a,u,k⟩:Cho)∈m:=by
      rcases Nat.lt_or_ge u k with g|g
      ·have:=qz hm _ (sj g hk g3 hkw);exact this.symm.imp id id
      ·exact qz hm _ (sj (show k<u by omega) hu hkw g3)
     rcases hch with hch|hch
     ·have:=hup t u ht2 hu (by
       have:rwE H m t u=true:=by
        unfold rwE;rw[Bool.or_eq_true];right;rw[List.any_eq_true];refine⟨_,hch,?_⟩;simp only[Bool.and_eq_true,List.any_eq_true];exact⟨⟨by simp,decide_eq_true hut.symm⟩,r,hmem,by simp,decide_eq_true e1⟩
       rw[this];simp)
      omega
     ·have:=hup u k hu hk (by
       have:wwE m u k=true:=by
        unfold wwE;rw[List.any_eq_true];exact⟨_,hch,by simp⟩
       rw[this];simp)
      omega
 ·unfold r9;rw[List.all_eq_true];intro i hi;have hi:=List.mem_range.1 hi;rw[List.all_eq_true];intro k hk;have hk:=List.mem_range.1 hk;obtain⟨u,hu,eu,iu⟩:=hbd i hi;obtain⟨v,hv,ev,iv⟩:=hbd k (by omega);rw[getD_at hi,getD_at (show k<π.length by omega),eu,ev,Int.toNat_natCast,Int.toNat_natCast,Bool.not_eq_true',Bool.and_eq_false_iff];refine Classical.byContradiction fun hno=> ?_;simp only[decide_eq_false_iff_not,not_or,Classical.not_not]at hno;have:=hup u v hu hv (by
   have:soE H u v=true:=by
    unfold soE;rw[Bool.and_eq_true];exact⟨decide_eq_true (by omega),decide_eq_true hno.2.symm⟩
   unfold bq orE;rw[this];rfl)
  omega
def mkD(s:List Int)(x:Nat):Int:=s.getD x 0
theorem iW{s:List Int}{x:Nat}{v:Int}(hx:x<s.length)(y:Nat):mkD (s.set x v) y=if y=x then v else mkD s y:=by
 unfold mkD;rw[List.getD_eq_getElem?_getD,List.getD_eq_getElem?_getD,List.getElem?_set];by_cases e:x=y
 ·subst e;rw[if_pos rfl,if_pos hx,if_pos rfl];rfl
 ·rw[if_neg e,if_neg (fun h=>e h.symm)]
structure jW(n:Nat)(E:au)(s:List Int):Prop where
 len:s.length=n
 val:∀x∈s,x=0∨x=1∨x=2
 ord:∃o:List Nat,o.Nodup∧(∀x,x∈o↔x<n∧mkD s x=2)∧∀i (hi:i<o.length) y,y<n→E o[i] y=true→y∈o.take i
theorem jW.start(n:Nat)(E:au):jW n E (List.replicate n 0):=by
 refine⟨by simp,fun x hx=> .inl (List.eq_of_mem_replicate hx),[],List.nodup_nil,fun x=> ?_,fun i hi=>by cases hi⟩;constructor
 ·intro h;cases h
 ·rintro⟨h,h2⟩;unfold mkD at h2;rw[List.getD_eq_getElem?_getD,List.getElem?_replicate]at h2;split at h2<;>simp at h2
theorem jW.at_{n:Nat}{E:au}{s:List Int}(h:jW n E s){x:Nat}(hx:x<n):mkD s x=s[x]'(by rw[h.len];exact hx):=by
 unfold mkD;rw[List.getD_eq_getElem?_getD,List.getElem?_eq_getElem (by rw[h.len];exact hx),Option.getD_some]
theorem jW.P8{n:Nat}{E:au}{s:List Int}(h:jW n E s){x:Nat}(hx:x<n):mkD s x=0∨mkD s x=1∨mkD s x=2:=by
 rw[h.at_ hx];exact h.val _ (List.getElem_mem _)
theorem jW.begin{n:Nat}{E:au}{s:List Int}(h:jW n E s){x:Nat}(hx:x<n)(h0:mkD s x=0):jW n E (s.set x 1):=by
 have hxs:x<s.length:=(by rw[h.len];exact hx);obtain⟨o,h1,h2,h3⟩:=h.ord;refine⟨by rw[List.length_set];exact h.len,fun y hy=> ?_,o,h1,fun y=> ?_,h3⟩
 ·rcases List.mem_or_eq_of_mem_set hy with e|e
  ·exact h.val y e
  ·exact .inr (.inl e)
 ·rw[h2 y,iW hxs];by_cases e:y=x
  ·subst e;rw[if_pos rfl,h0];simp
  ·rw[if_neg e]
theorem jW.done{n:Nat}{E:au}{s:List Int}(h:jW n E s){x:Nat}(hx:x<n)(h0:mkD s x=1)(hs:∀y,y<n→E x y=true→mkD s y=2):jW n E (s.set x 2):=by
 have hxs:x<s.length:=(by rw[h.len];exact hx);obtain⟨o,h1,h2,h3⟩:=h.ord;have hxo:x∉o:=fun hm=>(by have:=((h2 x).1 hm).2;rw[h0]at this;cases this);refine⟨by rw[List.length_set];exact h.len,fun y hy=> ?_,o++[x],?_,fun y=> ?_,fun i hi y hy he=> ?_⟩
 ·rcases List.mem_or_eq_of_mem_set hy with e|e
  ·exact h.val y e
  ·exact .inr (.inr e)
 ·rw[List.nodup_append];refine⟨h1,by simp,fun a ha b hb e=> ?_⟩;rw[List.mem_singleton]at hb;subst e;subst hb;exact hxo ha
 ·rw[List.mem_append,List.mem_singleton,h2 y,iW hxs];by_cases e:y=x
  ·subst e;rw[if_pos rfl];simp[hx]
  ·rw[if_neg e];simp[e]
 ·rw[List.length_append,List.length_singleton]at hi;rcases Nat.lt_or_ge i o.length with hio|hio
  ·rw[List.getElem_append_left hio]at he;rw[List.take_append_of_le_length (by omega)];exact h3 i hio y hy he
  ·have hie:i=o.length:=(by omega);subst hie;rw[List.getElem_append_right (Nat.le_refl _)]at he;simp only[Nat.sub_self,List.getElem_cons_zero]at he;rw[List.take_append_of_le_length (Nat.le_refl _),List.take_length];exact(h2 y).2 ⟨hy,hs y hy he⟩
theorem jW.fine{n:Nat}{E:au}{s:List Int}(h:jW n E s)(ha:∀x,x<n→mkD s x=2):jr n E=false:=by
 obtain⟨o,h1,h2,h3⟩:=h.ord;refine Br (fun x=>o.length-o.idxOf x) fun x y hx hy he=> ?_;have hxo:x∈o:=(h2 x).2 ⟨hx,ha x hx⟩;have hi:=List.idxOf_lt_length_of_mem hxo;have hm:=h3 (o.idxOf x) hi y hy (by rw[List.getElem_idxOf];exact he);obtain⟨j,hj,e⟩:=List.getElem_of_mem hm;rw[List.getElem_take]at e;rw[List.length_take]at hj;have hlt:o.idxOf y<o.idxOf x:=by
  have h4:o.idxOf y=j:=(by rw[←e];exact List.Nodup.idxOf_getElem h1 _ _);rw[h4];omega
 show o.length-o.idxOf x<o.length-o.idxOf y;omega
def nu(s:List Int):Nat:=s.count 0
theorem su{s:List Int}{x:Nat}(hx:x<s.length)(h0:mkD s x=0):nu (s.set x 1)+1=nu s:=by
 unfold nu;have he:s[x]=0:=(by unfold mkD at h0;rw[List.getD_eq_getElem?_getD,List.getElem?_eq_getElem hx,Option.getD_some]at h0;exact h0);rw[List.count_set hx,he];have hp:0<s.count 0:=List.count_pos_iff.2 (by rw[←he];exact List.getElem_mem hx);simp;omega
structure l7(n:Nat)(E:au)(s:List Int)(s':List Int):Prop where
 inv:jW n E s'
 grey:∀y,y<n→(mkD s' y=1↔mkD s y=1)
 black:∀y,y<n→mkD s y=2→mkD s' y=2
 zero:nu s'≤nu s
theorem l7.refl{n:Nat}{E:au}{s:List Int}(h:jW n E s):l7 n E s s:=⟨h,fun _ _=>Iff.rfl,fun _ _ h=>h,Nat.le_refl _⟩
theorem l7.trans{n:Nat}{E:au}{a b c:List Int}(h:l7 n E a b)(h':l7 n E b c):l7 n E a c:=⟨h'.inv,fun y hy=>(h'.grey y hy).trans (h.grey y hy),fun y hy hb=>h'.black y hy (h.black y hy hb),Nat.le_trans h'.zero h.zero⟩
theorem D9{s:List Int}{x:Nat}(hx:x<s.length)(h0:mkD s x=1):nu (s.set x 2)≤nu s:=by
 unfold nu;have he:s[x]=1:=(by unfold mkD at h0;rw[List.getD_eq_getElem?_getD,List.getElem?_eq_getElem hx,Option.getD_some]at h0;exact h0);rw[List.count_set hx,he];simp
theorem l7.closed{n:Nat}{E:au}{s t:List Int}{x:Nat}(hs:jW n E s)(hx:x<n)(h0:mkD s x=0)(h:l7 n E (s.set x 1) t)(hb:∀y,y<n→E x y=true→mkD t y=2):l7 n E s (t.set x 2)∧mkD (t.set x 2) x=2:=by
 have hxs:x<s.length:=(by rw[hs.len];exact hx);have hxt:x<t.length:=(by rw[h.inv.len];exact hx);have h1:mkD t x=1:=(h.grey x hx).2 (by rw[iW hxs,if_pos rfl]);refine⟨⟨h.inv.done hx h1 hb,fun y hy=> ?_,fun y hy h2=> ?_,?_⟩,by rw[iW hxt,if_pos rfl]⟩
 ·rw[iW hxt];by_cases e:y=x
  ·subst e;rw[if_pos rfl,h0];simp
  ·rw[if_neg e,h.grey y hy,iW hxs,if_neg e]
 ·rw[iW hxt];by_cases e:y=x
  ·rw[if_pos e]
  ·rw[if_neg e];exact h.black y hy (by rw[iW hxs,if_neg e];exact h2)
 ·refine Nat.le_trans (D9 hxt h1) (Nat.le_trans h.zero ?_);have:=su hxs h0;omega
def ny(n:Nat)(E:au)(s:List Int)(x:Nat):Prop:=∀g,g<n→mkD s g=1→sV n E g x=true
theorem ny.hit{n:Nat}{E:au}{s:List Int}{x:Nat}(h:ny n E s x)(hx:x<n)(h1:mkD s x=1):jr n E=true:=by
 unfold jr;exact List.any_eq_true.2 ⟨x,List.mem_range.2 hx,h x hx h1⟩
theorem ny.next{n:Nat}{E:au}{s t:List Int}{x y:Nat}(h:ny n E s x)(hl:s.length=n)(hx:x<n)(h2:l7 n E (s.set x 1) t)(he:E x y=true):ny n E t y:=by
 intro g hg h1;have h3:=(h2.grey g hg).1 h1;rw[iW (by rw[hl];exact hx)]at h3;by_cases e:g=x
 ·subst e;exact nP he
 ·rw[if_neg e]at h3;exact vg hx (h g hg h3) (nP he)
theorem BG{n:Nat}{E:au}{s:List Int}{x:Nat}(h:∀g,g<n→mkD s g≠1):ny n E s x:=fun g hg h1=>absurd h1 (h g hg)
end Go.Proofs.YtfhnamomiaekdaaGreatDoor
namespace Go.Inq
def rG(H:List Txn)(x y:Nat):Bool:=(aF H y).reads.any fun r=>decide (r.b=(x:Int))
def vC(H:List Txn)(x y:Nat)(c:Cho):Bool:=decide (c.a=(x:Int))&&decide (c.b=(y:Int))&&decide (x≠y)&&(aF H x).writes.contains c.key&&(aF H y).writes.contains c.key
def sw(H:List Txn)(l:List Cho)(x y:Nat):Bool:=l.any (vC H x y)
def vD(H:List Txn)(l:List Cho)(y:Nat)(r:It):Bool:=(aF H y).writes.contains r.a&&(decide (r.b<0)||(decide (r.b≠(y:Int))&&l.any fun c=>decide (c=⟨r.a,r.b,y⟩)))
def qB(H:List Txn)(l:List Cho)(x y:Nat):Bool:=decide (x≠y)&&(aF H x).reads.any (vD H l y)
def Om(H:List Txn)(l:List Cho)(x y:Nat):Bool:=soE H x y||rG H x y||sw H l x y
def tC(H:List Txn)(x y:Int):Bool:=ay H&&decide (0≤x)&&decide (x<(H.length:Int))&&decide (0≤y)&&decide (y<(H.length:Int))
def dJ(H:List Txn)(l:List Cho)(x y:Int):Bool:=tC H x y&&Om H l x.toNat y.toNat
def jR(H:List Txn)(l:List Cho)(x y:Int):Bool:=tC H x y&&qB H l x.toNat y.toNat
def isB(H:List Txn)(level:Int)(l:List Cho)(x y:Int):Bool:=
 if level=0 then dJ H l x y||jR H l x y
 else if level=1 then(List.range H.length).any fun m=>dJ H l x (m:Int)&&(decide ((m:Int)=y)||jR H l (m:Int) y)
 else false
def lY(H:List Txn)(level:Int)(l:List Cho)(row:List Int):Bool:=
 decide (0<row.length)&&(List.range row.length).all fun i=> !(row.take i).contains (row.getD i 0)&&isB H level l (row.getD i 0) (row.getD ((i+1)%row.length) 0)
theorem BH{H:List Txn}{x y:Int}:tC H x y=true↔ay H=true∧∃a b:Nat,x=a∧y=b∧a<H.length∧b<H.length:=by
 unfold tC;simp only[Bool.and_eq_true,decide_eq_true_eq];constructor
 ·rintro⟨⟨⟨⟨h1,h2⟩,h3⟩,h4⟩,h5⟩;exact⟨h1,x.toNat,y.toNat,by omega,by omega,by omega,by omega⟩
 ·rintro⟨h1,a,b,rfl,rfl,h2,h3⟩;exact⟨⟨⟨⟨h1,by omega⟩,by omega⟩,by omega⟩,by omega⟩
end Go.Inq
namespace Go.Proofs.YtfhnamomiaekdaaGreatDoor
open Go.RowKit Go.Inq
structure aP where
 key:Int
 l:List Int
deriving DecidableEq
def iX(l:List Nat):List Int:=l.map fun(x:Nat)=>(x:Int)
def nA(l:List Int):List Int:=l.mergeSort fun x y=>decide (x≤y)
def vE(H:List Txn)(π:List Int)(k:Int):aP:=⟨k,π.filter fun t=>(aF H t.toNat).writes.contains k⟩
def fE(H:List Txn)(π:List Int):List aP:=if ay H=true∧aT π H.length=true then(bO H).map (vE H π)else[]
def eP(H:List Txn)(R:List aP):Bool:=ay H&&decide (R.map (·.key)=bO H)&&R.all fun r=>decide (nA r.l=iX (bg H r.key))
def P9(H:List Txn)(r:aP):List Cho:=(dD r.key (bg H r.key)).map (ofC r.l)
def qC(H:List Txn)(R:List aP):List Cho:=if eP H R then(R.map (P9 H)).flatten else[]
theorem vF(l:List Int):(nA l).Pairwise (·≤·):=by
 unfold nA;refine(List.pairwise_mergeSort (le:=fun x y=>decide (x≤y)) (fun a b c h1 h2=> ?_) (fun a b=> ?_) l).imp fun h=>by simpa using h
 ·rw[decide_eq_true_eq]at h1 h2⊢;omega
 ·rw[Bool.or_eq_true,decide_eq_true_eq,decide_eq_true_eq];omega
theorem lM(l:List Int):(nA l).Perm l:=List.mergeSort_perm l _
theorem rH:∀{a b:List Int},a.Pairwise (·≤·)→b.Pairwise (·≤·)→a.Perm b→a=b
 |[],b,_,_,h=>by rw[h.nil_eq]
 |x::a,[],_,_,h=>by have:=h.length_eq;simp at this
 |x::a,y::b,ha,hb,h=>by
  rw[List.pairwise_cons]at ha hb;have hx:x∈y::b:=h.mem_iff.1 (by simp);have hy:y∈x::a:=h.mem_iff.2 (by simp);have hxy:x=y:=by
   rw[List.mem_cons]at hx hy;rcases hx with rfl|hx
   ·rfl
   ·rcases hy with rfl|hy
    ·rfl
    ·have h1:=hb.1 x hx;have h2:=ha.1 y hy;omega
  subst hxy;rw[rH ha.2 hb.2 ((List.perm_cons x).1 h)]
theorem yu{l:List Nat}(h:l.Pairwise (·<·)):(iX l).Pairwise (·≤·):=by
 unfold iX;rw[List.pairwise_map];exact h.imp fun hab=>by omega
theorem nC{l:List Nat}{x:Int}:x∈iX l↔∃n∈l,x=(n:Int):=by
 unfold iX;rw[List.mem_map];exact⟨fun⟨n,h,e⟩=>⟨n,h,e.symm⟩,fun⟨n,h,e⟩=>⟨n,h,e.symm⟩⟩
theorem oZ{l:List Nat}(h:l.Pairwise (·<·)):(iX l).Nodup:=by
 unfold iX;rw[List.nodup_iff_pairwise_ne,List.pairwise_map];exact h.imp fun hab=>by omega
theorem qD{H:List Txn}{r:aP}:nA r.l=iX (bg H r.key)↔r.l.Perm (iX (bg H r.key)):=by
 constructor
 ·intro h;rw[←h];exact(lM r.l).symm
 ·intro h;exact rH (vF _) (yu (fU H r.key)) ((lM r.l).trans h)
structure OkS(H:List Txn)(R:List aP):Prop where
 right:ay H=true
 keys:R.map (·.key)=bO H
 perm:∀r∈R,r.l.Perm (iX (bg H r.key))
theorem nS(H:List Txn)(R:List aP):eP H R=true↔OkS H R:=by
 unfold eP;rw[Bool.and_eq_true,Bool.and_eq_true,decide_eq_true_eq,List.all_eq_true];constructor
 ·rintro⟨⟨h1,h2⟩,h3⟩;exact⟨h1,h2,fun r hr=>qD.1 (of_decide_eq_true (h3 r hr))⟩
 ·rintro⟨h1,h2,h3⟩;exact⟨⟨h1,h2⟩,fun r hr=>decide_eq_true (qD.2 (h3 r hr))⟩
theorem OkS.nodup{H:List Txn}{R:List aP}(h:OkS H R){r:aP}(hr:r∈R):r.l.Nodup:=(h.perm r hr).nodup_iff.2 (oZ (fU H r.key))
theorem OkS.mem{H:List Txn}{R:List aP}(h:OkS H R){r:aP}(hr:r∈R){x:Int}:x∈r.l↔∃n:Nat,x=n∧n<H.length∧r.key∈(aF H n).writes:=by
 rw[(h.perm r hr).mem_iff,nC];constructor
 ·rintro⟨n,hn,e⟩;obtain⟨h1,h2⟩:=bB.1 hn;exact⟨n,e,h1,h2⟩
 ·rintro⟨n,e,h1,h2⟩;exact⟨n,bB.2 ⟨h1,h2⟩,e⟩
theorem OkS.nat{H:List Txn}{R:List aP}(h:OkS H R){r:aP}(hr:r∈R){n:Nat}(hn:n<H.length):((n:Nat):Int)∈r.l↔r.key∈(aF H n).writes:=by
 rw[h.mem hr];constructor
 ·rintro⟨m,e,h1,h2⟩;obtain rfl:n=m:=(by omega);exact h2
 ·intro h2;exact⟨n,rfl,hn,h2⟩
theorem OkS.has{H:List Txn}{R:List aP}(h:OkS H R){k:Int}{n:Nat}(hn:n<H.length)(hk:k∈(aF H n).writes):∃r∈R,r.key=k:=by
 have:k∈bO H:=(by rw[aH hn]at hk;exact jY.2 ⟨_,List.getElem_mem hn,hk⟩);rw[←h.keys]at this;obtain⟨r,hr,e⟩:=List.mem_map.1 this;exact⟨r,hr,e⟩
theorem OkS.one{H:List Txn}{R:List aP}(h:OkS H R){r r':aP}(hr:r∈R)(hr':r'∈R)(e:r.key=r'.key):r=r':=by
 have hp:=kZ H;rw[←h.keys,List.pairwise_map]at hp;obtain⟨i,hi,rfl⟩:=List.getElem_of_mem hr;obtain⟨j,hj,rfl⟩:=List.getElem_of_mem hr';rw[List.pairwise_iff_getElem]at hp;rcases Nat.lt_trichotomy i j with g|g|g
 ·have:=hp i j hi hj g;omega
 ·subst g;rfl
 ·have:=hp j i hj hi g;omega
theorem OkS.key{H:List Txn}{R:List aP}(h:OkS H R){r:aP}(hr:r∈R):0≤r.key∧r.key<16:=by
 have:r.key∈bO H:=(by rw[←h.keys];exact List.mem_map_of_mem hr);obtain⟨t,ht,hk⟩:=jY.1 this;obtain⟨i,hi,rfl⟩:=List.getElem_of_mem ht;exact(((aC H).1 h.right).2 i hi).IV _ hk
theorem dS{l:List Int}{x:Int}(h:x∈l):bJ l x=(l.idxOf x:Int):=by
 have hi:=List.idxOf_lt_length_of_mem h;refine tZ hi (List.getElem_idxOf _) fun j hj hlt e=> ?_;have:l.idxOf x≤j:=by
  rw[←e];refine Nat.le_of_not_lt fun hgt=> ?_;have:=List.not_of_lt_findIdx (p:=(·==l[j])) (xs:=l) (i:=j) (by simpa[List.idxOf]using hgt);simp at this
 omega
def bU(R:List aP)(k:Int)(t:Int):Int:=match R.find? fun r=>decide (r.key=k)with
 |some r=>if r.l.contains t then(r.l.idxOf t:Int)+1 else 0
 |none=>0
def dM(R:List aP)(k a b:Int):Bool:=decide (0<bU R k b)&&(decide (a<0)||(decide (0<bU R k a)&&decide (bU R k a<bU R k b)))
def wM(H:List Txn)(R:List aP)(x y:Nat):Bool:=soE H x y||rG H x y||(aF H x).writes.any fun k=>dM R k (x:Int) (y:Int)
def iJ(H:List Txn)(R:List aP)(x y:Nat):Bool:=decide (x≠y)&&(aF H x).reads.any fun r=>dM R r.a r.b (y:Int)
def qE(H:List Txn)(R:List aP)(x y:Nat):List Nat:=if wM H R x y then y::(List.range H.length).filter (iJ H R y)else[]
def qF(H:List Txn)(R:List aP)(x:Nat):List Nat:=((List.range H.length).map (qE H R x)).flatten
def fF(H:List Txn)(R:List aP):au:=fun x y=>(qF H R x).contains y
def gY(H:List Txn)(R:List aP):Bool:=eP H R&& !jr H.length (fF H R)
theorem yx{H:List Txn}{R:List aP}(h:OkS H R){r:aP}(hr:r∈R)(t:Int):bU R r.key t=if r.l.contains t then(r.l.idxOf t:Int)+1 else 0:=by
 unfold bU;cases hf:R.find? fun x=>decide (x.key=r.key)with
 |none=>have:=List.find?_eq_none.1 hf r hr;simp at this
 |some x=>
  have h1:=List.find?_some hf;have h2:=List.mem_of_find?_eq_some hf;rw[decide_eq_true_eq]at h1;rw[h.one h2 hr h1]
theorem eT{H:List Txn}{R:List aP}(h:OkS H R){k:Int}{n:Nat}(hn:n<H.length):0<bU R k (n:Int)↔k∈(aF H n).writes:=by
 constructor
 ·intro hp;unfold bU at hp;cases hf:R.find? fun x=>decide (x.key=k)with
  |none=>rw[hf]at hp;exact absurd hp (Int.lt_irrefl 0)
  |some r=>
   rw[hf]at hp;have h1:=List.find?_some hf;rw[decide_eq_true_eq]at h1;subst h1;have h2:=List.mem_of_find?_eq_some hf;refine(h.nat h2 hn).1 ?_;by_cases hc:r.l.contains (n:Int)=true
   ·exact List.contains_iff_mem.1 hc
   ·rw[Bool.not_eq_true]at hc;simp only[hc]at hp;exact absurd hp (Int.lt_irrefl 0)
 ·intro hk;obtain⟨r,hr,rfl⟩:=h.has hn hk;rw[yx h hr,if_pos (List.contains_iff_mem.2 ((h.nat hr hn).2 hk))];omega
theorem BI{H:List Txn}{R:List aP}(h:OkS H R){c:Cho}:c∈qC H R↔∃r∈R,∃p∈dD r.key (bg H r.key),c=ofC r.l p:=by
 unfold qC;rw[if_pos ((nS H R).2 h),List.mem_flatten];constructor
 ·rintro⟨l,hl,hc⟩;obtain⟨r,hr,rfl⟩:=List.mem_map.1 hl;obtain⟨p,hp,e⟩:=List.mem_map.1 hc;exact⟨r,hr,p,hp,e.symm⟩
 ·rintro⟨r,hr,p,hp,rfl⟩;exact⟨_,List.mem_map_of_mem hr,List.mem_map_of_mem hp⟩
theorem qG{H:List Txn}{R:List aP}(h:OkS H R){k:Int}{a b:Nat}(ha:a<H.length)(hb:b<H.length):
 (⟨k,a,b⟩:Cho)∈qC H R↔k∈(aF H a).writes∧k∈(aF H b).writes∧bU R k a<bU R k b:=by
 rw[BI h];have hpl:∀{r:aP},r∈R→∀{n:Nat},n<H.length→r.key∈(aF H n).writes→bU R r.key (n:Int)=(r.l.idxOf (n:Int):Int)+1∧bJ r.l (n:Int)=(r.l.idxOf (n:Int):Int):=fun{r} hr {n} hn hk=>by
  have hm:=(h.nat hr hn).2 hk;exact⟨by rw[yx h hr,if_pos (List.contains_iff_mem.2 hm)],dS hm⟩
 have hne:∀{r:aP},r∈R→∀{m n:Nat},m<H.length→n<H.length→r.key∈(aF H m).writes→r.key∈(aF H n).writes→m≠n→r.l.idxOf (m:Int)≠r.l.idxOf (n:Int):=fun{r} hr {m n} hm hn hkm hkn hmn e=>by
  have h1:=(h.nat hr hm).2 hkm;have h2:=(h.nat hr hn).2 hkn;have e1:=List.getElem_idxOf (List.idxOf_lt_length_of_mem h1);have e2:=List.getElem_idxOf (List.idxOf_lt_length_of_mem h2);have:r.l[r.l.idxOf (m:Int)]'(List.idxOf_lt_length_of_mem h1)=r.l[r.l.idxOf (n:Int)]'(List.idxOf_lt_length_of_mem h2):=(by simp only[e]);omega
 constructor
 ·rintro⟨r,hr,p,hp,e⟩;obtain⟨hpk,x,y,hx,hy,hxm,hym⟩:=jh hp;have hlt:=qW (fU H r.key) hp;obtain⟨hx1,hx2⟩:=bB.1 hxm;obtain⟨hy1,hy2⟩:=bB.1 hym;obtain⟨px,ix⟩:=hpl hr hx1 hx2;obtain⟨py,iy⟩:=hpl hr hy1 hy2;have hnd:=hne hr hx1 hy1 hx2 hy2 (by omega);unfold ofC at e;rw[hx,hy,ix,iy]at e;split at e
  ·next hgt=>
   injection e with e1 e2 e3
   obtain rfl:a=y:=(by omega);obtain rfl:b=x:=(by omega);rw[hpk]at e1;subst e1;exact⟨hy2,hx2,by omega⟩
  ·next hgt=>
   subst e;obtain rfl:a=x:=(by have:(a:Int)=x:=hx;omega);obtain rfl:b=y:=(by have:(b:Int)=y:=hy;omega);have hk:k=r.key:=hpk;subst hk;exact⟨hx2,hy2,by omega⟩
 ·rintro⟨hka,hkb,hlt⟩;obtain⟨r,hr,rfl⟩:=h.has ha hka;obtain⟨pa,ia⟩:=hpl hr ha hka;obtain⟨pb,ib⟩:=hpl hr hb hkb;have hab:a≠b:=(by rintro rfl;omega);rcases Nat.lt_or_gt_of_ne hab with g|g
  ·refine⟨r,hr,_,jQ (fU H r.key) (bB.2 ⟨ha,hka⟩) (bB.2 ⟨hb,hkb⟩) g,?_⟩;unfold ofC;rw[if_neg];show¬(bJ r.l (a:Int)>bJ r.l (b:Int));omega
  ·refine⟨r,hr,_,jQ (fU H r.key) (bB.2 ⟨hb,hkb⟩) (bB.2 ⟨ha,hka⟩) g,?_⟩;unfold ofC;rw[if_pos];show bJ r.l (b:Int)>bJ r.l (a:Int);omega
theorem Kc{H:List Txn}{R:List aP}(h:OkS H R){c:Cho}(hc:c∈qC H R):∃a b:Nat,c.a=a∧c.b=b∧a<H.length∧b<H.length:=by
 obtain⟨r,hr,p,hp,rfl⟩:=(BI h).1 hc;obtain⟨hpk,x,y,hx,hy,hxm,hym⟩:=jh hp;obtain⟨hx1,-⟩:=bB.1 hxm;obtain⟨hy1,-⟩:=bB.1 hym;unfold ofC;split
 ·exact⟨y,x,hy,hx,hy1,hx1⟩
 ·exact⟨x,y,hx,hy,hx1,hy1⟩
theorem zq{H:List Txn}{R:List aP}(h:OkS H R){x y:Nat}(hx:x<H.length)(hy:y<H.length):wM H R x y=orE (bq H) (wwE (qC H R)) x y:=by
 have hr:=(aC H).1 h.right;rw[Bool.eq_iff_iff];unfold wM bq orE;rw[Bool.or_eq_true,Bool.or_eq_true,Bool.or_eq_true,Bool.or_eq_true];refine or_congr (or_congr Iff.rfl ?_) ?_
 ·unfold rG wrE;rw[Bool.and_eq_true,decide_eq_true_eq];refine⟨fun hm=>⟨?_,hm⟩,And.right⟩;rintro rfl;rw[List.any_eq_true]at hm;obtain⟨r,hr1,hr2⟩:=hm;have hr2:=of_decide_eq_true hr2;rw[aH hx]at hr1;have ht:=(hr.2 x hx).there r hr1;rcases(gV H x r).1 ht with e|⟨k,hk,e,hne,-⟩
  ·omega
  ·omega
 ·unfold wwE;rw[List.any_eq_true,List.any_eq_true];constructor
  ·rintro⟨k,hk,ha⟩;unfold dM at ha;rw[Bool.and_eq_true,Bool.or_eq_true,Bool.and_eq_true]at ha;simp only[decide_eq_true_eq]at ha;obtain⟨h1,h2⟩:=ha;have h3:bU R k (x:Int)<bU R k (y:Int):=(by rcases h2 with h2|h2<;>omega);exact⟨⟨k,x,y⟩,(qG h hx hy).2 ⟨hk,(eT h hy).1 h1,h3⟩,by simp⟩
  ·rintro⟨⟨k,a,b⟩,hc,hab⟩;rw[Bool.and_eq_true,decide_eq_true_eq,decide_eq_true_eq]at hab;obtain⟨rfl,rfl⟩:=hab;obtain⟨h1,h2,h3⟩:=(qG h hx hy).1 hc;have h4:=(eT h hx).2 h1;have h5:=(eT h hy).2 h2;refine⟨k,h1,?_⟩;unfold dM;rw[Bool.and_eq_true,Bool.or_eq_true,Bool.and_eq_true];simp only[decide_eq_true_eq];exact⟨h5,.inr ⟨h4,h3⟩⟩
theorem Fg{H:List Txn}{R:List aP}(h:OkS H R){x y:Nat}(hx:x<H.length)(hy:y<H.length):iJ H R x y=rwE H (qC H R) x y:=by
 have hr:=(aC H).1 h.right;rw[Bool.eq_iff_iff];unfold iJ rwE lV;rw[Bool.and_eq_true,Bool.or_eq_true,Bool.and_eq_true,List.any_eq_true,List.any_eq_true,List.any_eq_true,decide_eq_true_eq];have MX:∀r∈(aF H x).reads,r.b= -1∨∃k,∃hk:k<H.length,r.b=(k:Int)∧k≠x∧r.a∈H[k].writes:=fun r hr1=>by
  rw[aH hx]at hr1;exact(gV H x r).1 ((hr.2 x hx).there r hr1)
 constructor
 ·rintro⟨hne,r,hr1,ha⟩;unfold dM at ha;rw[Bool.and_eq_true,Bool.or_eq_true,Bool.and_eq_true]at ha;simp only[decide_eq_true_eq]at ha;obtain⟨h1,h2⟩:=ha;have hky:=(eT h hy).1 h1;rcases MX r hr1 with e|⟨k,hk,e,hkx,hkw⟩
  ·refine .inl ⟨hne,r,hr1,?_⟩;rw[Bool.and_eq_true,decide_eq_true_eq,List.contains_iff_mem];exact⟨e,hky⟩
  ·have h3:0<bU R r.a r.b∧bU R r.a r.b<bU R r.a (y:Int):=by
    rcases h2 with h2|h2
    ·omega
    ·exact h2
   rw[e]at h3;refine .inr ⟨⟨r.a,k,y⟩,(qG h hk hy).2 ⟨(eT h hk).1 h3.1,hky,h3.2⟩,?_⟩;rw[Bool.and_eq_true,Bool.and_eq_true,List.any_eq_true];simp only[decide_eq_true_eq];refine⟨⟨trivial,hne⟩,r,hr1,?_⟩;rw[Bool.and_eq_true,decide_eq_true_eq,decide_eq_true_eq];exact⟨rfl,e⟩
 ·rintro(⟨hne,r,hr1,h2⟩|⟨c,hc,h2⟩)
  ·rw[Bool.and_eq_true,decide_eq_true_eq,List.contains_iff_mem]at h2;refine⟨hne,r,hr1,?_⟩;unfold dM;rw[Bool.and_eq_true,Bool.or_eq_true];simp only[decide_eq_true_eq];exact⟨(eT h hy).2 h2.2,.inl (by omega)⟩
  ·rw[Bool.and_eq_true,Bool.and_eq_true,List.any_eq_true]at h2;simp only[decide_eq_true_eq]at h2;obtain⟨⟨hb,hne⟩,r,hr1,h3⟩:=h2;rw[Bool.and_eq_true,decide_eq_true_eq,decide_eq_true_eq]at h3;obtain⟨a,b,e1,e2,ha,hb'⟩:=Kc h hc;obtain⟨k,ca,cb⟩:=c;simp only at hb h3 e1 e2;subst e1;subst e2;obtain rfl:b=y:=(by omega);obtain⟨g1,g2,g3⟩:=(qG h ha hb').1 hc;refine⟨hne,r,hr1,?_⟩;unfold dM;rw[h3.1,h3.2,Bool.and_eq_true,Bool.or_eq_true,Bool.and_eq_true];simp only[decide_eq_true_eq];exact⟨(eT h hb').2 g2,.inr ⟨(eT h ha).2 g1,g3⟩⟩
theorem yA{H:List Txn}{R:List aP}{x z:Nat}:fF H R x z=true↔z<H.length∧(wM H R x z=true∨∃y,y<H.length∧wM H R x y=true∧iJ H R y z=true):=by
 unfold fF qF;rw[List.contains_iff_mem,List.mem_flatten];constructor
 ·rintro⟨l,hl,hz⟩;obtain⟨y,hy,rfl⟩:=List.mem_map.1 hl;have hy:=List.mem_range.1 hy;unfold qE at hz;split at hz
  ·next hd=>
   rw[List.mem_cons]at hz;rcases hz with rfl|hz
   ·exact⟨hy,.inl hd⟩
   ·obtain⟨h1,h2⟩:=List.mem_filter.1 hz;exact⟨List.mem_range.1 h1,.inr ⟨y,hy,hd,h2⟩⟩
  ·cases hz
 ·rintro⟨hz,hd|⟨y,hy,hd,ho⟩⟩
  ·refine⟨_,List.mem_map.2 ⟨z,List.mem_range.2 hz,rfl⟩,?_⟩;unfold qE;rw[if_pos hd];simp
  ·refine⟨_,List.mem_map.2 ⟨y,List.mem_range.2 hy,rfl⟩,?_⟩;unfold qE;rw[if_pos hd,List.mem_cons];exact .inr (List.mem_filter.2 ⟨List.mem_range.2 hz,ho⟩)
theorem Ke{H:List Txn}{R:List aP}(h:OkS H R){x z:Nat}(hx:x<H.length)(hz:z<H.length):fF H R x z=eH H 1 (qC H R) x z:=by
 have hf:eH H 1 (qC H R) x z=(orE (bq H) (wwE (qC H R)) x z||jZ H.length (orE (bq H) (wwE (qC H R))) (rwE H (qC H R)) x z):=rfl;rw[Bool.eq_iff_iff,yA,hf,Bool.or_eq_true,←zq h hx hz];unfold jZ;rw[List.any_eq_true];constructor
 ·rintro⟨_,hd|⟨y,hy,hd,ho⟩⟩
  ·exact .inl hd
  ·exact .inr ⟨y,List.mem_range.2 hy,by rw[Bool.and_eq_true,←zq h hx hy,←Fg h hy hz];exact⟨hd,ho⟩⟩
 ·rintro(hd|⟨y,hy,hd⟩)
  ·exact⟨hz,.inl hd⟩
  ·have hy:=List.mem_range.1 hy;rw[Bool.and_eq_true,←zq h hx hy,←Fg h hy hz]at hd;exact⟨hz,.inr ⟨y,hy,hd.1,hd.2⟩⟩
theorem vG{n:Nat}{E F:au}(h:∀x y,x<n→y<n→E x y=F x y):∀(l:List Nat) (x y:Nat),x<n→y<n→(∀a∈l,a<n)→lJ E x l y=lJ F x l y
 |[],x,y,hx,hy,_=>h x y hx hy
 |a::l,x,y,hx,hy,hl=>by
  show(E x a&&lJ E a l y)=(F x a&&lJ F a l y);rw[h x a hx (hl a (by simp)),vG h l a y (hl a (by simp)) hy fun b hb=>hl b (by simp[hb])]
theorem Fh{n:Nat}{E F:au}(h:∀x y,x<n→y<n→E x y=F x y)(hc:jr n E=true):jr n F=true:=by
 unfold jr at hc⊢;rw[List.any_eq_true]at hc⊢;obtain⟨x,hx,hc⟩:=hc;have hxn:=List.mem_range.1 hx;obtain⟨l,hl,hw⟩:=gD n x x hc;rw[vG h l x x hxn hxn hl]at hw;exact⟨x,hx,nO n l.length l x x (Nat.le_refl _) hl hw⟩
theorem Hq{n:Nat}{E F:au}(h:∀x y,x<n→y<n→E x y=F x y):jr n E=jr n F:=by
 rw[Bool.eq_iff_iff];exact⟨Fh h,Fh fun x y hx hy=>(h x y hx hy).symm⟩
theorem BJ(H:List Txn)(R:List aP):gY H R=(eP H R&&qo H 1 (qC H R)):=by
 unfold gY qo;cases hr:eP H R with
 |false=>rfl
 |true=>rw[Bool.true_and,Bool.true_and,Hq fun x y hx hy=>Ke ((nS H R).1 hr) hx hy]
theorem idxOf_hit(a:Int)(t:List Int):(a::t).idxOf a=0:=by simp[List.idxOf_cons]
theorem gF{a x:Int}(h:a≠x)(t:List Int):(a::t).idxOf x=t.idxOf x+1:=by
 rw[List.idxOf_cons,show(a==x)=false by simpa using h];rfl
theorem pz{p:Int→Bool}{x y:Int}(hx:p x=true)(hy:p y=true):∀{l:List Int},x∈l→y∈l→((l.filter p).idxOf x<(l.filter p).idxOf y↔l.idxOf x<l.idxOf y)
 |[],h,_=>by cases h
 |a::t,h1,h2=>by
  by_cases hpa:p a=true
  ·rw[List.filter_cons_of_pos hpa];by_cases hax:a=x
   ·subst hax;by_cases hay:a=y
    ·subst hay;exact⟨fun h=>absurd h (Nat.lt_irrefl _),fun h=>absurd h (Nat.lt_irrefl _)⟩
    ·rw[idxOf_hit,idxOf_hit,gF hay,gF hay];exact⟨fun _=>by omega,fun _=>by omega⟩
   ·by_cases hay:a=y
    ·subst hay;rw[idxOf_hit,idxOf_hit];exact⟨fun h=>absurd h (Nat.not_lt_zero _),fun h=>absurd h (Nat.not_lt_zero _)⟩
    ·rw[List.mem_cons]at h1 h2;have g1:x∈t:=h1.resolve_left fun e=>hax e.symm;have g2:y∈t:=h2.resolve_left fun e=>hay e.symm;have:=pz hx hy g1 g2;rw[gF hax,gF hay,gF hax,gF hay];omega
  ·rw[List.filter_cons_of_neg hpa];have hax:a≠x:=fun e=>hpa (e▸hx);have hay:a≠y:=fun e=>hpa (e▸hy);rw[List.mem_cons]at h1 h2;have g1:x∈t:=h1.resolve_left fun e=>hax e.symm;have g2:y∈t:=h2.resolve_left fun e=>hay e.symm;have:=pz hx hy g1 g2;rw[gF hax,gF hay];omega
theorem qH{H:List Txn}{π:List Int}(hp:aT π H.length=true){k:Int}{n:Nat}:((n:Nat):Int)∈(vE H π k).l↔n∈bg H k:=by
 unfold vE;rw[List.mem_filter,bB,Int.toNat_natCast,List.contains_iff_mem];constructor
 ·rintro⟨h1,h2⟩;obtain⟨i,hi,e⟩:=List.getElem_of_mem h1;have:=iV hp hi;exact⟨by omega,h2⟩
 ·rintro⟨h1,h2⟩;exact⟨kJ hp h1,h2⟩
theorem yB{H:List Txn}{π:List Int}(hp:aT π H.length=true)(k:Int):(vE H π k).l.Perm (iX (bg H k)):=by
 refine(List.perm_ext_iff_of_nodup ((vv hp).sublist List.filter_sublist) (oZ (fU H k))).2 fun x=> ?_;constructor
 ·intro hx;have h1:=(List.mem_filter.1 hx).1;obtain⟨i,hi,e⟩:=List.getElem_of_mem h1;have:=iV hp hi;have hn:x=((x.toNat:Nat):Int):=(by omega);rw[hn]at hx;exact nC.2 ⟨_,(qH hp).1 hx,hn⟩
 ·intro hx;obtain⟨n,hn,rfl⟩:=nC.1 hx;exact(qH hp).2 hn
theorem Kg{H:List Txn}{π:List Int}(hr:ay H=true)(hp:aT π H.length=true):OkS H (fE H π):=by
 unfold fE;rw[if_pos ⟨hr,hp⟩];refine⟨hr,?_,fun r hm=> ?_⟩
 ·rw[List.map_map];exact(List.map_congr_left (g:=id) fun k _=>rfl).trans (List.map_id _)
 ·obtain⟨k,hk,rfl⟩:=List.mem_map.1 hm;exact yB hp k
theorem sD{H:List Txn}{π:List Int}(hr:ay H=true)(hp:aT π H.length=true):eP H (fE H π)=true:=(nS _ _).2 (Kg hr hp)
theorem Hr{H:List Txn}{π:List Int}(hr:ay H=true)(hp:aT π H.length=true):qC H (fE H π)=ofL H π:=by
 unfold qC;rw[if_pos (sD hr hp)];unfold fE ofL cK;rw[if_pos ⟨hr,hp⟩,List.map_flatten,List.map_map,List.map_map];congr 1;refine List.map_congr_left fun k _=> ?_;show(dD k (bg H k)).map (ofC (vE H π k).l)=(dD k (bg H k)).map (ofC π);refine List.map_congr_left fun p hpm=> ?_;obtain⟨hpk,a,b,ha,hb,ham,hbm⟩:=jh hpm;have h1:=(qH (k:=k) hp).2 ham;have h2:=(qH (k:=k) hp).2 hbm;have g1:=(List.mem_filter.1 h1).1;have g2:=(List.mem_filter.1 h2).1;have hf:=pz (p:=fun t=>(aF H t.toNat).writes.contains k) (List.mem_filter.1 h2).2 (List.mem_filter.1 h1).2 g2 g1;have hf:(vE H π k).l.idxOf (b:Int)<(vE H π k).l.idxOf (a:Int)↔π.idxOf (b:Int)<π.idxOf (a:Int):=hf;unfold ofC;rw[ha,hb,dS h1,dS h2,dS g1,dS g2];by_cases hlt:π.idxOf (b:Int)<π.idxOf (a:Int)
 ·rw[if_pos (by have:=hf.2 hlt;omega),if_pos (by omega)]
 ·rw[if_neg (by intro h;exact hlt (hf.1 (by omega))),if_neg (by omega)]
end Go.Proofs.YtfhnamomiaekdaaGreatDoor
namespace Go.Inq
theorem Kh{l:List Int}(h:l.Pairwise (·<·)):eO l=true:=by
 rw[qX];intro k hk hl;exact List.pairwise_iff_getElem.1 h (k-1) k (by omega) hl (by omega)
theorem Lj(H:List Txn)(path:List Int):(jG H path).Pairwise (·<·):=by
 unfold jG;rw[List.pairwise_map];exact(List.Pairwise.filter _ List.pairwise_lt_range).imp fun h=>by omega
theorem Ht(H:List Txn)(path:List Int)(k:Nat):eO ((jG H path).take k)=true:=Kh ((Lj H path).sublist (List.take_sublist _ _))
theorem Ea(H:List Txn)(path:List Int)(k:Nat):aW H.length ((jG H path).take k) path=true:=by
 unfold aW;rw[List.all_eq_true];intro x hx;have hx:=List.mem_of_mem_take hx;unfold jG at hx;obtain⟨t,ht,rfl⟩:=List.mem_map.1 hx;obtain⟨h1,h2⟩:=List.mem_filter.1 ht;rw[Bool.and_eq_true]at h2;have h3:=List.mem_range.1 h1;rw[h2.1];simp;omega
structure OkW(H:List Txn)(s:Wd):Prop where
 h:ay H=true
 w1:1≤s.width
 w2:s.width≤32
 pl:s.path.length≤H.length-1
 pf:∀i (hi:i<s.path.length),aW H.length [s.path[i]] (s.path.take i)=true
 l0:s.left=[]→s.path=[]
 ll:s.left≠[]→s.left.length=s.path.length+1
 lf:∀i (hi:i<s.left.length),eO s.left[i]=true∧aW H.length s.left[i] (s.path.take i)=true
theorem tL(H:List Txn)(s:Wd):cZ H s=true↔OkW H s:=by
 rw[gu];constructor
 ·intro h;simp only[Bool.and_eq_true]at h;obtain⟨⟨hb,hp⟩,hl⟩:=h;unfold og at hb;simp only[Bool.and_eq_true,decide_eq_true_eq]at hb;unfold pX at hp;rw[List.all_eq_true]at hp;refine⟨hb.1.1.1,hb.1.1.2,hb.1.2,hb.2,fun i hi=> ?_,fun e=> ?_,fun e=> ?_,fun i hi=> ?_⟩
  ·have:=hp i (List.mem_range.2 hi);simp only[List.getD_eq_getElem?_getD,List.getElem?_eq_getElem hi,Option.getD_some]at this;exact this
  ·rw[if_pos e]at hl;exact of_decide_eq_true hl
  ·rw[if_neg e,Bool.and_eq_true]at hl;exact of_decide_eq_true hl.1
  ·have e:s.left≠[]:=fun e=>(by rw[e]at hi;simp at hi);rw[if_neg e,Bool.and_eq_true]at hl;have h2:=hl.2;unfold uE at h2;rw[List.all_eq_true]at h2;have:=h2 i (List.mem_range.2 hi);simp only[List.getD_eq_getElem?_getD,List.getElem?_eq_getElem hi,Option.getD_some,Bool.and_eq_true]at this;exact this
 ·intro h;have hb:og H s=true:=(by unfold og;simp[h.h,h.w1,h.w2,h.pl]);have hp:pX H s=true:=Ab h.pf;rw[hb,hp];by_cases e:s.left=[]
  ·rw[if_pos e];simp[h.l0 e]
  ·rw[if_neg e,Ac h.lf,decide_eq_true (h.ll e)];rfl
end Go.Inq
