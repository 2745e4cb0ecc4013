/-
  Walks: slices.Equal at rows of numbers, and at rows of takes.
-/
import Derived.Test.YtpjechjoijjhpaaGreatDoorZ07
import Derived.Test.YtpjechjoijjhpaaGreatDoorZ09
import Derived.Test.YtpjechjoijjhpaaGreatDoorZ29
import Derived.Test.YtpjechjoijjhpaaGreatDoorZ05
set_option linter.unusedVariables false
set_option linter.unusedSimpArgs false
namespace Go.Proofs.YtpjechjoijjhpaaGreatDoor
open Go.RowKit Go.Inq
set_option maxHeartbeats 2000000
attribute [local go_sem↓] Go.wp_at_zero Go.wp_at_succ
theorem Q6{α:Type}{l m:List α}{k:Nat}(h1:k<l.length)(h2:k<m.length)(ht:l.take k=m.take k)(he:l[k]=m[k]):l.take (k+1)=m.take (k+1):=by
 rw[List.take_succ_eq_append_getElem h1,List.take_succ_eq_append_getElem h2,ht,he]
theorem Q7{α:Type}{l m:List α}{k:Nat}(h1:k<l.length)(h2:k<m.length)(he:l[k]≠m[k]):l≠m:=by
 rintro rfl;exact he rfl
theorem bE{b c:Bool}(h:b=c):Ending.returned (.bool b)= .returned (.bool c):=by rw[h]
theorem Jy(A1 A2:Option Addr)(c1 c2:Nat)(l m:List Cho)(K1 K2:Nat→Prop)(w:World)(h1:aV w K1 (.slice A1 l.length c1) l)(h2:aV w K2 (.slice A2 m.length c2) m)(hl:l.length≤1000000000)(hm:m.length≤1000000000):
 Calls Tryz.prog 15 #[.slice A1 l.length c1,.slice A2 m.length c2] w fun e w'=>e= .returned (.bool (decide (l=m)))∧Below w.heap.size w w':=by
 by_cases hlen:l.length=m.length
 ·have hne:=hide (fun k (g1:k<l.length) (g2:k<m.length)=>Q7 g1 g2);have hst:=hide (fun k (g1:k<l.length) (g2:k<m.length)=>Q6 g1 g2);have hend:=hide (fun(e:l.take l.length=m.take l.length)=>(by rw[List.take_length,hlen,List.take_length]at e;exact e:l=m));have hn1:((l.length:Int) !=(m.length:Int))=false:=(by rw[hlen];exact bne_self_eq_false _);have hle:=hide hlen;clear hlen;replace h1:=hide h1;replace h2:=hide h2;go_enter Tryz.func15,Tryz.ntmps15;go_wp2;go_loopw [5] (fun s5 wr=>∃k:Nat,k≤l.length∧s5= .int .i64 k∧Hid (l.take k=m.take k)∧Below w.heap.size w wr) (fun s5 _=>l.length-(intOf s5).toNat);case atStart=>exact⟨0,Nat.zero_le _,by go_num,hide (by simp),Below.refl _ _⟩
  case round=>
   obtain⟨k,hk,rfl,htk,hb⟩:=hrel;have hk1:(0:Int)≤(k:Int):=Int.natCast_nonneg _;by_cases hlt:k<l.length
   ·have hi2:(k:Int)<(l.length:Int):=(by omega);have g1:k<m.length:=(by rw[←hle.out];exact hlt);have hi3:(k:Int)<(m.length:Int):=(by omega);obtain⟨b1,o1,rfl,_,x0,x1,x2⟩:=aV.at_ h1.out hlt;obtain⟨b2,o2,rfl,_,y0,y1,y2⟩:=aV.at_ h2.out g1;replace x0:=(hb.cell (p:=⟨b1,o1+k*3,none⟩) (block_lt_of_cell x0)).trans x0;replace x1:=(hb.cell (p:=⟨b1,o1+k*3+1,none⟩) (block_lt_of_cell x1)).trans x1;replace x2:=(hb.cell (p:=⟨b1,o1+k*3+2,none⟩) (block_lt_of_cell x2)).trans x2;replace y0:=(hb.cell (p:=⟨b2,o2+k*3,none⟩) (block_lt_of_cell y0)).trans y0;replace y1:=(hb.cell (p:=⟨b2,o2+k*3+1,none⟩) (block_lt_of_cell y1)).trans y1;replace y2:=(hb.cell (p:=⟨b2,o2+k*3+2,none⟩) (block_lt_of_cell y2)).trans y2;have hn:=hide (hne.out k hlt g1);have hs:=hide (hst.out k hlt g1 htk.out);generalize l[k]=x at*;generalize m[k]=y at*;obtain⟨xk,xa,xb⟩:=x;obtain⟨yk,ya,yb⟩:=y;dsimp only at*;by_cases q0:xk=yk
    ·have q0b:(xk==yk)=true:=(by simpa using q0);by_cases q1:xa=ya
     ·have q1b:(xa==ya)=true:=(by simpa using q1);by_cases q2:xb=yb
      ·have q2b:(xb==yb)=true:=(by simpa using q2);have hr:=hide (hs.out (by rw[q0,q1,q2]));clear hn hs q0 q1 q2;go_wp2;go_quiet (fail);go_wp2;go_roundw;case rel=>exact⟨k+1,by omega,by go_num,hr,hb.trans ⟨rfl,rfl,rfl,Nat.le_refl _,fun _ _=>rfl⟩⟩
       case measure=>simp[intOf];omega
      ·have q2b:(xb==yb)=false:=(by simpa using q2);have hr2:Hid (decide (l=m)=false):=hide (decide_eq_false (hn.out (fun e=>q2 (by injection e))));clear hn hs q0 q1 q2;go_wp2;go_quiet (fail);go_wp2;go_ret;exact⟨bE hr2.out.symm,hb.trans ⟨rfl,rfl,rfl,Nat.le_refl _,fun _ _=>rfl⟩⟩
     ·have q1b:(xa==ya)=false:=(by simpa using q1);have hr2:Hid (decide (l=m)=false):=hide (decide_eq_false (hn.out (fun e=>q1 (by injection e))));clear hn hs q0 q1;go_wp2;go_quiet (fail);go_wp2;go_ret;exact⟨bE hr2.out.symm,hb.trans ⟨rfl,rfl,rfl,Nat.le_refl _,fun _ _=>rfl⟩⟩
    ·have q0b:(xk==yk)=false:=(by simpa using q0);have hr2:Hid (decide (l=m)=false):=hide (decide_eq_false (hn.out (fun e=>q0 (by injection e))));clear hn hs q0;go_wp2;go_quiet (fail);go_wp2;go_ret;exact⟨bE hr2.out.symm,hb.trans ⟨rfl,rfl,rfl,Nat.le_refl _,fun _ _=>rfl⟩⟩
   ·obtain rfl:k=l.length:=(by omega);have hr2:Hid (decide (l=m)=true):=hide (decide_eq_true (hend.out htk.out));go_wp2;go_ret;exact⟨bE hr2.out.symm,hb⟩
 ·have hn1:((l.length:Int) !=(m.length:Int))=true:=bne_iff_ne.2 (by omega);have hr2:Hid (decide (l=m)=false):=hide (decide_eq_false fun e=>hlen (by rw[e]));clear hlen;go_enter Tryz.func15,Tryz.ntmps15;go_wp2;go_ret;exact⟨bE hr2.out.symm,Below.refl _ _⟩
set_option maxHeartbeats 8000000
set_option maxRecDepth 100000 in
theorem Jz(A A':Option Addr)(c c':Nat)(l:List Mk)(w:World)(h:MkS w (Old w) (.slice A l.length c) l)(h':MkS w (Old w) (.slice A' l.length c') l)(hn:l.length≤1000000)(hd:∀m∈l,tJ m.done):
 Calls Tryz.prog 10 #[.slice A l.length c,.slice A' l.length c'] w fun e w'=>e= .returned (.bool true)∧Below w.heap.size w w':=by
 have hh:=hide (fun W (hb:Below w.heap.size w W)=>h.below hb);have hh':=hide (fun W (hb:Below w.heap.size w W)=>h'.below hb);replace hd:=hide fun i (hi:i<l.length)=>hd _ (List.getElem_mem hi);clear h h';go_enter Tryz.func10,Tryz.ntmps10;go_wp2_with fail;go_loopw [5] (fun s5 wr=>∃i:Nat,i≤l.length∧s5= .int .i64 i∧Below w.heap.size w wr) (fun s5 _=>l.length-(intOf s5).toNat);case atStart=>exact⟨0,Nat.zero_le _,by go_num,Below.refl _ _⟩
 case round=>
  obtain⟨i,hi,rfl,hb⟩:=hrel;obtain⟨Wr,rfl⟩:∃Wr,Wr=wr:=⟨_,rfl⟩;have hi0:(0:Int)≤(i:Int):=Int.natCast_nonneg _;by_cases hlt:i<l.length
  ·have hi1:(i:Int)<(l.length:Int):=(by omega);obtain⟨b,off,Ay,cy,rfl,hbK,d⟩:=(hh.out Wr hb).at_ hlt;obtain⟨b',off',Ay',cy',rfl,NQ,d'⟩:=(hh'.out Wr hb).at_ hlt;have hbk:b<Wr.heap.size:=hbK;have hbk':b'<Wr.heap.size:=NQ;have hfn:=hd.out i hlt;obtain⟨d0,d1,d2,d3,d4,d5⟩:=d;obtain⟨e0,e1,e2,e3,e4,e5⟩:=d';generalize l[i]=x at*;obtain⟨⟨xk,xa,xb⟩,xr,xd⟩:=x;dsimp only at d0 d1 d2 d3 d4 d5 e0 e1 e2 e3 e4 e5 hfn;have hcn:=hide (xG Ay Ay' cy cy' xd Wr.drew d5 e5 hfn);have hz:=hide (show(xr !=xr)=false by cases xr<;>rfl);clear d5 e5 hbK NQ;go_wp2_with fail;refine wp_region_still_tail 10 (by kernel_rfl) (by kernel_rfl) ?_;simp only[List.take_succ_cons,List.take_zero,List.drop_succ_cons,List.drop_zero];repeat still_step
   refine wpStill_nil ?_;go_wp2_with fail;refine hcn.out.mono ?_;rintro e w5 ⟨rfl,hb5⟩;have hb6:Below w.heap.size w w5:=hb.drew.trans (hb5.mono hb.size);have g0:=(hb5.cell (p:=⟨b,off+i*5,none⟩) hbk).trans d0;have g1:=(hb5.cell (p:=⟨b,off+i*5+1,none⟩) hbk).trans d1;have g2:=(hb5.cell (p:=⟨b,off+i*5+2,none⟩) hbk).trans d2;have g3:=(hb5.cell (p:=⟨b,off+i*5+3,none⟩) hbk).trans d3;have r0:=(hb5.cell (p:=⟨b',off'+i*5,none⟩) hbk').trans e0;have r1:=(hb5.cell (p:=⟨b',off'+i*5+1,none⟩) hbk').trans e1;have r2:=(hb5.cell (p:=⟨b',off'+i*5+2,none⟩) hbk').trans e2;have r3:=(hb5.cell (p:=⟨b',off'+i*5+3,none⟩) hbk').trans e3;have hz1:=hz.out;clear hcn d0 d1 d2 d3 d4 e0 e1 e2 e3 e4 hb5;go_upto_region 7 with fail;go_quiet (fail);go_wp2;go_roundw;case rel=>exact⟨i+1,by omega,by go_num,hb6.trans (jX.mono hb6.size)⟩
   case measure=>simp[intOf];omega
  ·obtain rfl:i=l.length:=(by omega);go_wp2;go_ret;exact⟨rfl,hb⟩
end Go.Proofs.YtpjechjoijjhpaaGreatDoor
