/-
  Walks: layer 19: kinds of edges.
-/
import Derived.Test.YtpjechjoijjhpaaGreatDoorZ09
import Derived.Test.YtpjechjoijjhpaaGreatDoorZ01
set_option linter.unusedVariables false
set_option linter.unusedSimpArgs false
namespace Go.Proofs.YtpjechjoijjhpaaGreatDoor
open Go.RowKit Go.Inq
set_option maxHeartbeats 8000000
attribute [local go_sem↓] Go.wp_at_zero Go.wp_at_succ
set_option maxRecDepth 100000 in
theorem nR(A:Option Addr)(c:Nat)(H:List Txn)(t:Nat)(key:Int)(w:World)(h:aC w (Old w) (.slice A H.length c) H)(hn:aA H)(ht:t<H.length):
 Calls Tryz.prog 212 #[.agg #[.slice A H.length c],.int .i64 (t:Int),.int .i64 key] w fun e w'=>e= .returned (.bool ((aP H t).writes.contains key))∧Below w.heap.size w w':=by
 obtain⟨W0,hW0⟩:∃W0,w.alloc (.cells #[.slice A H.length c] 24)=W0:=⟨_,rfl⟩;have hB:=ah (Below.refl w.heap.size w) hW0 (Nat.le_refl _);have k0:=Blk.newEq hW0;have hT:=h.below hB;have ht0:(0:Int)≤(t:Int):=Int.natCast_nonneg _;have ht1:(t:Int)<(H.length:Int):=(by omega);obtain⟨b,off,Aw,cw,Ar,cr,rfl,_,d0,d1,d2,hws,_⟩:=aC.at_ hT ht;have hwl:H[t].writes.length≤maxLen:=(by have:=(hn.2 _ (List.getElem_mem ht)).1;unfold maxLen;omega);have hc:=hide (fO Aw cw H[t].writes key (Old W0) W0 hws hwl);rw[aQ ht];generalize H[t].writes=L at*;generalize L.contains key=q at*;have c0:=Blk.n0 k0;replace hn:=hide hn;clear h hT hws;go_enter Tryz.func212,Tryz.ntmps212;go_wp2_with fail;clear hW0 c0 d0 d1 d2;refine hc.out.mono ?_;rintro e w1 ⟨rfl,rfl⟩;go_wp2;go_ret;exact⟨rfl,hB⟩
set_option maxRecDepth 100000 in
theorem Hq(A:Option Addr)(c:Nat)(H:List Txn)(x y:Nat)(v:Value)(w:World)(h:aC w (Old w) (.slice A H.length c) H)(hx:x<H.length)(hy:y<H.length):
 Calls Tryz.prog 204 #[.agg #[],.agg #[.slice A H.length c],.int .i64 (x:Int),.int .i64 (y:Int)] w fun e w'=>e= .returned (.bool (soE H x y))∧Below w.heap.size w w':=by
 have hx0:(0:Int)≤(x:Int):=Int.natCast_nonneg _;have hx1:(x:Int)<(H.length:Int):=(by omega);have hy0:(0:Int)≤(y:Int):=Int.natCast_nonneg _;have hy1:(y:Int)<(H.length:Int):=(by omega);have hso:soE H x y=(decide (x<y)&&decide (H[x].bL=H[y].bL)):=(by unfold soE;rw[aQ hx,aQ hy]);obtain⟨W0,hW0⟩:∃W0,(w.alloc (.cells #[] 227)).alloc (.cells #[.slice A H.length c] 24)=W0:=⟨_,rfl⟩;have hB:=aF hW0;have k1:=Blk.eP hW0;have hT:=h.below hB;obtain⟨b,off,Aw,cw,Ar,cr,rfl,_,d0,-,-,-,-⟩:=aC.at_ hT hx;obtain⟨b',off',Aw',cw',Ar',cr',e',_,d1,-,-,-,-⟩:=aC.at_ hT hy;injection e' with e'
 injection e' with e1 e2
 subst e1 e2;have c0:=Blk.n0 k1;rw[hso];generalize H[x].bL=sx at*;generalize H[y].bL=sy at*;have hbz:=hide (fun(nq:Nat)=>(hB.trans ⟨rfl,rfl,rfl,Nat.le_refl _,fun _ _=>rfl⟩:Below w.heap.size w (W0.drewN nq)));clear h hT hso;by_cases hlt:x<y
 ·have g1:decide (x<y)=true:=(by simpa using hlt);rw[g1,Bool.true_and];by_cases he:sx=sy
  ·subst he;have g2:decide (sx=sx)=true:=(by simp);rw[g2];go_enter Tryz.func204,Tryz.ntmps204;go_wp2;go_quiet (fail);go_wp2;go_ret;exact⟨rfl,hbz.out _⟩
  ·have g2:(sx==sy)=false:=(by simpa using he);have g3:decide (sx=sy)=false:=(by simpa using he);rw[g3];clear he g3;go_enter Tryz.func204,Tryz.ntmps204;go_wp2;go_quiet (fail);go_wp2;go_ret;exact⟨rfl,hbz.out _⟩
 ·have g1:decide (x<y)=false:=(by simpa using hlt);rw[g1,Bool.false_and];clear hlt;go_enter Tryz.func204,Tryz.ntmps204;go_wp2;go_quiet (fail);go_wp2;go_ret;exact⟨rfl,hbz.out _⟩
theorem KS(r:It)(x:Nat)(bx:Nat)(w:World)(hbx:w.cell? ⟨bx,0,none⟩=some (.int .i64 (x:Int))):
 Calls Tryz.prog 207 #[.agg #[.int .i64 r.a,.int .i64 r.b],.pointer (some ⟨bx,0,none⟩)] w fun e w'=>e= .returned (.bool (decide (r.b=(x:Int))))∧Below w.heap.size w w':=by
 obtain⟨ra,rb⟩:=r;dsimp only;obtain⟨W0,hW0⟩:∃W0,w.alloc (.cells #[.int .i64 ra,.int .i64 rb] 57)=W0:=⟨_,rfl⟩;have hB:=ah (Below.refl w.heap.size w) hW0 (Nat.le_refl _);have k0:=Blk.newEq hW0;have Xn:=(hB.cell (p:=⟨bx,0,none⟩) (block_lt_of_cell hbx)).trans hbx;have c0:=Blk.n0 k0;have c1:=Blk.n1 k0;have hq:decide (rb=(x:Int))=(rb==(x:Int)):=(by rw[Bool.eq_iff_iff];simp);rw[hq];obtain⟨q,hqe⟩:∃q,(rb==(x:Int))=q:=⟨_,rfl⟩;rw[hqe];clear hq hbx;go_enter Tryz.func207,Tryz.ntmps207;go_wp2;go_ret;exact⟨rfl,hB⟩
set_option maxRecDepth 100000 in
theorem Hr(A:Option Addr)(c:Nat)(H:List Txn)(x y:Nat)(w:World)(h:aC w (Old w) (.slice A H.length c) H)(hn:aA H)(hy:y<H.length):
 Calls Tryz.prog 205 #[.agg #[],.agg #[.slice A H.length c],.int .i64 (x:Int),.int .i64 (y:Int)] w fun e w'=>e= .returned (.bool (xS H x y))∧Below w.heap.size w w':=by
 have hy0:(0:Int)≤(y:Int):=Int.natCast_nonneg _;have hy1:(y:Int)<(H.length:Int):=(by omega);obtain⟨W0,hW0⟩:∃W0,((w.alloc (.cells #[] 228)).alloc (.cells #[.slice A H.length c] 24)).alloc (.cells #[.int .i64 (x:Int)] 3)=W0:=⟨_,rfl⟩;have hB:=gJ hW0;have k1:=Blk.sj hW0;have k2:=Blk.su hW0;have hT:=h.below hB;obtain⟨b,off,Aw,cw,Ar,cr,rfl,_,d0,d1,d2,-,hrs⟩:=aC.at_ hT hy;have hrl:H[y].reads.length≤1000000:=(hn.2 _ (List.getElem_mem hy)).2;have hc:=hide (qd 207 (enters_of Tryz.func207 (by kernel_rfl) rfl) #[.pointer (some ⟨w.heap.size+1+1,0,none⟩)] (fun r=>decide (r.b=(x:Int))) Ar cr H[y].reads W0 hrs (by omega) (fun W hbW r _=>KS r x _ W (by have:=(k2.below hbW k2.lt).cell 0;simpa using this)));have hre:xS H x y=H[y].reads.any fun r=>decide (r.b=(x:Int)):=(by unfold xS;rw[aQ hy]);rw[hre];generalize H[y].reads=R at*;generalize(R.any fun r=>decide (r.b=(x:Int)))=q at*;have c0:=Blk.n0 k1;clear h hT hrs hre;go_enter Tryz.func205,Tryz.ntmps205;go_wp2_with fail;refine hc.out.mono ?_;rintro e w1 ⟨rfl,hb1⟩;go_wp2;go_ret;exact⟨rfl,hB.trans (hb1.mono hB.size)⟩
set_option maxRecDepth 100000 in
theorem KT (A:Option Addr) (c:Nat) (H:List Txn) (ch:Cho) (x y:Nat) (bx by' bh:Nat) (w:World) (h:aC w (Old w) (.slice A H.length c) H) (hn:aA H) (hx:x<H.length) (hy:y<H.length)
 (hbx:w.cell? ⟨bx,0,none⟩=some (.int .i64 (x:Int))) (hby:w.cell? ⟨by',0,none⟩=some (.int .i64 (y:Int))) (hbh:w.cell? ⟨bh,0,none⟩=some (.slice A H.length c)):
 Calls Tryz.prog 211 #[.agg #[.int .i64 ch.key,.int .i64 ch.a,.int .i64 ch.b],.pointer (some ⟨bx,0,none⟩),.pointer (some ⟨by',0,none⟩),.pointer (some ⟨bh,0,none⟩)] w fun e w'=>e= .returned (.bool (ku H x y ch))∧Below w.heap.size w w':=by
 obtain⟨key,a,b⟩:=ch;dsimp only;obtain⟨W0,hW0⟩:∃W0,w.alloc (.cells #[.int .i64 key,.int .i64 a,.int .i64 b] 62)=W0:=⟨_,rfl⟩;have hB:=ah (Below.refl w.heap.size w) hW0 (Nat.le_refl _);have k0:=Blk.newEq hW0;have e0:=(hB.cell (p:=⟨bx,0,none⟩) (block_lt_of_cell hbx)).trans hbx;have e1:=(hB.cell (p:=⟨by',0,none⟩) (block_lt_of_cell hby)).trans hby;have e2:=(hB.cell (p:=⟨bh,0,none⟩) (block_lt_of_cell hbh)).trans hbh;have hT:=hide (h.below hB);have c0:=Blk.n0 k0;have c1:=Blk.n1 k0;have c2:=Blk.n2 k0;have hp:Hid (ku H x y ⟨key,a,b⟩=(decide (a=(x:Int))&&decide (b=(y:Int))&&decide (x≠y)&&(aP H x).writes.contains key&&(aP H y).writes.contains key)):=hide rfl;obtain⟨r,hr⟩:∃r,ku H x y ⟨key,a,b⟩=r:=⟨_,rfl⟩;rw[hr]at hp;rw[hr];clear h hbx hby hbh hr;by_cases h1:a=(x:Int)
 ·have g1:(a==(x:Int))=true:=(by simpa using h1);by_cases h2:b=(y:Int)
  ·have g2:(b==(y:Int))=true:=(by simpa using h2);by_cases h3:x=y
   ·have hre:r=false:=(by rw[hp.out];simp[h3]);have g3:((x:Int) !=(y:Int))=false:=(by simp[h3]);have g4:(x !=y)=false:=(by simp[h3]);subst hre;clear h1 h2 h3;clear hp;go_enter Tryz.func211,Tryz.ntmps211;go_wp2;go_ret;exact⟨rfl,hB⟩
   ·have g3:((x:Int) !=(y:Int))=true:=(by simp;omega);have g4:(x !=y)=true:=(by simp[h3]);have hp2:=hide (show r=((aP H x).writes.contains key&&(aP H y).writes.contains key) by rw[hp.out];simp[h1,h2,h3]);have hw1:=hide (nR A c H x key W0 hT.out hn hx);have hw2:=hide (fun W (hb:Below W0.heap.size W0 W)=>nR A c H y key W (hT.out.below hb) hn hy);generalize(aP H x).writes.contains key=q1 at*;generalize(aP H y).writes.contains key=q2 at*;clear h1 h2 h3 hp;go_enter Tryz.func211,Tryz.ntmps211;go_wp2_with fail;refine hw1.out.mono ?_;rintro e w1 ⟨rfl,hb1⟩;have e1':=(hb1.cell (p:=⟨by',0,none⟩) (block_lt_of_cell e1)).trans e1;have e2':=(hb1.cell (p:=⟨bh,0,none⟩) (block_lt_of_cell e2)).trans e2;have c0':=(hb1.cell (p:=⟨w.heap.size,0,none⟩) k0.lt).trans c0;have hw3:=hide (hw2.out w1 hb1);have hb2:=hB.trans (hb1.mono hB.size);clear hW0 hw1 hw2 e0 e1 e2 c0 c1 c2;cases q1 with
    |false=>
     have hre:r=false:=(by rw[hp2.out];rfl);subst hre;clear hp2;go_wp2;go_ret;exact⟨rfl,hb2⟩
    |true=>
     have hre:r=q2:=(by rw[hp2.out];rfl);subst hre;clear hp2;go_wp2_with fail;refine hw3.out.mono ?_;rintro e w2 ⟨rfl,hb3⟩;go_wp2;go_ret;exact⟨rfl,hb2.trans (hb3.mono hb2.size)⟩
  ·have g2:(b==(y:Int))=false:=(by simpa using h2);have hre:r=false:=(by rw[hp.out];simp[h2]);subst hre;clear h1 h2;clear hp;go_enter Tryz.func211,Tryz.ntmps211;go_wp2;go_ret;exact⟨rfl,hB⟩
 ·have g1:(a==(x:Int))=false:=(by simpa using h1);have hre:r=false:=(by rw[hp.out];simp[h1]);subst hre;clear h1;clear hp;go_enter Tryz.func211,Tryz.ntmps211;go_wp2;go_ret;exact⟨rfl,hB⟩
set_option maxRecDepth 100000 in
theorem Ht(A:Option Addr)(c:Nat)(H:List Txn)(Al:Option Addr)(cl:Nat)(l:List Cho)(x y:Nat)(w:World)(h:aC w (Old w) (.slice A H.length c) H)(hn:aA H)(hl:aV w (Old w) (.slice Al l.length cl) l)(hln:l.length≤1000000000)(hx:x<H.length)(hy:y<H.length):
 Calls Tryz.prog 209 #[.slice Al l.length cl,.agg #[.slice A H.length c],.int .i64 (x:Int),.int .i64 (y:Int)] w fun e w'=>e= .returned (.bool (mq H l x y))∧Below w.heap.size w w':=by
 obtain⟨W0,hW0⟩:∃W0,((w.alloc (.cells #[.slice A H.length c] 24)).alloc (.cells #[.int .i64 (x:Int)] 3)).alloc (.cells #[.int .i64 (y:Int)] 3)=W0:=⟨_,rfl⟩;have hB:=gJ hW0;have k0:=Blk.vK hW0;have k1:=Blk.sj hW0;have k2:=Blk.su hW0;have hT:=hide (h.below hB);have hc:=hide (y5 211 (enters_of Tryz.func211 (by kernel_rfl) rfl) #[.pointer (some ⟨w.heap.size+1,0,none⟩),.pointer (some ⟨w.heap.size+1+1,0,none⟩),.pointer (some ⟨w.heap.size,0,none⟩)] (ku H x y) Al cl l W0 (hl.below hB) hln (fun W hbW ch _=>KT A c H ch x y _ _ _ W (hT.out.below hbW) hn hx hy (by have:=(k1.below hbW k1.lt).cell 0;simpa using this) (by have:=(k2.below hbW k2.lt).cell 0;simpa using this) (by have:=(k0.below hbW k0.lt).cell 0;simpa using this)));have hre:Hid (mq H l x y=l.any (ku H x y)):=hide rfl;rw[hre.out];generalize l.any (ku H x y)=q at*;clear h hl hre;go_enter Tryz.func209,Tryz.ntmps209;go_wp2_with fail;refine hc.out.mono ?_;rintro e w1 ⟨rfl,hb1⟩;go_wp2;go_ret;exact⟨rfl,hB.trans (hb1.mono hB.size)⟩
set_option maxHeartbeats 2000000
theorem NU(x:Cho)(k a b:Int):decide (x=⟨k,a,b⟩)=(decide (x.key=k)&&decide (x.a=a)&&decide (x.b=b)):=by
 obtain⟨k',a',b'⟩:=x;rw[Bool.eq_iff_iff];simp[and_assoc]
theorem EL(A:Option Addr)(c:Nat)(l:List Cho)(xk xa xb:Int)(w:World)(h:aV w (Old w) (.slice A l.length c) l)(hl:l.length≤1000000000):
 Calls Tryz.prog 217 #[.slice A l.length c,.agg #[.int .i64 xk,.int .i64 xa,.int .i64 xb]] w fun e w'=>e= .returned (.int .i64 (vO (fun x:Cho=>decide (x=⟨xk,xa,xb⟩)) l))∧Below w.heap.size w w':=by
 have hhit:=hide (fun k=>kQ (p:=fun x:Cho=>decide (x=⟨xk,xa,xb⟩)) (l:=l) (k:=k));have hnone:=hide (jq (p:=fun x:Cho=>decide (x=⟨xk,xa,xb⟩)) (l:=l));obtain⟨W0,hW0⟩:∃W0,w.alloc (.cells #[.int .i64 xk,.int .i64 xa,.int .i64 xb] 62)=W0:=⟨_,rfl⟩;have hB:=ah (Below.refl w.heap.size w) hW0 (Nat.le_refl _);have k0:=Blk.newEq hW0;replace h:=hide h;go_enter Tryz.func217,Tryz.ntmps217;go_wp2_with fail;clear hW0;go_loopw [8] (fun s8 wr=>∃k:Nat,k≤l.length∧s8= .int .i64 k∧Hid (∀j (hj:j<l.length),j<k→decide (l[j]=⟨xk,xa,xb⟩)=false)∧Below w.heap.size w wr∧Blk wr w.heap.size 62 #[.int .i64 xk,.int .i64 xa,.int .i64 xb]) (fun s8 _=>l.length-(intOf s8).toNat);case atStart=>exact⟨0,Nat.zero_le _,by go_num,fun j hj h=>absurd h (by omega),hB,k0⟩
 case round=>
  clear k0 hB;obtain⟨k,hk,rfl,hall,hb,k0⟩:=hrel;have hk1:(0:Int)≤(k:Int):=Int.natCast_nonneg _;by_cases hlt:k<l.length
  ·have hi2:(k:Int)<(l.length:Int):=(by omega);obtain⟨b,off,rfl,_,d0,d1,d2⟩:=(h.out.below hb).at_ hlt;have hh:=hide (fun g=>hhit.out k hlt g hall.out);have hst:Hid (decide (l[k]=⟨xk,xa,xb⟩)=false→∀j (hj:j<l.length),j<k+1→decide (l[j]=⟨xk,xa,xb⟩)=false):=fun g j hj hjk=>by
    by_cases e:j=k
    ·subst e;exact g
    ·exact hall.out j hj (by omega)
   have c0:=Blk.n0 k0;have c1:=Blk.n1 k0;have c2:=Blk.n2 k0;clear hall;generalize l[k]=x at*;obtain⟨yk,ya,yb⟩:=x;dsimp only at*;rw[NU]at hh hst;dsimp only at hh hst;by_cases q0:xk=yk
   ·have q0b:(xk==yk)=true:=(by simpa using q0);by_cases q1:xa=ya
    ·have q1b:(xa==ya)=true:=(by simpa using q1);by_cases q2:xb=yb
     ·have q2b:(xb==yb)=true:=(by simpa using q2);have hr:=hide (hh.out (by simp[q0,q1,q2]));clear q0 q1 q2 hh hst;go_wp2;go_quiet (fail);go_wp2;go_ret;exact⟨dV hr.out.symm,hb.trans ⟨rfl,rfl,rfl,Nat.le_refl _,fun _ _=>rfl⟩⟩
     ·have q2b:(xb==yb)=false:=(by simpa using q2);have hr:=hide (hst.out (by simp[q0,q1,Ne.symm q2]));clear q0 q1 q2;clear hh hst;go_wp2;go_quiet (fail);go_wp2;go_roundw;case rel=>exact⟨k+1,by omega,by go_num,hr,hb.trans ⟨rfl,rfl,rfl,Nat.le_refl _,fun _ _=>rfl⟩,k0⟩
      case measure=>simp[intOf];omega
    ·have q1b:(xa==ya)=false:=(by simpa using q1);have hr:=hide (hst.out (by simp[Ne.symm q1]));clear q0 q1;clear hh hst;go_wp2;go_quiet (fail);go_wp2;go_roundw;case rel=>exact⟨k+1,by omega,by go_num,hr,hb.trans ⟨rfl,rfl,rfl,Nat.le_refl _,fun _ _=>rfl⟩,k0⟩
     case measure=>simp[intOf];omega
   ·have q0b:(xk==yk)=false:=(by simpa using q0);have hr:=hide (hst.out (by simp[Ne.symm q0]));clear q0;clear hh hst;go_wp2;go_quiet (fail);go_wp2;go_roundw;case rel=>exact⟨k+1,by omega,by go_num,hr,hb.trans ⟨rfl,rfl,rfl,Nat.le_refl _,fun _ _=>rfl⟩,k0⟩
    case measure=>simp[intOf];omega
  ·have hr:=hide (hnone.out fun j hj=>hall.out j hj (by omega));go_wp2;go_ret;exact⟨dV hr.out.symm,hb⟩
theorem zh(A:Option Addr)(c:Nat)(l:List Cho)(xk xa xb:Int)(w:World)(h:aV w (Old w) (.slice A l.length c) l)(hl:l.length≤1000000000):
 Calls Tryz.prog 216 #[.slice A l.length c,.agg #[.int .i64 xk,.int .i64 xa,.int .i64 xb]] w fun e w'=>e= .returned (.bool (l.any fun x=>decide (x=⟨xk,xa,xb⟩)))∧Below w.heap.size w w':=by
 have hd:=hide (kS (fun x:Cho=>decide (x=⟨xk,xa,xb⟩)) l);obtain⟨W0,hW0⟩:∃W0,w.alloc (.cells #[.int .i64 xk,.int .i64 xa,.int .i64 xb] 62)=W0:=⟨_,rfl⟩;have hB:=ah (Below.refl w.heap.size w) hW0 (Nat.le_refl _);have h0:=h.below hB;have hcall:=hide (EL A c l xk xa xb W0 h0 hl);have k0:=Blk.newEq hW0;clear h h0;have c0:=Blk.n0 k0;have c1:=Blk.n1 k0;have c2:=Blk.n2 k0;go_enter Tryz.func216,Tryz.ntmps216;go_wp2_with fail;clear hW0 c0 c1 c2;refine hcall.out.mono ?_;rintro e w1 ⟨rfl,hb⟩;clear hcall;go_wp2;go_ret;exact⟨by rw[←hd.out];rfl,hB.trans (hb.mono hB.size)⟩
theorem EM(A:Option Addr)(c:Nat)(l:List Cho)(xk xa xb:Int)(w:World)(h:aV w (Old w) (.slice A l.length c) l)(hl:l.length≤1000000000):
 Calls Tryz.prog 103 #[.slice A l.length c,.agg #[.int .i64 xk,.int .i64 xa,.int .i64 xb]] w fun e w'=>e= .returned (.int .i64 (vO (fun x:Cho=>decide (x=⟨xk,xa,xb⟩)) l))∧Below w.heap.size w w':=by
 have hhit:=hide (fun k=>kQ (p:=fun x:Cho=>decide (x=⟨xk,xa,xb⟩)) (l:=l) (k:=k));have hnone:=hide (jq (p:=fun x:Cho=>decide (x=⟨xk,xa,xb⟩)) (l:=l));obtain⟨W0,hW0⟩:∃W0,w.alloc (.cells #[.int .i64 xk,.int .i64 xa,.int .i64 xb] 62)=W0:=⟨_,rfl⟩;have hB:=ah (Below.refl w.heap.size w) hW0 (Nat.le_refl _);have k0:=Blk.newEq hW0;replace h:=hide h;go_enter Tryz.func103,Tryz.ntmps103;go_wp2_with fail;clear hW0;go_loopw [8] (fun s8 wr=>∃k:Nat,k≤l.length∧s8= .int .i64 k∧Hid (∀j (hj:j<l.length),j<k→decide (l[j]=⟨xk,xa,xb⟩)=false)∧Below w.heap.size w wr∧Blk wr w.heap.size 62 #[.int .i64 xk,.int .i64 xa,.int .i64 xb]) (fun s8 _=>l.length-(intOf s8).toNat);case atStart=>exact⟨0,Nat.zero_le _,by go_num,fun j hj h=>absurd h (by omega),hB,k0⟩
 case round=>
  clear k0 hB;obtain⟨k,hk,rfl,hall,hb,k0⟩:=hrel;have hk1:(0:Int)≤(k:Int):=Int.natCast_nonneg _;by_cases hlt:k<l.length
  ·have hi2:(k:Int)<(l.length:Int):=(by omega);obtain⟨b,off,rfl,_,d0,d1,d2⟩:=(h.out.below hb).at_ hlt;have hh:=hide (fun g=>hhit.out k hlt g hall.out);have hst:Hid (decide (l[k]=⟨xk,xa,xb⟩)=false→∀j (hj:j<l.length),j<k+1→decide (l[j]=⟨xk,xa,xb⟩)=false):=fun g j hj hjk=>by
    by_cases e:j=k
    ·subst e;exact g
    ·exact hall.out j hj (by omega)
   have c0:=Blk.n0 k0;have c1:=Blk.n1 k0;have c2:=Blk.n2 k0;clear hall;generalize l[k]=x at*;obtain⟨yk,ya,yb⟩:=x;dsimp only at*;rw[NU]at hh hst;dsimp only at hh hst;by_cases q0:xk=yk
   ·have q0b:(xk==yk)=true:=(by simpa using q0);by_cases q1:xa=ya
    ·have q1b:(xa==ya)=true:=(by simpa using q1);by_cases q2:xb=yb
     ·have q2b:(xb==yb)=true:=(by simpa using q2);have hr:=hide (hh.out (by simp[q0,q1,q2]));clear q0 q1 q2 hh hst;go_wp2;go_quiet (fail);go_wp2;go_ret;exact⟨dV hr.out.symm,hb.trans ⟨rfl,rfl,rfl,Nat.le_refl _,fun _ _=>rfl⟩⟩
     ·have q2b:(xb==yb)=false:=(by simpa using q2);have hr:=hide (hst.out (by simp[q0,q1,Ne.symm q2]));clear q0 q1 q2;clear hh hst;go_wp2;go_quiet (fail);go_wp2;go_roundw;case rel=>exact⟨k+1,by omega,by go_num,hr,hb.trans ⟨rfl,rfl,rfl,Nat.le_refl _,fun _ _=>rfl⟩,k0⟩
      case measure=>simp[intOf];omega
    ·have q1b:(xa==ya)=false:=(by simpa using q1);have hr:=hide (hst.out (by simp[Ne.symm q1]));clear q0 q1;clear hh hst;go_wp2;go_quiet (fail);go_wp2;go_roundw;case rel=>exact⟨k+1,by omega,by go_num,hr,hb.trans ⟨rfl,rfl,rfl,Nat.le_refl _,fun _ _=>rfl⟩,k0⟩
     case measure=>simp[intOf];omega
   ·have q0b:(xk==yk)=false:=(by simpa using q0);have hr:=hide (hst.out (by simp[Ne.symm q0]));clear q0;clear hh hst;go_wp2;go_quiet (fail);go_wp2;go_roundw;case rel=>exact⟨k+1,by omega,by go_num,hr,hb.trans ⟨rfl,rfl,rfl,Nat.le_refl _,fun _ _=>rfl⟩,k0⟩
    case measure=>simp[intOf];omega
  ·have hr:=hide (hnone.out fun j hj=>hall.out j hj (by omega));go_wp2;go_ret;exact⟨dV hr.out.symm,hb⟩
theorem zi(A:Option Addr)(c:Nat)(l:List Cho)(xk xa xb:Int)(w:World)(h:aV w (Old w) (.slice A l.length c) l)(hl:l.length≤1000000000):
 Calls Tryz.prog 58 #[.slice A l.length c,.agg #[.int .i64 xk,.int .i64 xa,.int .i64 xb]] w fun e w'=>e= .returned (.bool (l.any fun x=>decide (x=⟨xk,xa,xb⟩)))∧Below w.heap.size w w':=by
 have hd:=hide (kS (fun x:Cho=>decide (x=⟨xk,xa,xb⟩)) l);obtain⟨W0,hW0⟩:∃W0,w.alloc (.cells #[.int .i64 xk,.int .i64 xa,.int .i64 xb] 62)=W0:=⟨_,rfl⟩;have hB:=ah (Below.refl w.heap.size w) hW0 (Nat.le_refl _);have h0:=h.below hB;have hcall:=hide (EM A c l xk xa xb W0 h0 hl);have k0:=Blk.newEq hW0;clear h h0;have c0:=Blk.n0 k0;have c1:=Blk.n1 k0;have c2:=Blk.n2 k0;go_enter Tryz.func58,Tryz.ntmps58;go_wp2_with fail;clear hW0 c0 c1 c2;refine hcall.out.mono ?_;rintro e w1 ⟨rfl,hb⟩;clear hcall;go_wp2;go_ret;exact⟨by rw[←hd.out];rfl,hB.trans (hb.mono hB.size)⟩
set_option maxHeartbeats 8000000
set_option maxRecDepth 100000 in
theorem KU (A:Option Addr) (c:Nat) (H:List Txn) (Al:Option Addr) (cl:Nat) (l:List Cho) (r:It) (y:Nat) (bh by' bl:Nat) (w:World) (h:aC w (Old w) (.slice A H.length c) H) (hn:aA H) (hl:aV w (Old w) (.slice Al l.length cl) l) (hln:l.length≤1000000000) (hy:y<H.length)
 (hbh:w.cell? ⟨bh,0,none⟩=some (.slice A H.length c)) (hby:w.cell? ⟨by',0,none⟩=some (.int .i64 (y:Int))) (hbl:w.cell? ⟨bl,0,none⟩=some (.slice Al l.length cl)):
 Calls Tryz.prog 215 #[.agg #[.int .i64 r.a,.int .i64 r.b],.pointer (some ⟨bh,0,none⟩),.pointer (some ⟨by',0,none⟩),.pointer (some ⟨bl,0,none⟩)] w fun e w'=>e= .returned (.bool (kD H l y r))∧Below w.heap.size w w':=by
 obtain⟨ra,rb⟩:=r;dsimp only;obtain⟨W0,hW0⟩:∃W0,w.alloc (.cells #[.int .i64 ra,.int .i64 rb] 57)=W0:=⟨_,rfl⟩;have hB:=ah (Below.refl w.heap.size w) hW0 (Nat.le_refl _);have k0:=Blk.newEq hW0;have e0:=(hB.cell (p:=⟨bh,0,none⟩) (block_lt_of_cell hbh)).trans hbh;have e1:=(hB.cell (p:=⟨by',0,none⟩) (block_lt_of_cell hby)).trans hby;have e2:=(hB.cell (p:=⟨bl,0,none⟩) (block_lt_of_cell hbl)).trans hbl;have hT:=h.below hB;have hL:=hide (hl.below hB);have c0:=Blk.n0 k0;have c1:=Blk.n1 k0;have hp:Hid (kD H l y ⟨ra,rb⟩=((aP H y).writes.contains ra&&(decide (rb<0)||(decide (rb≠(y:Int))&&l.any fun c=>decide (c=⟨ra,rb,y⟩))))):=hide rfl;obtain⟨q,hq⟩:∃q,kD H l y ⟨ra,rb⟩=q:=⟨_,rfl⟩;rw[hq]at hp;rw[hq];have hw1:=hide (nR A c H y ra W0 hT hn hy);have hco:=hide (fun W (hb:Below W0.heap.size W0 W)=>zh Al cl l ra rb (y:Int) W (hL.out.below hb) hln);generalize(aP H y).writes.contains ra=q1 at*;generalize(l.any fun c=>decide (c=⟨ra,rb,(y:Int)⟩))=q2 at*;clear h hl hbh hby hbl hq hT;go_enter Tryz.func215,Tryz.ntmps215;go_wp2_with fail;refine hw1.out.mono ?_;rintro e w1 ⟨rfl,hb1⟩;have hb2:=hB.trans (hb1.mono hB.size);have c0':=(hb1.cell (p:=⟨w.heap.size,0,none⟩) k0.lt).trans c0;have c1':=(hb1.cell (p:=⟨w.heap.size,1,none⟩) k0.lt).trans c1;have e1':=(hb1.cell (p:=⟨by',0,none⟩) (block_lt_of_cell e1)).trans e1;have e2':=(hb1.cell (p:=⟨bl,0,none⟩) (block_lt_of_cell e2)).trans e2;have hc2:=hide (hco.out w1 hb1);clear hW0 hw1 hco c0 c1 e0 e1 e2;cases q1 with
 |false=>
  have hre:q=false:=(by rw[hp.out];rfl);subst hre;clear hp hc2;go_wp2;go_ret;exact⟨rfl,hb2⟩
 |true=>
  by_cases h1:rb<0
  ·have hre:q=true:=(by rw[hp.out,decide_eq_true h1];rfl);have g1:decide (rb<0)=true:=(by simpa using h1);subst hre;clear hp hc2;go_wp2;go_ret;exact⟨rfl,hb2⟩
  ·have g1:decide (rb<0)=false:=(by simpa using h1);by_cases h2:rb=(y:Int)
   ·have hre:q=false:=(by rw[hp.out,decide_eq_false h1];simp[h2]);have g2:(rb !=(y:Int))=false:=(by simp[h2]);subst hre;clear hp hc2 h1 h2;go_wp2;go_ret;exact⟨rfl,hb2⟩
   ·have hre:q=q2:=(by rw[hp.out,decide_eq_false h1];simp[h2]);have g2:(rb !=(y:Int))=true:=(by simpa using h2);subst hre;clear hp h1 h2;go_wp2_with fail;refine hc2.out.mono ?_;rintro e w2 ⟨rfl,hb3⟩;go_wp2;go_ret;exact⟨rfl,hb2.trans (hb3.mono hb2.size)⟩
set_option maxRecDepth 100000 in
theorem Hu(A:Option Addr)(c:Nat)(H:List Txn)(Al:Option Addr)(cl:Nat)(l:List Cho)(x y:Nat)(w:World)(h:aC w (Old w) (.slice A H.length c) H)(hn:aA H)(hl:aV w (Old w) (.slice Al l.length cl) l)(hln:l.length≤1000000000)(hx:x<H.length)(hy:y<H.length):
 Calls Tryz.prog 214 #[.slice Al l.length cl,.agg #[.slice A H.length c],.int .i64 (x:Int),.int .i64 (y:Int)] w fun e w'=>e= .returned (.bool (pJ H l x y))∧Below w.heap.size w w':=by
 have hx0:(0:Int)≤(x:Int):=Int.natCast_nonneg _;have hx1:(x:Int)<(H.length:Int):=(by omega);obtain⟨W0,hW0⟩:∃W0,((w.alloc (.cells #[.slice Al l.length cl] 230)).alloc (.cells #[.slice A H.length c] 24)).alloc (.cells #[.int .i64 (y:Int)] 3)=W0:=⟨_,rfl⟩;have hB:=gJ hW0;have k0:=Blk.vK hW0;have k1:=Blk.sj hW0;have k2:=Blk.su hW0;have hT:=hide (h.below hB);have hL:=hide (hl.below hB);obtain⟨b,off,Aw,cw,Ar,cr,rfl,_,d0,d1,d2,-,hrs⟩:=aC.at_ hT.out hx;have hrl:H[x].reads.length≤1000000:=(hn.2 _ (List.getElem_mem hx)).2;have hc:=hide (qd 215 (enters_of Tryz.func215 (by kernel_rfl) rfl) #[.pointer (some ⟨w.heap.size+1,0,none⟩),.pointer (some ⟨w.heap.size+1+1,0,none⟩),.pointer (some ⟨w.heap.size,0,none⟩)] (kD H l y) Ar cr H[x].reads W0 hrs (by omega) (fun W hbW r _=>KU _ c H Al cl l r y _ _ _ W (hT.out.below hbW) hn (hL.out.below hbW) hln hy (by have:=(k1.below hbW k1.lt).cell 0;simpa using this) (by have:=(k2.below hbW k2.lt).cell 0;simpa using this) (by have:=(k0.below hbW k0.lt).cell 0;simpa using this)));have hre:pJ H l x y=(decide (x≠y)&&H[x].reads.any (kD H l y)):=(by unfold pJ;rw[aQ hx]);rw[hre];generalize H[x].reads=R at*;generalize R.any (kD H l y)=q at*;have c0:=Blk.n0 k1;have c1:=Blk.n0 k2;clear h hl hrs hre;by_cases hxy:x=y
 ·have g1:((x:Int) !=(y:Int))=false:=(by simp[hxy]);have g2:(x !=y)=false:=(by simp[hxy]);have hq:(decide (x≠y)&&q)=false:=(by simp[hxy]);rw[hq];clear hc hxy hq;go_enter Tryz.func214,Tryz.ntmps214;go_wp2;go_ret;exact⟨rfl,hB⟩
 ·have g1:((x:Int) !=(y:Int))=true:=(by simp;omega);have g2:(x !=y)=true:=(by simp[hxy]);have hq:(decide (x≠y)&&q)=q:=(by simp[hxy]);rw[hq];clear hxy hq;go_enter Tryz.func214,Tryz.ntmps214;go_wp2_with fail;refine hc.out.mono ?_;rintro e w1 ⟨rfl,hb1⟩;go_wp2;go_ret;exact⟨rfl,hB.trans (hb1.mono hB.size)⟩
set_option maxRecDepth 100000 in
theorem KV (A:Option Addr) (c:Nat) (H:List Txn) (Al:Option Addr) (cl:Nat) (l:List Cho) (x y:Nat) (bh bx by':Nat) (w:World) (h:aC w (Old w) (.slice A H.length c) H) (hn:aA H) (hl:aV w (Old w) (.slice Al l.length cl) l) (hln:l.length≤1000000000) (hx:x<H.length) (hy:y<H.length)
 (hbh:w.cell? ⟨bh,0,none⟩=some (.slice A H.length c)) (hbx:w.cell? ⟨bx,0,none⟩=some (.int .i64 (x:Int))) (hby:w.cell? ⟨by',0,none⟩=some (.int .i64 (y:Int))):
 Calls Tryz.prog 185 #[.iface 227 (.agg #[]),.pointer (some ⟨bh,0,none⟩),.pointer (some ⟨bx,0,none⟩),.pointer (some ⟨by',0,none⟩)] w fun e w'=>e= .returned (.bool (soE H x y))∧Below w.heap.size w w':=by
 have hc:=hide (Hq A c H x y undef w h hx hy);clear h hl;go_enter Tryz.func185,Tryz.ntmps185;go_wp2_with fail;refine hc.out.mono ?_;rintro e w1 ⟨rfl,hb1⟩;go_wp2;go_ret;exact⟨rfl,hb1⟩
set_option maxRecDepth 100000 in
theorem KW (A:Option Addr) (c:Nat) (H:List Txn) (Al:Option Addr) (cl:Nat) (l:List Cho) (x y:Nat) (bh bx by':Nat) (w:World) (h:aC w (Old w) (.slice A H.length c) H) (hn:aA H) (hl:aV w (Old w) (.slice Al l.length cl) l) (hln:l.length≤1000000000) (hx:x<H.length) (hy:y<H.length)
 (hbh:w.cell? ⟨bh,0,none⟩=some (.slice A H.length c)) (hbx:w.cell? ⟨bx,0,none⟩=some (.int .i64 (x:Int))) (hby:w.cell? ⟨by',0,none⟩=some (.int .i64 (y:Int))):
 Calls Tryz.prog 185 #[.iface 228 (.agg #[]),.pointer (some ⟨bh,0,none⟩),.pointer (some ⟨bx,0,none⟩),.pointer (some ⟨by',0,none⟩)] w fun e w'=>e= .returned (.bool (xS H x y))∧Below w.heap.size w w':=by
 have hc:=hide (Hr A c H x y w h hn hy);clear h hl;go_enter Tryz.func185,Tryz.ntmps185;go_wp2_with fail;refine hc.out.mono ?_;rintro e w1 ⟨rfl,hb1⟩;go_wp2;go_ret;exact⟨rfl,hb1⟩
set_option maxRecDepth 100000 in
theorem KX (A:Option Addr) (c:Nat) (H:List Txn) (Al:Option Addr) (cl:Nat) (l:List Cho) (x y:Nat) (bh bx by':Nat) (w:World) (h:aC w (Old w) (.slice A H.length c) H) (hn:aA H) (hl:aV w (Old w) (.slice Al l.length cl) l) (hln:l.length≤1000000000) (hx:x<H.length) (hy:y<H.length)
 (hbh:w.cell? ⟨bh,0,none⟩=some (.slice A H.length c)) (hbx:w.cell? ⟨bx,0,none⟩=some (.int .i64 (x:Int))) (hby:w.cell? ⟨by',0,none⟩=some (.int .i64 (y:Int))):
 Calls Tryz.prog 185 #[.iface 229 (.slice Al l.length cl),.pointer (some ⟨bh,0,none⟩),.pointer (some ⟨bx,0,none⟩),.pointer (some ⟨by',0,none⟩)] w fun e w'=>e= .returned (.bool (mq H l x y))∧Below w.heap.size w w':=by
 have hc:=hide (Ht A c H Al cl l x y w h hn hl hln hx hy);clear h hl;go_enter Tryz.func185,Tryz.ntmps185;go_wp2_with fail;refine hc.out.mono ?_;rintro e w1 ⟨rfl,hb1⟩;go_wp2;go_ret;exact⟨rfl,hb1⟩
set_option maxRecDepth 100000 in
theorem KY (A:Option Addr) (c:Nat) (H:List Txn) (Al:Option Addr) (cl:Nat) (l:List Cho) (x y:Nat) (bh bx by':Nat) (w:World) (h:aC w (Old w) (.slice A H.length c) H) (hn:aA H) (hl:aV w (Old w) (.slice Al l.length cl) l) (hln:l.length≤1000000000) (hx:x<H.length) (hy:y<H.length)
 (hbh:w.cell? ⟨bh,0,none⟩=some (.slice A H.length c)) (hbx:w.cell? ⟨bx,0,none⟩=some (.int .i64 (x:Int))) (hby:w.cell? ⟨by',0,none⟩=some (.int .i64 (y:Int))):
 Calls Tryz.prog 185 #[.iface 230 (.slice Al l.length cl),.pointer (some ⟨bh,0,none⟩),.pointer (some ⟨bx,0,none⟩),.pointer (some ⟨by',0,none⟩)] w fun e w'=>e= .returned (.bool (pJ H l x y))∧Below w.heap.size w w':=by
 have hc:=hide (Hu A c H Al cl l x y w h hn hl hln hx hy);clear h hl;go_enter Tryz.func185,Tryz.ntmps185;go_wp2_with fail;refine hc.out.mono ?_;rintro e w1 ⟨rfl,hb1⟩;go_wp2;go_ret;exact⟨rfl,hb1⟩
set_option maxRecDepth 100000 in
theorem zk (A:Option Addr) (c:Nat) (H:List Txn) (x y:Int) (Ak:Option Addr) (ck:Nat) (vs:List (Value×Bool)) (w:World) (h:aC w (Old w) (.slice A H.length c) H) (hn:aA H) (hk:xZ w (Old w) (.slice Ak vs.length ck) vs) (hkn:vs.length≤1000)
 (hp:oH H x y=true→∀W (bh bx by':Nat),Below w.heap.size w W→W.cell? ⟨bh,0,none⟩=some (.slice A H.length c)→W.cell? ⟨bx,0,none⟩=some (.int .i64 x)→W.cell? ⟨by',0,none⟩=some (.int .i64 y)→∀v∈vs,Calls Tryz.prog 185 #[v.1,.pointer (some ⟨bh,0,none⟩),.pointer (some ⟨bx,0,none⟩),.pointer (some ⟨by',0,none⟩)] W fun e W'=>e= .returned (.bool v.2)∧Below W.heap.size W W'):
 Calls Tryz.prog 177 #[.agg #[.slice A H.length c],.int .i64 x,.int .i64 y,.slice Ak vs.length ck] w fun e w'=>e= .returned (.bool (oH H x y&&vs.any (·.2)))∧Below w.heap.size w w':=by
 obtain⟨W0,hW0⟩:∃W0,((w.alloc (.cells #[.slice A H.length c] 24)).alloc (.cells #[.int .i64 x] 3)).alloc (.cells #[.int .i64 y] 3)=W0:=⟨_,rfl⟩;have hB:=gJ hW0;have k0:=Blk.vK hW0;have k1:=Blk.sj hW0;have k2:=Blk.su hW0;have hrc:=hide (gL A c H W0 (h.below hB) hn);have c0:=Blk.n0 k0;have hko:=hide (fun W (hb:Below w.heap.size w W)=>hk.below hb);have htw:Hid (oH H x y=(aG H&&decide (0≤x)&&decide (x<(H.length:Int))&&decide (0≤y)&&decide (y<(H.length:Int)))):=hide rfl;obtain⟨r,hr⟩:∃r,oH H x y=r:=⟨_,rfl⟩;rw[hr]at htw hp;rw[hr];obtain⟨q,hq⟩:∃q,aG H=q:=⟨_,rfl⟩;rw[hq]at htw hrc;replace hp:=hide hp;replace hn:=hide hn;obtain⟨z,hz⟩:∃z,vs.any (·.2)=z:=⟨_,rfl⟩;rw[hz];replace hz:=hide hz;clear h hk hr hq;go_enter Tryz.func177,Tryz.ntmps177;go_wp2_with fail;refine hrc.out.mono ?_;rintro e w1 ⟨rfl,hb1⟩;replace k0:=k0.below hb1 k0.lt;replace k1:=k1.below hb1 k1.lt;replace k2:=k2.below hb1 k2.lt;have hb2:=hB.trans (hb1.mono hB.size);clear hW0 hrc c0;have c0:=Blk.n0 k0;have c1:=Blk.n0 k1;have c2:=Blk.n0 k2;cases q with
 |false=>
  have hre:r=false:=(by rw[htw.out];rfl);subst hre;clear htw hp;go_wp2;go_ret;exact⟨rfl,hb2⟩
 |true=>
  by_cases h1:x<0∨y<0
  ·have hre:r=false:=by
    rw[htw.out];rcases h1 with g|g
    ·rw[decide_eq_false (show¬0≤x by omega)];simp
    ·rw[decide_eq_false (show¬0≤y by omega)];simp
   subst hre;have g1:decide (min x y<0)=true:=(by simp;omega);clear htw hp h1;go_wp2;go_ret;exact⟨rfl,hb2⟩
  ·have g1:decide (min x y<0)=false:=(by simp;omega);by_cases h2:(H.length:Int)≤x∨(H.length:Int)≤y
   ·have hre:r=false:=by
     rw[htw.out];rcases h2 with g|g
     ·rw[decide_eq_false (show¬x<(H.length:Int) by omega)];simp
     ·rw[decide_eq_false (show¬y<(H.length:Int) by omega)];simp
    subst hre;have g2:decide (max x y≥(H.length:Int))=true:=(by simp;omega);have g3:decide ((H.length:Int)≤max x y)=true:=(by simp;omega);clear htw hp h1 h2;go_wp2;go_ret;exact⟨rfl,hb2⟩
   ·have hre:r=true:=by
     rw[htw.out,decide_eq_true (show 0≤x by omega),decide_eq_true (show 0≤y by omega),decide_eq_true (show x<(H.length:Int) by omega),decide_eq_true (show y<(H.length:Int) by omega)];rfl
    subst hre;have g2:decide (max x y≥(H.length:Int))=false:=(by simp;omega);have g3:decide ((H.length:Int)≤max x y)=false:=(by simp;omega);have hc:=hide (y7 185 (enters_of Tryz.func185 (by kernel_rfl) rfl) #[.pointer (some ⟨w.heap.size,0,none⟩),.pointer (some ⟨w.heap.size+1,0,none⟩),.pointer (some ⟨w.heap.size+1+1,0,none⟩)] (·.2) Ak ck vs w1 (hko.out w1 hb2) (by omega) (fun W hbW v hv=>hp.out (by simp) W _ _ _ (hb2.trans (hbW.mono hb2.size)) (by have:=(k0.below hbW k0.lt).cell 0;simpa using this) (by have:=(k1.below hbW k1.lt).cell 0;simpa using this) (by have:=(k2.below hbW k2.lt).cell 0;simpa using this) v hv));rw[hz.out]at hc;clear htw hp h1 h2 hko hz;go_wp2_with fail;refine hc.out.mono ?_;rintro e w2 ⟨rfl,hb3⟩;go_wp2;go_ret;exact⟨rfl,hb2.trans (hb3.mono hb2.size)⟩
theorem xZ.bP{w:World}{g:Nat}{t:TypeId}{vs:List (Value×Bool)}(h:Blk w g t (vs.map (·.1)).toArray):xZ w (Old w) (.slice (some ⟨g,0,none⟩) vs.length vs.length) vs:=by
 refine⟨some ⟨g,0,none⟩,vs.length,vs.map fun x=>[x.1],rfl,Nat.le_refl _,by simp,fun i cs x h1 h2=> ?_,fun _=>⟨g,0,rfl,h.lt,fun i j cs u h1 h2=> ?_⟩⟩
 ·rw[List.getElem?_map,h2]at h1;injection h1 with h1
  exact⟨by rw[←h1];rfl,h1.symm⟩
 ·rw[List.getElem?_map]at h1;cases hl:vs[i]? with
  |none=>rw[hl]at h1;cases h1
  |some x=>
   rw[hl]at h1;injection h1 with h1
   subst h1;cases j with
   |zero=>
    injection h2 with h2
    rw[Nat.zero_add,Nat.mul_one,Nat.add_zero,h.cell,gA,List.getElem?_map,hl,←h2];rfl
   |succ j=>simp at h2
set_option maxRecDepth 100000 in
theorem nS(A:Option Addr)(c:Nat)(H:List Txn)(Al:Option Addr)(cl:Nat)(l:List Cho)(x y:Int)(w:World)(h:aC w (Old w) (.slice A H.length c) H)(hn:aA H)(hl:aV w (Old w) (.slice Al l.length cl) l)(hln:l.length≤1000000000):
 Calls Tryz.prog 161 #[.agg #[.slice A H.length c],.slice Al l.length cl,.int .i64 x,.int .i64 y] w fun e w'=>e= .returned (.bool (aL H l x y))∧Below w.heap.size w w':=by
 obtain⟨W0,hW0⟩:∃W0,(w.alloc (.cells #[.slice A H.length c] 24)).alloc (.cells #[.iface 227 (.agg #[]),.iface 228 (.agg #[]),.iface 229 (.slice Al l.length cl)] 240)=W0:=⟨_,rfl⟩;have hB:=aF hW0;have k1:=Blk.eP hW0;have hT:=h.below hB;have hL:=hl.below hB;have hc:=hide (zk A c H x y (some ⟨w.heap.size+1,0,none⟩) 3 [(.iface 227 (.agg #[]),soE H x.toNat y.toNat),(.iface 228 (.agg #[]),xS H x.toNat y.toNat),(.iface 229 (.slice Al l.length cl),mq H l x.toNat y.toNat)] W0 hT hn (xZ.bP (vs:=[(.iface 227 (.agg #[]),soE H x.toNat y.toNat),(.iface 228 (.agg #[]),xS H x.toNat y.toNat),(.iface 229 (.slice Al l.length cl),mq H l x.toNat y.toNat)]) k1) (by simp) (fun htw W bh bx by' hbW g1 g2 g3 v hv=>by
  obtain⟨_,a,b,rfl,rfl,ha,hb⟩:=pK.1 htw;simp only[Int.toNat_natCast]at hv;simp only[List.mem_cons,List.not_mem_nil,or_false]at hv;rcases hv with rfl|rfl|rfl
  ·exact KV A c H Al cl l a b bh bx by' W (hT.below hbW) hn (hL.below hbW) hln ha hb g1 g2 g3
  ·exact KW A c H Al cl l a b bh bx by' W (hT.below hbW) hn (hL.below hbW) hln ha hb g1 g2 g3
  ·exact KX A c H Al cl l a b bh bx by' W (hT.below hbW) hn (hL.below hbW) hln ha hb g1 g2 g3))
 have hre:aL H l x y=(oH H x y&&[((.iface 227 (.agg #[]):Value),soE H x.toNat y.toNat),(.iface 228 (.agg #[]),xS H x.toNat y.toNat),(.iface 229 (.slice Al l.length cl),mq H l x.toNat y.toNat)].any (·.2)):=by
  unfold aL RH;simp[Bool.or_assoc]
 rw[hre];generalize(oH H x y&&[((.iface 227 (.agg #[]):Value),soE H x.toNat y.toNat),(.iface 228 (.agg #[]),xS H x.toNat y.toNat),(.iface 229 (.slice Al l.length cl),mq H l x.toNat y.toNat)].any (·.2))=q at*;clear h hl hre hT hL;go_enter Tryz.func161,Tryz.ntmps161;go_wp2_with fail;refine hc.out.mono ?_;rintro e w1 ⟨rfl,hb1⟩;go_wp2;go_ret;exact⟨rfl,hB.trans (hb1.mono hB.size)⟩
set_option maxRecDepth 100000 in
theorem Hw(A:Option Addr)(c:Nat)(H:List Txn)(Al:Option Addr)(cl:Nat)(l:List Cho)(x y:Int)(w:World)(h:aC w (Old w) (.slice A H.length c) H)(hn:aA H)(hl:aV w (Old w) (.slice Al l.length cl) l)(hln:l.length≤1000000000):
 Calls Tryz.prog 162 #[.agg #[.slice A H.length c],.slice Al l.length cl,.int .i64 x,.int .i64 y] w fun e w'=>e= .returned (.bool (eY H l x y))∧Below w.heap.size w w':=by
 obtain⟨W0,hW0⟩:∃W0,(w.alloc (.cells #[.slice A H.length c] 24)).alloc (.cells #[.iface 230 (.slice Al l.length cl)] 240)=W0:=⟨_,rfl⟩;have hB:=aF hW0;have k1:=Blk.eP hW0;have hT:=h.below hB;have hL:=hl.below hB;have hc:=hide (zk A c H x y (some ⟨w.heap.size+1,0,none⟩) 1 [(.iface 230 (.slice Al l.length cl),pJ H l x.toNat y.toNat)] W0 hT hn (xZ.bP (vs:=[(.iface 230 (.slice Al l.length cl),pJ H l x.toNat y.toNat)]) k1) (by simp) (fun htw W bh bx by' hbW g1 g2 g3 v hv=>by
  obtain⟨_,a,b,rfl,rfl,ha,hb⟩:=pK.1 htw;simp only[Int.toNat_natCast]at hv;simp only[List.mem_cons,List.not_mem_nil,or_false]at hv;subst hv;exact KY A c H Al cl l a b bh bx by' W (hT.below hbW) hn (hL.below hbW) hln ha hb g1 g2 g3))
 have hre:eY H l x y=(oH H x y&&[((.iface 230 (.slice Al l.length cl):Value),pJ H l x.toNat y.toNat)].any (·.2)):=by
  unfold eY;simp
 rw[hre];generalize(oH H x y&&[((.iface 230 (.slice Al l.length cl):Value),pJ H l x.toNat y.toNat)].any (·.2))=q at*;clear h hl hre hT hL;go_enter Tryz.func162,Tryz.ntmps162;go_wp2_with fail;refine hc.out.mono ?_;rintro e w1 ⟨rfl,hb1⟩;go_wp2;go_ret;exact⟨rfl,hB.trans (hb1.mono hB.size)⟩
set_option maxRecDepth 100000 in
theorem NV(A:Option Addr)(c:Nat)(H:List Txn)(level:Int)(Al:Option Addr)(cl:Nat)(l:List Cho)(x y:Int)(w:World)(h:aC w (Old w) (.slice A H.length c) H)(hn:aA H)(hl:aV w (Old w) (.slice Al l.length cl) l)(hln:l.length≤1000000000):
 Calls Tryz.prog 152 #[.agg #[.slice A H.length c],.int .i64 level,.slice Al l.length cl,.int .i64 x,.int .i64 y] w fun e w'=>e= .returned (.bool (isB H level l x y))∧Below w.heap.size w w':=by
 obtain⟨W0,hW0⟩:∃W0,w.alloc (.cells #[.slice A H.length c] 24)=W0:=⟨_,rfl⟩;have hB:=ah (Below.refl w.heap.size w) hW0 (Nat.le_refl _);have k0:=Blk.newEq hW0;have hdi:=hide (fun(a b:Int) W (hb:Below w.heap.size w W)=>nS A c H Al cl l a b W (h.below hb) hn (hl.below hb) hln);have han:=hide (fun(a b:Int) W (hb:Below w.heap.size w W)=>Hw A c H Al cl l a b W (h.below hb) hn (hl.below hb) hln);have hH:=hn.1;have c0:=Blk.n0 k0;clear h hl;by_cases h0:level=0
 ·subst h0;have hre:Hid (isB H 0 l x y=(aL H l x y||eY H l x y)):=hide rfl;rw[hre.out];have hd1:=hide (hdi.out x y W0 hB);have ha1:=hide (fun W (hb:Below W0.heap.size W0 W)=>han.out x y W (hB.trans (hb.mono hB.size)));generalize aL H l x y=q1 at*;generalize eY H l x y=q2 at*;clear hre hdi han;go_enter Tryz.func152,Tryz.ntmps152;go_wp2_with fail;refine hd1.out.mono ?_;rintro e w1 ⟨rfl,hb1⟩;have hb2:=hB.trans (hb1.mono hB.size);have ha2:=hide (ha1.out w1 hb1);have k1:=k0.below hb1 k0.lt;have c1:=Blk.n0 k1;clear hW0 c0 hd1 ha1;cases q1 with
  |true=>
   clear ha2;go_wp2;go_ret;exact⟨rfl,hb2⟩
  |false=>
   go_wp2_with fail;refine ha2.out.mono ?_;rintro e w2 ⟨rfl,hb3⟩;go_wp2;go_ret;exact⟨rfl,hb2.trans (hb3.mono hb2.size)⟩
 ·have g0:(level==0)=false:=(by simpa using h0);by_cases h1:level=1
  ·subst h1;have hre:Hid (isB H 1 l x y=(List.range H.length).any fun m=>aL H l x (m:Int)&&(decide ((m:Int)=y)||eY H l (m:Int) y)):=hide rfl;have hyes:Hid (∀m,m<H.length→(aL H l x (m:Int)&&(decide ((m:Int)=y)||eY H l (m:Int) y))=true→isB H 1 l x y=true):=hide (fun m hm g=>by rw[hre.out,List.any_eq_true];exact⟨m,List.mem_range.2 hm,g⟩);have hno:Hid ((∀m,m<H.length→(aL H l x (m:Int)&&(decide ((m:Int)=y)||eY H l (m:Int) y))=false)→isB H 1 l x y=false):=hide (fun g=>by rw[hre.out,List.any_eq_false];intro m hm;rw[g m (List.mem_range.1 hm)];decide);generalize isB H 1 l x y=r at*;clear hre h0;go_enter Tryz.func152,Tryz.ntmps152;go_wp2_with fail;clear hW0 c0;go_loopw [32] (fun s32 wr=>∃m:Nat,m≤H.length∧s32= .int .i64 m∧Hid (∀m',m'<m→(aL H l x (m':Int)&&(decide ((m':Int)=y)||eY H l (m':Int) y))=false)∧Below w.heap.size w wr∧Blk wr w.heap.size 24 #[.slice A H.length c]) (fun s32 _=>H.length-(intOf s32).toNat);case atStart=>exact⟨0,Nat.zero_le _,by go_num,hide (fun m hm=>absurd hm (by omega)),hB,k0⟩
   case round=>
    clear k0 hB;obtain⟨m,hm,rfl,hall,hb,k0⟩:=hrel;have hm0:(0:Int)≤(m:Int):=Int.natCast_nonneg _;by_cases hlt:m<H.length
    ·have hm1:(m:Int)<(H.length:Int):=(by omega);have c0:=Blk.n0 k0;have hd1:=hide (hdi.out x (m:Int) wr hb);have ha1:=hide (fun W (hb2:Below wr.heap.size wr W)=>han.out (m:Int) y W (hb.trans (hb2.mono hb.size)));have hy:=hide (hyes.out m hlt);have hnx:=hide (fun(g:(aL H l x (m:Int)&&(decide ((m:Int)=y)||eY H l (m:Int) y))=false)=>(fun m' (hm':m'<m+1)=>(by
      by_cases e:m'=m
      ·subst e;exact g
      ·exact hall.out m' (by omega):(aL H l x (m':Int)&&(decide ((m':Int)=y)||eY H l (m':Int) y))=false)))
     generalize aL H l x (m:Int)=q1 at*;generalize eY H l (m:Int) y=q2 at*;go_wp2_with fail;refine hd1.out.mono ?_;rintro e w1 ⟨rfl,hb1⟩;have hb2:=hb.trans (hb1.mono hb.size);have ha2:=hide (ha1.out w1 hb1);have k1:=k0.below hb1 k0.lt;have c1:=Blk.n0 k1;clear c0 hd1 ha1 k0;cases q1 with
     |false=>
      have hn2:=hide (hnx.out rfl);clear ha2 hnx hy;go_wp2;go_roundw;case rel=>exact⟨m+1,by omega,by go_num,hn2,hb2,k1⟩
      case measure=>simp[intOf];omega
     |true=>
      by_cases hmy:(m:Int)=y
      ·have hr:=hy.out (by simp[hmy]);have g1:((m:Int)==y)=true:=(by simpa using hmy);subst hr;clear ha2 hnx hy hmy hno hyes;go_wp2;go_ret;exact⟨rfl,hb2⟩
      ·have g1:((m:Int)==y)=false:=(by simpa using hmy);have hmd:decide ((m:Int)=y)=false:=(by simpa using hmy);rw[hmd]at hy hnx;clear hmd hmy;go_wp2_with fail;refine ha2.out.mono ?_;rintro e w2 ⟨rfl,hb3⟩;have hb4:=hb2.trans (hb3.mono hb2.size);have k2:=k1.below hb3 k1.lt;clear ha2 c1;cases q2 with
       |true=>
        have hr:=hy.out rfl;subst hr;clear hnx hy hno hyes;go_wp2;go_ret;exact⟨rfl,hb4⟩
       |false=>
        have hn2:=hide (hnx.out rfl);clear hnx hy;go_wp2;go_roundw;case rel=>exact⟨m+1,by omega,by go_num,hn2,hb4,k2⟩
        case measure=>simp[intOf];omega
    ·have hr:=hno.out (fun m' hm'=>hall.out m' (by omega));subst hr;clear hyes hall;go_wp2;go_ret;exact⟨rfl,hb⟩
  ·have g1:(level==1)=false:=(by simpa using h1);have hre:isB H level l x y=false:=(by unfold isB;rw[if_neg h0,if_neg h1]);rw[hre];clear hre h0 h1;go_enter Tryz.func152,Tryz.ntmps152;go_wp2;go_ret;exact⟨rfl,hB⟩
end Go.Proofs.YtpjechjoijjhpaaGreatDoor
