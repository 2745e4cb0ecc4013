/-
  Walks: layer 22: whether a fact is two others', one behind the other.
-/
import Derived.Test.YtpjechjoijjhpaaGreatDoorZ01
import Derived.Test.YtpjechjoijjhpaaGreatDoorZ04
import Derived.Test.YtpjechjoijjhpaaGreatDoorZ02
import Derived.Test.YtpjechjoijjhpaaGreatDoorZ12
set_option linter.unusedVariables false
set_option linter.unusedSimpArgs false
namespace Go.Proofs.YtpjechjoijjhpaaGreatDoor
open Go.RowKit Go.Inq
set_option maxHeartbeats 8000000
attribute [local go_sem↓] Go.wp_at_zero Go.wp_at_succ
def zC:Array Value:=#[.int .i64 0,.int .i64 0,.int .i64 0]
structure oN(n0:Nat)(W0:World)(val:Nat→Value)(cx cy:Array Value)(L:Nat→Bool)(vs:Nat→Value)(W:World):Prop where
 low:n0≤W0.heap.size
 t:TyW n0 [62] W0 W
 v:∀i,i<16→L i=true→vs i=val i
 x:L 16=true→∃g,W0.heap.size≤g∧vs 16= .pointer (some ⟨g,0,none⟩)∧Blk W g 62 (if L 18=true then cx else zC)
 y:L 17=true→∃g,W0.heap.size≤g∧vs 17= .pointer (some ⟨g,0,none⟩)∧Blk W g 62 (if L 19=true then cy else zC)
 ne:L 16=true→L 17=true→vs 16≠vs 17
section
variable{n0:Nat}{W0:World}{val:Nat→Value}{cx cy:Array Value}{L:Nat→Bool}{vs:Nat→Value}{W:World}
theorem upd_ne{vs:Nat→Value}{i j:Nat}(h:j≠i)(u:Value):cK vs i u j=vs j:=by unfold cK;rw[if_neg h]
theorem zo{vs:Nat→Value}{i:Nat}(u:Value):cK vs i u i=u:=by unfold cK;rw[if_pos rfl]
theorem oN.kV(h:oN n0 W0 val cx cy L vs W){i:Nat}(hi:i<16):oN n0 W0 val cx cy (fun j=>L j||decide (j=i)) (cK vs i (val i)) W:=by
 have n6:(16:Nat)≠i:=(by omega);have n7:(17:Nat)≠i:=(by omega);have n8:(18:Nat)≠i:=(by omega);have n9:(19:Nat)≠i:=(by omega);refine⟨h.low,h.t,fun k hk hl=> ?_,?_,?_,?_⟩
 ·by_cases e:k=i
  ·subst e;exact zo _
  ·rw[upd_ne e];exact h.v k hk (by simpa[e]using hl)
 ·simp only[n6,n8,decide_false,Bool.or_false,upd_ne n6];exact h.x
 ·simp only[n7,n9,decide_false,Bool.or_false,upd_ne n7];exact h.y
 ·simp only[n6,n7,decide_false,Bool.or_false,upd_ne n6,upd_ne n7];exact h.ne
theorem oN.lt(h:oN n0 W0 val cx cy L vs W):W0.heap.size≤W.heap.size:=h.t.size
theorem oN.mkx(h:oN n0 W0 val cx cy L vs W)(h8:L 18=false):oN n0 W0 val cx cy (fun j=>L j||decide (j=16)) (cK vs 16 (.pointer (some ⟨W.heap.size,0,none⟩))) (W.alloc (.cells zC 62)):=by
 have hl:=h.lt;refine⟨h.low,h.t.trans (TyW.calm ((Below.refl _ _).alloc (Nat.le_refl _) _) (Nat.le_trans h.low hl)),fun k hk hl=> ?_,fun _=>⟨W.heap.size,hl,zo _,?_⟩,fun hy=> ?_,fun _ hy=> ?_⟩
 ·rw[upd_ne (by omega)];exact h.v k hk (by simpa[show k≠16 by omega]using hl)
 ·have e:((L 18||decide (18=16))=true)=False:=(by rw[h8];simp);simp only[e,if_false];exact Blk.new _ _ _
 ·obtain⟨g,g1,g2,g3⟩:=h.y (by simpa using hy);refine⟨g,g1,by rw[upd_ne (by decide)];exact g2,?_⟩;have e:(L 19||decide (19=16))=L 19:=(by simp);simp only[e];exact g3.alloc _
 ·obtain⟨g,g1,g2,g3⟩:=h.y (by simpa using hy);have:=g3.lt;rw[zo,upd_ne (by decide),g2];intro e;simp at e<;>omega
theorem oN.mky(h:oN n0 W0 val cx cy L vs W)(h9:L 19=false):oN n0 W0 val cx cy (fun j=>L j||decide (j=17)) (cK vs 17 (.pointer (some ⟨W.heap.size,0,none⟩))) (W.alloc (.cells zC 62)):=by
 have hl:=h.lt;refine⟨h.low,h.t.trans (TyW.calm ((Below.refl _ _).alloc (Nat.le_refl _) _) (Nat.le_trans h.low hl)),fun k hk hl=> ?_,fun hx=> ?_,fun _=>⟨W.heap.size,hl,zo _,?_⟩,fun hx _=> ?_⟩
 ·rw[upd_ne (by omega)];exact h.v k hk (by simpa[show k≠17 by omega]using hl)
 ·obtain⟨g,g1,g2,g3⟩:=h.x (by simpa using hx);refine⟨g,g1,by rw[upd_ne (by decide)];exact g2,?_⟩;have e:(L 18||decide (18=17))=L 18:=(by simp);simp only[e];exact g3.alloc _
 ·have e:((L 19||decide (19=17))=true)=False:=(by rw[h9];simp);simp only[e,if_false];exact Blk.new _ _ _
 ·obtain⟨g,g1,g2,g3⟩:=h.x (by simpa using hx);have:=g3.lt;rw[zo,upd_ne (by decide),g2];intro e;simp at e<;>omega
theorem EO{g:Nat}{t:TypeId}{a b c:Value}(h:Blk W g t zC):Blk (((W.setCell ⟨g,0,none⟩ a).setCell ⟨g,1,none⟩ b).setCell ⟨g,2,none⟩ c) g t #[a,b,c]:=((h.aH 0 a).aH 1 b).aH 2 c
theorem JL{g:Nat}{a b c:Value}(hg:n0≤g)(h:Blk W g 62 zC):TyW n0 [62] W (((W.setCell ⟨g,0,none⟩ a).setCell ⟨g,1,none⟩ b).setCell ⟨g,2,none⟩ c):=
 ((TyW.put h hg (by simp) a).trans (TyW.put (h.aH 0 a) hg (by simp) b)).trans (TyW.put ((h.aH 0 a).aH 1 b) hg (by simp) c)
theorem oN.Vv{a b c:Value}(h:oN n0 W0 val #[a,b,c] cy L vs W)(hg:L 16=true)(h8:L 18=false)(u:Value):∃g,vs 16= .pointer (some ⟨g,0,none⟩)∧Blk W g 62 zC∧oN n0 W0 val #[a,b,c] cy (fun j=>L j||decide (j=18)) (cK vs 18 u) (((W.setCell ⟨g,0,none⟩ a).setCell ⟨g,1,none⟩ b).setCell ⟨g,2,none⟩ c):=by
 obtain⟨g,g1,g2,g3⟩:=h.x hg;rw[h8]at g3;have g3:Blk W g 62 zC:=g3;refine⟨g,g2,g3,h.low,h.t.trans (JL (Nat.le_trans h.low g1) g3),fun k hk hl=> ?_,fun _=>⟨g,g1,by rw[upd_ne (by decide)];exact g2,?_⟩,fun hy=> ?_,fun hx hy=> ?_⟩
 ·rw[upd_ne (by omega)];exact h.v k hk (by simpa[show k≠18 by omega]using hl)
 ·simp only[decide_true,Bool.or_true,if_true];exact EO g3
 ·have hy:L 17=true:=(by simpa using hy);obtain⟨g',q1,q2,q3⟩:=h.y hy;refine⟨g',q1,by rw[upd_ne (by decide)];exact q2,?_⟩;have e:(L 19||decide (19=18))=L 19:=(by simp);simp only[e];have hne:g'≠g:=fun e=>h.ne hg hy (by rw[g2,q2,e]);exact((q3.far (p:=⟨g,0,none⟩) hne _).far (p:=⟨g,1,none⟩) hne _).far (p:=⟨g,2,none⟩) hne _
 ·rw[upd_ne (by decide),upd_ne (by decide)];exact h.ne hg (by simpa using hy)
theorem oN.Vw{a b c:Value}(h:oN n0 W0 val cx #[a,b,c] L vs W)(hg:L 17=true)(h9:L 19=false)(u:Value):∃g,vs 17= .pointer (some ⟨g,0,none⟩)∧Blk W g 62 zC∧oN n0 W0 val cx #[a,b,c] (fun j=>L j||decide (j=19)) (cK vs 19 u) (((W.setCell ⟨g,0,none⟩ a).setCell ⟨g,1,none⟩ b).setCell ⟨g,2,none⟩ c):=by
 obtain⟨g,g1,g2,g3⟩:=h.y hg;rw[h9]at g3;have g3:Blk W g 62 zC:=g3;refine⟨g,g2,g3,h.low,h.t.trans (JL (Nat.le_trans h.low g1) g3),fun k hk hl=> ?_,fun hx=> ?_,fun _=>⟨g,g1,by rw[upd_ne (by decide)];exact g2,?_⟩,fun hx hy=> ?_⟩
 ·rw[upd_ne (by omega)];exact h.v k hk (by simpa[show k≠19 by omega]using hl)
 ·have hx:L 16=true:=(by simpa using hx);obtain⟨g',q1,q2,q3⟩:=h.x hx;refine⟨g',q1,by rw[upd_ne (by decide)];exact q2,?_⟩;have e:(L 18||decide (18=19))=L 18:=(by simp);simp only[e];have hne:g'≠g:=fun e=>h.ne hx hg (by rw[g2,q2,e]);exact((q3.far (p:=⟨g,0,none⟩) hne _).far (p:=⟨g,1,none⟩) hne _).far (p:=⟨g,2,none⟩) hne _
 ·simp only[decide_true,Bool.or_true,if_true];exact EO g3
 ·rw[upd_ne (by decide),upd_ne (by decide)];exact h.ne (by simpa using hx) hg
end
def iR:Nat→List Nat
 |1=>[0]|3=>[2]|4=>[3]|5=>[1,4]|6=>[5]|7=>[6]|9=>[8]|11=>[10]|12=>[11]|13=>[9,12]|14=>[13]|15=>[14]|18=>[16,7]|19=>[17,15]
 |_=>[]
def N7:Nat→List Nat
 |16=>[18]|17=>[19]
 |_=>[]
def kW(g0 b off:Nat)(vl:Value)(i j:Nat)(x y:Cho):Nat→Value
 |0=> .pointer (some ⟨g0,2,none⟩)|1=>vl|2=> .pointer (some ⟨g0,3,none⟩)|3=> .pointer (some ⟨g0,7,none⟩)|4=> .int .i64 (i:Int)
 |5=> .pointer (some ⟨b,off+i*7,none⟩)|6=> .pointer (some ⟨b,off+i*7,none⟩)|7=> .agg #[.int .i64 x.key,.int .i64 x.a,.int .i64 x.b]
 |8=> .pointer (some ⟨g0,2,none⟩)|9=>vl|10=> .pointer (some ⟨g0,3,none⟩)|11=> .pointer (some ⟨g0,8,none⟩)|12=> .int .i64 (j:Int)
 |13=> .pointer (some ⟨b,off+j*7,none⟩)|14=> .pointer (some ⟨b,off+j*7,none⟩)|15=> .agg #[.int .i64 y.key,.int .i64 y.a,.int .i64 y.b]
 |_=>undef
set_option maxRecDepth 100000 in
theorem Dx(A:Option Addr)(c:Nat)(nH:Nat)(level:Int)(Al:Option Addr)(cl:Nat)(L:List Fct)(f:Fct)(vc:Value)(w:World)(hL:bM w (Old w) (.slice Al L.length cl) L)(hn:L.length≤1000000):
 Calls Tryz.prog 148 #[.agg #[.slice A nH c,.int .i64 level,.slice Al L.length cl,.int .i64 f.c.key,.int .i64 f.c.a,.int .i64 f.c.b,.int .i64 f.kind,.int .i64 f.i,.int .i64 f.j,vc]] w fun e w'=>e= .returned (.bool (wT L f))∧Below w.heap.size w w':=by
 obtain⟨⟨key,a,b⟩,kind,i,j,cyc⟩:=f;dsimp only;obtain⟨W0,hW0⟩:∃W0,w.alloc (.cells #[.slice A nH c,.int .i64 level,.slice Al L.length cl,.int .i64 key,.int .i64 a,.int .i64 b,.int .i64 kind,.int .i64 i,.int .i64 j,vc] 177)=W0:=⟨_,rfl⟩;have hB:=ah (Below.refl w.heap.size w) hW0 (Nat.le_refl _);have k0:=Blk.newEq hW0;have hLS:=hide (fun W (hb:Below w.heap.size w W)=>hL.below hb);obtain⟨r,hr⟩:∃r,wT L ⟨⟨key,a,b⟩,kind,i,j,cyc⟩=r:=⟨_,rfl⟩;have hre:Hid (r=(decide (0≤i)&&decide (i<(L.length:Int))&&decide (0≤j)&&decide (j<(L.length:Int))&&
  match L[i.toNat]?,L[j.toNat]? with
  |some x,some y=>decide (x.c.b=y.c.a)&&decide (x.c.key=y.c.key)&&decide ((⟨key,a,b⟩:Cho)=⟨x.c.key,x.c.a,y.c.b⟩)
  |_,_=>false)):=hide hr.symm
 rw[hr];have c2:=Blk.n2 k0;have c3:=Blk.n3 k0;have c4:=Blk.n4 k0;have c5:=Blk.n5 k0;have c7:=Blk.n7 k0;have c8:=Blk.n8 k0;have zn:Hid True:=hide trivial;clear hr hL;by_cases h1:min i j<0
 ·have g1:decide (min i j<0)=true:=(by simpa using h1);have hrq:r=false:=by
   rw[hre.out];rcases Int.lt_or_le i 0 with h|h
   ·rw[decide_eq_false (show¬0≤i by omega)];simp
   ·rw[decide_eq_false (show¬0≤j by omega)];simp
  subst hrq;clear h1;go_enter Tryz.func148,Tryz.ntmps148;clear hre zn hLS;go_wp2;go_ret;exact⟨rfl,hB⟩
 ·have g1:decide (min i j<0)=false:=(by simpa using h1);by_cases h2:(L.length:Int)≤max i j
  ·have g2:decide (max i j≥(L.length:Int))=true:=(by simpa using h2);have g3:decide ((L.length:Int)≤max i j)=true:=(by simpa using h2);have hrq:r=false:=by
    rw[hre.out];rcases Int.lt_or_le i (L.length:Int)with h|h
    ·rw[decide_eq_false (show¬j<(L.length:Int) by omega)];simp
    ·rw[decide_eq_false (show¬i<(L.length:Int) by omega)];simp
   subst hrq;clear h1 h2;go_enter Tryz.func148,Tryz.ntmps148;clear hre zn hLS;go_wp2;go_ret;exact⟨rfl,hB⟩
  ·have g2:decide (max i j≥(L.length:Int))=false:=(by simp;omega);have g3:decide ((L.length:Int)≤max i j)=false:=(by simp;omega);obtain⟨m,rfl⟩:∃m:Nat,i=(m:Int):=⟨i.toNat,by omega⟩;obtain⟨n,rfl⟩:∃n:Nat,j=(n:Int):=⟨j.toNat,by omega⟩;have hm:m<L.length:=(by omega);have hnl:n<L.length:=(by omega);have hm0:(0:Int)≤(m:Int):=Int.natCast_nonneg _;have hn0:(0:Int)≤(n:Int):=Int.natCast_nonneg _;have hm1:(m:Int)<(L.length:Int):=(by omega);have hn1:(n:Int)<(L.length:Int):=(by omega);have jv:=hide (show r=(decide (L[m].c.b=L[n].c.a)&&decide (L[m].c.key=L[n].c.key)&&decide ((⟨key,a,b⟩:Cho)=⟨L[m].c.key,L[m].c.a,L[n].c.b⟩)) by
    rw[hre.out,Int.toNat_natCast,Int.toNat_natCast,List.getElem?_eq_getElem hm,List.getElem?_eq_getElem hnl,decide_eq_true hm0,decide_eq_true hm1,decide_eq_true hn0,decide_eq_true hn1];rfl)
   obtain⟨b0,off,Ay,cy,rfl,-,-⟩:=(hLS.out W0 hB).at_ hm;have hx:=hide (fun W (hb:Below w.heap.size w W)=>(by
    obtain⟨b1,off1,Ay,cy,e,-,d⟩:=(hLS.out W hb).at_ hm;injection e with e
    injection e with e1 e2
    subst e1 e2;exact⟨d.d0,d.d1,d.d2⟩:W.cell? ⟨b0,off+m*7,none⟩=some (.int .i64 L[m].c.key)∧W.cell? ⟨b0,off+m*7+1,none⟩=some (.int .i64 L[m].c.a)∧W.cell? ⟨b0,off+m*7+2,none⟩=some (.int .i64 L[m].c.b)))
   have hy:=hide (fun W (hb:Below w.heap.size w W)=>(by
    obtain⟨b1,off1,Ay,cy,e,-,d⟩:=(hLS.out W hb).at_ hnl;injection e with e
    injection e with e1 e2
    subst e1 e2;exact⟨d.d0,d.d1,d.d2⟩:W.cell? ⟨b0,off+n*7,none⟩=some (.int .i64 L[n].c.key)∧W.cell? ⟨b0,off+n*7+1,none⟩=some (.int .i64 L[n].c.a)∧W.cell? ⟨b0,off+n*7+2,none⟩=some (.int .i64 L[n].c.b)))
   generalize L[m].c=xc at*;generalize L[n].c=yc at*;obtain⟨xk,xa,xb⟩:=xc;obtain⟨yk,ya,yb⟩:=yc;dsimp only at hx hy jv;have hsz0:w.heap.size<W0.heap.size:=k0.lt;clear h1 h2 hLS hre zn;go_enter Tryz.func148,Tryz.ntmps148;go_upto_region 3 with fail;clear c3 c4 c5 c2 c7 c8;refine l9 (oN w.heap.size W0 (kW w.heap.size b0 off (.slice (some ⟨b0,off,none⟩) L.length cl) m n ⟨xk,xa,xb⟩ ⟨yk,ya,yb⟩) #[.int .i64 xk,.int .i64 xa,.int .i64 xb] #[.int .i64 yk,.int .i64 ya,.int .i64 yb]) iR N7 (by kernel_rfl) (by kernel_rfl) (by kernel_rfl) (by kernel_rfl) ⟨by omega,(TyW.refl _ _ _).drew,by simp,by simp,by simp,by simp⟩ ?hstep ?hend;case hstep=>
    intro i o ho P vs W hno hd hnd hI;have hbW:=hB.trans (hI.t.below);have kq:=hI.t.blk k0 (by decide);have v2:=Blk.n2 kq;have v7:=Blk.n7 kq;have v8:=Blk.n8 kq;obtain⟨x0,x1,x2⟩:=hx.out W hbW;obtain⟨y0,y1,y2⟩:=hy.out W hbW
    match i,ho with
    |0,ho=>
     simp only[gZ,gS,Option.some.injEq]at ho;subst ho;simp only[acV,gA,gZ,gS,Act.put,sA,sZ,sS];go_wp2;exact⟨rfl,_,rfl,hI.kV (by decide)⟩
    |1,ho=>
     have e0:=hI.v 0 (by decide) (hd 0 (by simp[iR]));simp only[kW]at e0;simp only[gZ,gS,Option.some.injEq]at ho;subst ho;simp only[acV,gA,gZ,gS,Act.put,sA,sZ,sS];rw[e0];go_wp2;exact⟨rfl,_,rfl,hI.kV (by decide)⟩
    |2,ho=>
     simp only[gZ,gS,Option.some.injEq]at ho;subst ho;simp only[acV,gA,gZ,gS,Act.put,sA,sZ,sS];go_wp2;exact⟨rfl,_,rfl,hI.kV (by decide)⟩
    |3,ho=>
     have e0:=hI.v 2 (by decide) (hd 2 (by simp[iR]));simp only[kW]at e0;simp only[gZ,gS,Option.some.injEq]at ho;subst ho;simp only[acV,gA,gZ,gS,Act.put,sA,sZ,sS];rw[e0];go_wp2;exact⟨rfl,_,rfl,hI.kV (by decide)⟩
    |4,ho=>
     have e0:=hI.v 3 (by decide) (hd 3 (by simp[iR]));simp only[kW]at e0;simp only[gZ,gS,Option.some.injEq]at ho;subst ho;simp only[acV,gA,gZ,gS,Act.put,sA,sZ,sS];rw[e0];go_wp2;exact⟨rfl,_,rfl,hI.kV (by decide)⟩
    |5,ho=>
     have e0:=hI.v 1 (by decide) (hd 1 (by simp[iR]));have e1:=hI.v 4 (by decide) (hd 4 (by simp[iR]));simp only[kW]at e0 e1;simp only[gZ,gS,Option.some.injEq]at ho;subst ho;simp only[acV,gA,gZ,gS,Act.put,sA,sZ,sS];rw[e0,e1];go_wp2;exact⟨rfl,_,rfl,hI.kV (by decide)⟩
    |6,ho=>
     have e0:=hI.v 5 (by decide) (hd 5 (by simp[iR]));simp only[kW]at e0;simp only[gZ,gS,Option.some.injEq]at ho;subst ho;simp only[acV,gA,gZ,gS,Act.put,sA,sZ,sS];rw[e0];go_wp2;exact⟨rfl,_,rfl,hI.kV (by decide)⟩
    |7,ho=>
     have e0:=hI.v 6 (by decide) (hd 6 (by simp[iR]));simp only[kW]at e0;simp only[gZ,gS,Option.some.injEq]at ho;subst ho;simp only[acV,gA,gZ,gS,Act.put,sA,sZ,sS];rw[e0];go_wp2;exact⟨rfl,_,rfl,hI.kV (by decide)⟩
    |8,ho=>
     simp only[gZ,gS,Option.some.injEq]at ho;subst ho;simp only[acV,gA,gZ,gS,Act.put,sA,sZ,sS];go_wp2;exact⟨rfl,_,rfl,hI.kV (by decide)⟩
    |9,ho=>
     have e0:=hI.v 8 (by decide) (hd 8 (by simp[iR]));simp only[kW]at e0;simp only[gZ,gS,Option.some.injEq]at ho;subst ho;simp only[acV,gA,gZ,gS,Act.put,sA,sZ,sS];rw[e0];go_wp2;exact⟨rfl,_,rfl,hI.kV (by decide)⟩
    |10,ho=>
     simp only[gZ,gS,Option.some.injEq]at ho;subst ho;simp only[acV,gA,gZ,gS,Act.put,sA,sZ,sS];go_wp2;exact⟨rfl,_,rfl,hI.kV (by decide)⟩
    |11,ho=>
     have e0:=hI.v 10 (by decide) (hd 10 (by simp[iR]));simp only[kW]at e0;simp only[gZ,gS,Option.some.injEq]at ho;subst ho;simp only[acV,gA,gZ,gS,Act.put,sA,sZ,sS];rw[e0];go_wp2;exact⟨rfl,_,rfl,hI.kV (by decide)⟩
    |12,ho=>
     have e0:=hI.v 11 (by decide) (hd 11 (by simp[iR]));simp only[kW]at e0;simp only[gZ,gS,Option.some.injEq]at ho;subst ho;simp only[acV,gA,gZ,gS,Act.put,sA,sZ,sS];rw[e0];go_wp2;exact⟨rfl,_,rfl,hI.kV (by decide)⟩
    |13,ho=>
     have e0:=hI.v 9 (by decide) (hd 9 (by simp[iR]));have e1:=hI.v 12 (by decide) (hd 12 (by simp[iR]));simp only[kW]at e0 e1;simp only[gZ,gS,Option.some.injEq]at ho;subst ho;simp only[acV,gA,gZ,gS,Act.put,sA,sZ,sS];rw[e0,e1];go_wp2;exact⟨rfl,_,rfl,hI.kV (by decide)⟩
    |14,ho=>
     have e0:=hI.v 13 (by decide) (hd 13 (by simp[iR]));simp only[kW]at e0;simp only[gZ,gS,Option.some.injEq]at ho;subst ho;simp only[acV,gA,gZ,gS,Act.put,sA,sZ,sS];rw[e0];go_wp2;exact⟨rfl,_,rfl,hI.kV (by decide)⟩
    |15,ho=>
     have e0:=hI.v 14 (by decide) (hd 14 (by simp[iR]));simp only[kW]at e0;simp only[gZ,gS,Option.some.injEq]at ho;subst ho;simp only[acV,gA,gZ,gS,Act.put,sA,sZ,sS];rw[e0];go_wp2;exact⟨rfl,_,rfl,hI.kV (by decide)⟩
    |16,ho=>
     simp only[gZ,gS,Option.some.injEq]at ho;subst ho;simp only[acV,gA,gZ,gS,Act.put,sA,sZ,sS];go_wp2;exact⟨rfl,_,rfl,hI.mkx (hnd 18 (by simp[N7]))⟩
    |17,ho=>
     simp only[gZ,gS,Option.some.injEq]at ho;subst ho;simp only[acV,gA,gZ,gS,Act.put,sA,sZ,sS];go_wp2;exact⟨rfl,_,rfl,hI.mky (hnd 19 (by simp[N7]))⟩
    |18,ho=>
     have e0:=hI.v 7 (by decide) (hd 7 (by simp[iR]));simp only[kW]at e0;obtain⟨g,e1,kg,hI2⟩:=hI.Vv (hd 16 (by simp[iR])) hno undef;have z0:=kg.cell 0;have z1:=kg.cell 1;have z2:=kg.cell 2;have f0:=kg.frozen 0;have f1:=kg.frozen 1;have f2:=kg.frozen 2;simp only[zC,gA,gZ,gS]at z0 z1 z2;simp only[gZ,gS,Option.some.injEq]at ho;subst ho;simp only[acV,gA,gZ,gS,Act.put,sA,sZ,sS];rw[e0,e1];go_wp2;exact⟨rfl,_,rfl,hI2⟩
    |19,ho=>
     have e0:=hI.v 15 (by decide) (hd 15 (by simp[iR]));simp only[kW]at e0;obtain⟨g,e1,kg,hI2⟩:=hI.Vw (hd 17 (by simp[iR])) hno undef;have z0:=kg.cell 0;have z1:=kg.cell 1;have z2:=kg.cell 2;have f0:=kg.frozen 0;have f1:=kg.frozen 1;have f2:=kg.frozen 2;simp only[zC,gA,gZ,gS]at z0 z1 z2;simp only[gZ,gS,Option.some.injEq]at ho;subst ho;simp only[acV,gA,gZ,gS,Act.put,sA,sZ,sS];rw[e0,e1];go_wp2;exact⟨rfl,_,rfl,hI2⟩
    |i+20,ho=>simp at ho
   case hend=>
    intro P vs W hall hI;obtain⟨gx,-,ex,kx⟩:=hI.x (hall 16 (by simp));obtain⟨gy,-,ey,ky⟩:=hI.y (hall 17 (by simp));rw[hall 18 (by simp)]at kx;rw[hall 19 (by simp)]at ky;simp only[if_true]at kx ky;have hbW:=hB.trans (hI.t.below);have kq:=hI.t.blk k0 (by decide);simp only[acV,gA,gZ,gS,Act.put,sA,sZ,sS,List.length_cons,List.length_nil,Nat.reduceAdd];rw[ex,ey];have c3:=Blk.n3 kq;have c4:=Blk.n4 kq;have c5:=Blk.n5 kq;have x0:=Blk.n0 kx;have x1:=Blk.n1 kx;have x2:=Blk.n2 kx;have y0:=Blk.n0 ky;have y1:=Blk.n1 ky;have y2:=Blk.n2 ky;clear hI hall hx hy kx ky kq k0 hB hW0;by_cases q1:xb=ya
    ·have p1:(xb==ya)=true:=(by simpa using q1);by_cases q2:xk=yk
     ·have p2:(xk==yk)=true:=(by simpa using q2);by_cases q3:key=xk
      ·have p3:(key==xk)=true:=(by simpa using q3);by_cases q4:a=xa
       ·have p4:(a==xa)=true:=(by simpa using q4);by_cases q5:b=yb
        ·have p5:(b==yb)=true:=(by simpa using q5);have hrq:r=true:=(by rw[jv.out];simp[q1,q2,q3,q4,q5]);subst hrq;clear jv q1 q2 q3 q4 q5;go_wp2;go_ret;exact⟨rfl,hbW⟩
        ·have p5:(b==yb)=false:=(by simpa using q5);have hrq:r=false:=(by rw[jv.out];simp[q5]);subst hrq;clear jv q1 q2 q3 q4 q5;go_wp2;go_ret;exact⟨rfl,hbW⟩
       ·have p4:(a==xa)=false:=(by simpa using q4);have hrq:r=false:=(by rw[jv.out];simp[q4]);subst hrq;clear jv q1 q2 q3 q4;go_wp2;go_ret;exact⟨rfl,hbW⟩
      ·have p3:(key==xk)=false:=(by simpa using q3);have hrq:r=false:=(by rw[jv.out];simp[q3]);subst hrq;clear jv q1 q2 q3;go_wp2;go_ret;exact⟨rfl,hbW⟩
     ·have p2:(xk==yk)=false:=(by simpa using q2);have hrq:r=false:=(by rw[jv.out,decide_eq_false q2];simp);subst hrq;clear jv q1 q2;go_wp2;go_ret;exact⟨rfl,hbW⟩
    ·have p1:(xb==ya)=false:=(by simpa using q1);have hrq:r=false:=(by rw[jv.out,decide_eq_false q1];simp);subst hrq;clear jv q1;go_wp2;go_ret;exact⟨rfl,hbW⟩
end Go.Proofs.YtpjechjoijjhpaaGreatDoor
