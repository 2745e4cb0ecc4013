/-
  Walks: layer 24's reference: does the tree that begins at a place hold? is a row of nodes a tree that shows that there is no way?
-/
import Derived.Test.YtpjechjoijjhpaaGreatDoorZ29
import Derived.Test.YtpjechjoijjhpaaGreatDoorZ31
import Derived.Test.YtpjechjoijjhpaaGreatDoorZ30
import Derived.Test.YtpjechjoijjhpaaGreatDoorZ16
import Derived.Test.YtpjechjoijjhpaaGreatDoorZ02
set_option linter.unusedVariables false
set_option linter.unusedSimpArgs false
namespace Go.Proofs.YtpjechjoijjhpaaGreatDoor
open Go.RowKit Go.Inq
set_option maxHeartbeats 8000000
attribute [local go_sem↓] Go.wp_at_zero Go.wp_at_succ
set_option maxRecDepth 100000 in
theorem BA (A:Option Addr) (c:Nat) (H:List Txn) (level:Int) (At:Option Addr) (ct:Nat) (tree:List Nod) (n:Nod) (i:Nat) (l:List Cho) (Al:Option Addr) (cl:Nat) (w:World) (h:aC w (Old w) (.slice A H.length c) H) (hn:aA H) (ht:aY w (Old w) (.slice At tree.length ct) tree)
 (hl:aV w (Old w) (.slice Al l.length cl) l) (hlt:i<tree.length) (hni:tree[i]=n) (hc:n.cyc≠[]) (hcy:n.cyc.length≤1000000) (hln:l.length≤1000000):
 Calls Tryz.prog 133 #[.agg #[.slice A H.length c],.int .i64 level,.slice Al l.length cl,.slice At tree.length ct,.int .i64 (i:Int)] w fun e w'=>e= .returned (.bool (decide (n.c=dA)&&iE H level l n.cyc))∧Below w.heap.size w w':=by
 have hi0:(0:Int)≤(i:Int):=Int.natCast_nonneg _;have hi1:(i:Int)<(tree.length:Int):=(by omega);obtain⟨b,off,Ay,cy,rfl,hb0,d⟩:=aY.at_ ht hlt;rw[hni]at d;have Aj:b<w.heap.size:=hb0;obtain⟨⟨nk,na,nb⟩,nc⟩:=n;obtain⟨d0,d1,d2,d3,hI⟩:=d;dsimp only at d0 d1 d2 d3 hI hc hcy;have hcp:0<nc.length:=List.length_pos_iff.2 hc;have hz1:decide ((nc.length:Int)>0)=true:=decide_eq_true (by omega);have hz2:decide (0<nc.length)=true:=decide_eq_true hcp;obtain⟨W0,hW0⟩:∃W0,w.alloc (.cells #[.slice A H.length c] 24)=W0:=⟨_,rfl⟩;have hB:=ah (Below.refl w.heap.size w) hW0 (Nat.le_refl _);have k0:=Blk.newEq hW0;have e0:=(hB.cell (p:=⟨b,off+i*4,none⟩) Aj).trans d0;have e1:=(hB.cell (p:=⟨b,off+i*4+1,none⟩) Aj).trans d1;have e2:=(hB.cell (p:=⟨b,off+i*4+2,none⟩) Aj).trans d2;have e3:=(hB.cell (p:=⟨b,off+i*4+3,none⟩) Aj).trans d3;obtain⟨W1,hW1⟩:∃W1,W0.alloc (.cells #[.int .i64 nk,.int .i64 na,.int .i64 nb,.slice Ay nc.length cy] 93)=W1:=⟨_,rfl⟩;have hb1:=ah (Below.refl W0.heap.size W0) hW1 (Nat.le_refl _);have hB1:=hB.trans (hb1.mono hB.size);have k1:=Blk.newEq hW1;replace k0:=k0.below hb1 k0.lt;have hrg:=hide (xJ A c H level Al cl l Ay cy nc W1 (h.below hB1) hn (hl.below hB1) hln (hI.below hB1) hcy);clear h hn ht hl hlt hni hc hcp hcy hln hI d0 d1 d2 d3 hb0 Aj hB hb1;generalize iE H level l nc=q at*;have hz0:Hid ((⟨nk,na,nb⟩:Cho)≠⟨0,0,0⟩→decide ((⟨nk,na,nb⟩:Cho)=dA)=false):=hide fun hz=>decide_eq_false hz;obtain⟨r,hr⟩:∃r,decide ((⟨nk,na,nb⟩:Cho)=dA)=r:=⟨_,rfl⟩;rw[hr]at hz0⊢;replace hr:=hide hr;replace hW1:=hide hW1;go_enter Tryz.func133,Tryz.ntmps133;go_upto_region 2 with fail;rw[hW1.out];clear hW1 hW0 e0 e1 e2 e3;generalize W0.heap.size=gn at*;have c0:=Blk.n0 k0;have n0:=Blk.n0 k1;have n1:=Blk.n1 k1;have n2:=Blk.n2 k1;have n3:=Blk.n3 k1;go_wp2_with fail;refine hrg.out.mono ?_;rintro e w4 ⟨rfl,hb4⟩;have Gd:=hide (hB1.trans (hb4.mono hB1.size));replace k1:=k1.below hb4 k1.lt;clear hrg c0 n0 n1 n2 n3 k0 hb4 hB1;have n0:=Blk.n0 k1;have n1:=Blk.n1 k1;have n2:=Blk.n2 k1;clear k1;cases q with
 |false=>
  go_wp2;go_ret;exact⟨by simp,Gd.out⟩
 |true=>
  by_cases hz:(⟨nk,na,nb⟩:Cho)=⟨0,0,0⟩
  ·injection hz with z0 z1 z2
   subst z0 z1 z2;go_wp2;go_ret;exact⟨by rw[←hr.out];rfl,Gd.out⟩
  ·obtain rfl:=hz0.out hz;have hsp:nk≠0∨(nk=0∧na≠0)∨(nk=0∧na=0∧nb≠0):=by
    by_cases q0:nk=0
    ·by_cases q1:na=0
     ·by_cases q2:nb=0
      ·subst q0 q1 q2;exact absurd rfl hz
      ·exact .inr (.inr ⟨q0,q1,q2⟩)
     ·exact .inr (.inl ⟨q0,q1⟩)
    ·exact .inl q0
   clear hz hz0 hr;rcases hsp with q|⟨rfl,q⟩|⟨rfl,rfl,q⟩
   ·have qb:(nk==0)=false:=(by simpa using q);clear q;go_wp2;go_ret;exact⟨by simp,Gd.out⟩
   ·have qb:(na==0)=false:=(by simpa using q);clear q;go_wp2;go_ret;exact⟨by simp,Gd.out⟩
   ·have qb:(nb==0)=false:=(by simpa using q);clear q;go_wp2;go_ret;exact⟨by simp,Gd.out⟩
set_option maxRecDepth 100000 in
theorem BD (A:Option Addr) (c:Nat) (H:List Txn) (level:Int) (At:Option Addr) (ct:Nat) (tree:List Nod) (k a b:Int) (ix j:Nat) (l:List Cho) (qx qy:Bool) (Al:Option Addr) (cl:Nat) (w:World) (h:aC w (Old w) (.slice A H.length c) H) (hn:aA H) (ht:aY w (Old w) (.slice At tree.length ct) tree) (htl:tree.length≤1000000)
 (hl:aV w (Old w) (.slice Al l.length cl) l) (hlt:ix<tree.length) (hni:tree[ix]=⟨⟨k,a,b⟩,[]⟩) (hln:l.length≤1000000) (hej:om tree ((ix:Int)+1)=(j:Int))
 (hx0:∀(A':Option Addr) (c':Nat) (W:World),Below w.heap.size w W→aV W (Old W) (.slice A' (l++[(⟨k,a,b⟩:Cho)]).length c') (l++[⟨k,a,b⟩])→Calls Tryz.prog 133 #[.agg #[.slice A H.length c],.int .i64 level,.slice A' (l++[(⟨k,a,b⟩:Cho)]).length c',.slice At tree.length ct,.int .i64 ((ix:Int)+1)] W fun e w'=>e= .returned (.bool qx)∧Below W.heap.size W w')
 (hy0:∀(A':Option Addr) (c':Nat) (W:World),Below w.heap.size w W→aV W (Old W) (.slice A' (l++[(⟨k,b,a⟩:Cho)]).length c') (l++[⟨k,b,a⟩])→Calls Tryz.prog 133 #[.agg #[.slice A H.length c],.int .i64 level,.slice A' (l++[(⟨k,b,a⟩:Cho)]).length c',.slice At tree.length ct,.int .i64 (j:Int)] W fun e w'=>e= .returned (.bool qy)∧Below W.heap.size W w'):
 Calls Tryz.prog 133 #[.agg #[.slice A H.length c],.int .i64 level,.slice Al l.length cl,.slice At tree.length ct,.int .i64 (ix:Int)] w fun e w'=>e= .returned (.bool (qx&&qy&&dh H ⟨k,a,b⟩))∧Below w.heap.size w w':=by
 obtain⟨ic,hic,yY,yZ,PL⟩:=info_parts gY;have hi0:(0:Int)≤(ix:Int):=Int.natCast_nonneg _;have hi1:(ix:Int)<(tree.length:Int):=(by omega);obtain⟨bb,off,Ay,cy,rfl,hb0,d⟩:=aY.at_ ht hlt;rw[hni]at d;have Aj:bb<w.heap.size:=hb0;obtain⟨d0,d1,d2,d3,-⟩:=d;dsimp only at d0 d1 d2 d3;obtain⟨W0,hW0⟩:∃W0,w.alloc (.cells #[.slice A H.length c] 24)=W0:=⟨_,rfl⟩;have hB:=ah (Below.refl w.heap.size w) hW0 (Nat.le_refl _);have k0:=Blk.newEq hW0;have e0:=(hB.cell (p:=⟨bb,off+ix*4,none⟩) Aj).trans d0;have e1:=(hB.cell (p:=⟨bb,off+ix*4+1,none⟩) Aj).trans d1;have e2:=(hB.cell (p:=⟨bb,off+ix*4+2,none⟩) Aj).trans d2;have e3:=(hB.cell (p:=⟨bb,off+ix*4+3,none⟩) Aj).trans d3;obtain⟨W1,hW1⟩:∃W1,W0.alloc (.cells #[.int .i64 k,.int .i64 a,.int .i64 b,.slice Ay 0 cy] 93)=W1:=⟨_,rfl⟩;have hb1:=ah (Below.refl W0.heap.size W0) hW1 (Nat.le_refl _);have hB1:=hB.trans (hb1.mono hB.size);have k1:=Blk.newEq hW1;replace k0:=k0.below hb1 k0.lt;have hon:=hide (jA A c H ⟨k,a,b⟩ W1 (h.below hB1) hn);have hls:=hide (fun W (hW:Below w.heap.size w W)=>hl.below hW);have Kc:=hide (fun W (hW:Below w.heap.size w W)=>zV (some ⟨bb,off,none⟩) ct tree ((ix:Int)+1) W (ht.below hW) htl (by omega) (by omega));rw[hej]at Kc;replace hx0:=hide hx0;replace hy0:=hide hy0;simp only[List.length_nil]at e3;clear h hn ht hl hlt hni d0 d1 d2 d3 hb0 Aj hB hb1 hej;generalize dh H ⟨k,a,b⟩=q at*;replace hW1:=hide hW1;go_enter Tryz.func133,Tryz.ntmps133;go_upto_region 2 with fail;rw[hW1.out];clear hW1 hW0 e0 e1 e2 e3;generalize W0.heap.size=gn at*;have c0:=Blk.n0 k0;have n0:=Blk.n0 k1;have n1:=Blk.n1 k1;have n2:=Blk.n2 k1;have n3:=Blk.n3 k1;go_wp2_with fail;refine hon.out.mono ?_;rintro e w2 ⟨rfl,hb2⟩;have hB2:=hB1.trans (hb2.mono hB1.size);replace k0:=k0.below hb2 k0.lt;replace k1:=k1.below hb2 k1.lt;clear hon c0 n0 n1 n2 n3 hb2 hB1;cases q with
 |false=>
  clear hls Kc hx0 hy0 k0 k1;go_wp2;go_ret;exact⟨by simp,hB2⟩
 |true=>
  have c0:=Blk.n0 k0;have n0:=Blk.n0 k1;have n1:=Blk.n1 k1;have n2:=Blk.n2 k1;have n3:=Blk.n3 k1;have k02:=hide k0;have WH:=k0.lt;have k12:=hide k1;have UN:=hls.out w2 hB2;have hsz2:=hB2.size;go_upto_region 10 with(at_builtin;go_loud (refine bg (w:=w2) (enc:=dX) rfl (.tmp 44) (.tmp 45) 52 rfl w2.heap.size 62 ic _ 3 24 Tryz.underlying52 hic yY yZ PL rfl (by decide) (.slice none 0 0) (Old w2) ([]:List Cho) rfl (World.ownsRow_nil _ _ _ _) (fun _=>rfl) _ l rfl UN bR (by simp[maxLen];omega) (by simp;omega) (Nat.le_refl _) ?_);intro v3 w3 hown3 hg3 WI);rw[List.nil_append]at hown3;have hb3:Below w2.heap.size w2 w3:=below_grown (Below.refl _ _) hg3 (Nat.le_refl _) (fun j e=>by cases e);have hB3:=hB2.trans (hb3.mono hB2.size);replace k0:=k0.below hb3 k0.lt;replace k1:=k1.below hb3 k1.lt;have QL:=hb3.size;clear UN hg3 WI c0 n0 n1 n2 n3;obtain⟨A3,c3,rfl⟩:=aW hown3;replace hown3:=hide hown3;have c0:=Blk.n0 k0;have n0:=Blk.n0 k1;have n1:=Blk.n1 k1;have n2:=Blk.n2 k1;have n3:=Blk.n3 k1;obtain⟨N,hN⟩:∃N,l++[(⟨k,a,b⟩:Cho)]=N:=⟨_,rfl⟩;rw[hN]at hx0;have hNl:Hid (N.length=l.length+1):=hide (by rw[←hN];simp);have hNs:Hid (N.set l.length ⟨k,b,a⟩=l++[(⟨k,b,a⟩:Cho)]):=hide (by rw[←hN];simp);have hNx:Hid (∀h:l.length<N.length,N[l.length]=⟨k,a,b⟩):=hide fun h=>(by subst hN;simp);have hyl:Hid ((l++[(⟨k,b,a⟩:Cho)]).length=N.length):=hide (by rw[←hN];simp);replace hN:=hide hN;have QJ:=hB3.size;go_upto_region 11 with(at_builtin;go_loud (refine aN (W:=w3) (enc:=dX) rfl (.tmp 47) (.tmp 50) 52 rfl w2.heap.size 62 ic _ 3 24 Tryz.underlying52 hic yY yZ PL rfl (by decide) (.slice A3 l.length c3) l rfl hown3.out (fun _=>rfl) (⟨k,a,b⟩:Cho) _ rfl rfl bR (by simp[maxLen];omega) (by omega) QL w2 w2.heap.size (Nat.le_refl _) hb3 ?_);intro v4 w4 gD hg4 Gf PN);rw[hN.out]at gD;obtain⟨Am,cm,rfl⟩:=aW gD;have hB4:=hB2.trans (Gf.mono hB2.size);replace k0:=k02.out.below Gf k02.out.lt;replace k1:=k12.out.below Gf k12.out.lt;have hcall:=hide (hx0.out Am cm w4 hB4 (bG.sl (gD:bG w4 w2.heap.size (.slice Am N.length cm) N) (fun g _ h=>h)));replace gD:=hide (show bG w4 w2.heap.size (.slice Am N.length cm) N from gD);clear hx0 k02 k12 hb3 hB3 hg4 PN Gf hown3 c0 n0 n1 n2 n3 QJ QL;have c0:=Blk.n0 k0;have n0:=Blk.n0 k1;have n1:=Blk.n1 k1;have n2:=Blk.n2 k1;have n3:=Blk.n3 k1;go_wp2_with fail;refine Calls.mono hcall.out ?_;rintro e w5 ⟨rfl,hb5⟩;have hB5:=hB4.trans (hb5.mono hB4.size);replace k0:=k0.below hb5 k0.lt;replace k1:=k1.below hb5 k1.lt;have hown5:=hide (own_below gD.out hb5 (Nat.le_refl _));clear hcall gD hb5 hB4 c0 n0 n1 n2 n3;cases qx with
  |false=>
   clear k0 k1 hown5;go_wp2;go_ret;exact⟨by simp,hB5⟩
  |true=>
   have c0:=Blk.n0 k0;have n0:=Blk.n0 k1;have n1:=Blk.n1 k1;have n2:=Blk.n2 k1;have n3:=Blk.n3 k1;go_wp2_with fail;refine(iJ k a b w5).mono ?_;rintro e w6 ⟨rfl,hb6⟩;have hB6:=hB5.trans (hb6.mono hB5.size);replace k0:=k0.below hb6 k0.lt;have hown6:=own_below hown5.out hb6 (Nat.le_refl _);have hlN:l.length<N.length:=(by rw[hNl.out];omega);have hl0:(0:Int)≤(l.length:Int):=Int.natCast_nonneg _;have hl1:(l.length:Int)<(N.length:Int):=(by omega);obtain⟨g,cs,rfl,hgb,hgl,kg,e0,e1,e2,PO⟩:=bG.store hown6 hlN;rw[hNx.out hlN]at e0 e1 e2;have hsn:=hide (PO ⟨k,b,a⟩);rw[hNs.out]at hsn;dsimp only at e0 e1 e2;have f0:=kg.frozen (l.length*3);have f1:=kg.frozen (l.length*3+1);have f2:=kg.frozen (l.length*3+2);have d0:=(kg.cell (l.length*3)).trans e0;have d1:=(kg.cell (l.length*3+1)).trans e1;have d2:=(kg.cell (l.length*3+2)).trans e2;clear hown5 hown6 PO e0 e1 e2 kg n0 n1 n2 n3 c0 hb6 hB5 k1 hgl;go_upto_region 15 with fail;obtain⟨X,hX⟩:∃X,R3 w6 g l.length ⟨k,b,a⟩=X:=⟨_,rfl⟩;rw[hX]at hsn;have hBX:Below w.heap.size w X:=(by rw[←hX];exact zq hB6 (by omega));have UO:Below w2.heap.size w6 X:=(by rw[←hX];exact zq (Below.refl _ _) hgb);have UQ:Hid (((w6.setCell ⟨g,l.length*3,none⟩ (.int .i64 k)).setCell ⟨g,l.length*3+1,none⟩ (.int .i64 b)).setCell ⟨g,l.length*3+2,none⟩ (.int .i64 a)=X):=hide hX;rw[UQ.out];replace k0:=k0.below UO WH;have hq0:=hide (fun W (hW:Below X.heap.size X W)=>(hW.cell (p:=⟨w.heap.size,0,none⟩) k0.lt).trans (k0.cell 0));simp only[gA,gZ,gS]at hq0;have hend:=hide (fun W (hW:Below X.heap.size X W)=>Kc.out W (hBX.trans (hW.mono hBX.size)));have hsX:=hide (bG.sl (K:=Old X) (l:=l++[(⟨k,b,a⟩:Cho)]) (v:= .slice (some ⟨g,0,none⟩) N.length cm) hsn.out (fun g _ h=>h));have hy:=hide (fun W (hW:Below X.heap.size X W)=>hy0.out (some ⟨g,0,none⟩) cm W (hBX.trans (hW.mono hBX.size)) (by rw[hyl.out];exact hsX.out.below hW));rw[hyl.out]at hy;clear hX UQ hsn UO k0 d0 d1 d2 f0 f1 f2 hB6 Kc hy0 hls hNx hNs hNl hN;refine l7 (W0:=X) [qV (.agg #[.slice A H.length c]),qV (.int .i64 level),qV (.slice (some ⟨g,0,none⟩) N.length cm),qV (.slice (some ⟨bb,off,none⟩) tree.length ct),qV (.slice (some ⟨bb,off,none⟩) tree.length ct),qV (.int .i64 (ix:Int)),qV (.int .i64 ((ix:Int)+1)),qV (.int .i64 (j:Int)),qV (.bool qy),qV (.bool qy)] [0,0,0,0,0,0,32,112,255,511] [[],[],[],[],[],[],[5],[4,6],[0,1,2,3,7],[8]] (by kernel_rfl) (by kernel_rfl) (by kernel_rfl) (by simp) (Below.refl _ _) ?hstep ?hend;case hstep=>
    intro i o ho vs W hB hd
    match i,ho with
    |0,ho=>
     clear hd;simp only[gZ,gS,Option.some.injEq]at ho;subst ho;simp only[acV,gA,gZ,gS,Act.put,sA,sZ,sS];have v0:=hq0.out W hB;go_wp2;exact⟨rfl,_,rfl,rfl,hB,Below.refl _ _⟩
    |1,ho=>
     clear hd;simp only[gZ,gS,Option.some.injEq]at ho;subst ho;simp only[acV,gA,gZ,gS,Act.put,sA,sZ,sS];go_wp2;exact⟨rfl,_,rfl,rfl,hB,Below.refl _ _⟩
    |2,ho=>
     clear hd;simp only[gZ,gS,Option.some.injEq]at ho;subst ho;simp only[acV,gA,gZ,gS,Act.put,sA,sZ,sS];go_wp2;exact⟨rfl,_,rfl,rfl,hB,Below.refl _ _⟩
    |3,ho=>
     clear hd;simp only[gZ,gS,Option.some.injEq]at ho;subst ho;simp only[acV,gA,gZ,gS,Act.put,sA,sZ,sS];go_wp2;exact⟨rfl,_,rfl,rfl,hB,Below.refl _ _⟩
    |4,ho=>
     clear hd;simp only[gZ,gS,Option.some.injEq]at ho;subst ho;simp only[acV,gA,gZ,gS,Act.put,sA,sZ,sS];go_wp2;exact⟨rfl,_,rfl,rfl,hB,Below.refl _ _⟩
    |5,ho=>
     clear hd;simp only[gZ,gS,Option.some.injEq]at ho;subst ho;simp only[acV,gA,gZ,gS,Act.put,sA,sZ,sS];go_wp2;exact⟨rfl,_,rfl,rfl,hB,Below.refl _ _⟩
    |6,ho=>
     have e5:vs 5= .int .i64 (ix:Int):=hd 5 (by simp);clear hd;simp only[gZ,gS,Option.some.injEq]at ho;subst ho;simp only[acV,gA,gZ,gS,Act.put,sA,sZ,sS];rw[e5];go_wp2;exact⟨rfl,_,rfl,rfl,hB,Below.refl _ _⟩
    |7,ho=>
     have e4:vs 4= .slice (some ⟨bb,off,none⟩) tree.length ct:=hd 4 (by simp);have e6:vs 6= .int .i64 ((ix:Int)+1):=hd 6 (by simp);clear hd;simp only[gZ,gS,Option.some.injEq]at ho;subst ho;simp only[acV,gA,gZ,gS,Act.put,sA,sZ,sS];rw[e4,e6];go_wp2_with fail;refine Calls.mono (hend.out W hB) ?_;rintro e W2 ⟨rfl,b3⟩;go_wp2;exact⟨rfl,_,rfl,rfl,hB.trans (b3.mono hB.size),b3⟩
    |8,ho=>
     have e0:vs 0= .agg #[.slice A H.length c]:=hd 0 (by simp);have e1:vs 1= .int .i64 level:=hd 1 (by simp);have e2:vs 2= .slice (some ⟨g,0,none⟩) N.length cm:=hd 2 (by simp);have e3:vs 3= .slice (some ⟨bb,off,none⟩) tree.length ct:=hd 3 (by simp);have e7:vs 7= .int .i64 (j:Int):=hd 7 (by simp);clear hd;simp only[gZ,gS,Option.some.injEq]at ho;subst ho;simp only[acV,gA,gZ,gS,Act.put,sA,sZ,sS];rw[e0,e1,e2,e3,e7];go_wp2_with fail;refine Calls.mono (hy.out W hB) ?_;rintro e W2 ⟨rfl,b3⟩;go_wp2;exact⟨rfl,_,rfl,rfl,hB.trans (b3.mono hB.size),b3⟩
    |9,ho=>
     have e8:vs 8= .bool qy:=hd 8 (by simp);clear hd;simp only[gZ,gS,Option.some.injEq]at ho;subst ho;simp only[acV,gA,gZ,gS,Act.put,sA,sZ,sS];rw[e8];go_wp2;exact⟨rfl,_,rfl,rfl,hB,Below.refl _ _⟩
    |i+10,ho=>simp at ho
   case hend=>
    intro vs W hB hd;have eN:vs 9= .bool qy:=hd 9 (by simp);have hbF:=hBX.trans (hB.mono hBX.size);clear hd;simp only[acV,gA,gZ,gS,Act.put,sA,sZ,sS,List.length_cons,List.length_nil,Nat.reduceAdd];rw[eN];go_wp2;go_ret;exact⟨by simp,hbF⟩
theorem D5(A:Option Addr)(c:Nat)(H:List Txn)(level:Int)(hn:aA H)(At:Option Addr)(ct:Nat)(tree:List Nod)(htl:tree.length≤1000000)(hcy:∀n∈tree,n.cyc.length≤1000000):∀(t:Tr) (i:Nat) (r:List Nod) (l:List Cho) (Al:Option Addr) (cl:Nat) (w:World),aC w (Old w) (.slice A H.length c) H→aY w (Old w) (.slice At tree.length ct) tree→
 aV w (Old w) (.slice Al l.length cl) l→tree.drop i=t.flat++r→t.ok→l.length+t.flat.length≤1000001→Calls Tryz.prog 133 #[.agg #[.slice A H.length c],.int .i64 level,.slice Al l.length cl,.slice At tree.length ct,.int .i64 (i:Int)] w fun e w'=>e= .returned (.bool (t.held H level l))∧Below w.heap.size w w':=by
 intro t
 induction t with
 |leaf n=>
  intro i r l Al cl w h ht hl hd ho hs;have hlen:=congrArg List.length hd;simp only[Tr.flat,List.length_drop,List.length_append,List.length_singleton]at hlen hs;have hlt:i<tree.length:=(by omega);have hni:tree[i]=n:=by
   rw[List.drop_eq_getElem_cons hlt]at hd;exact(List.cons.inj hd).1
  exact BA A c H level At ct tree n i l Al cl w h hn ht hl hlt hni ho (hcy n (hni▸List.getElem_mem hlt)) (by omega)
 |fork cc x y ihx ihy=>
  intro i r l Al cl w h ht hl hd ho hs;obtain⟨k,a,b⟩:=cc;have hlen:=congrArg List.length hd;simp only[Tr.flat,List.length_drop,List.length_append,List.length_cons]at hlen hs;have hlt:i<tree.length:=(by omega);rw[List.drop_eq_getElem_cons hlt]at hd;have hd0:tree[i]::tree.drop (i+1)=⟨⟨k,a,b⟩,[]⟩::(x.flat++(y.flat++r)):=(by rw[hd];simp[Tr.flat]);obtain⟨hni,hd1⟩:=List.cons.inj hd0;have hxl:=tT x;have hj:=DX hd1 ho.1 (by omega);have hej:om tree ((i:Int)+1)=((i+1+x.flat.length:Nat):Int):=by
   rw[show(i:Int)+1=((i+1:Nat):Int) by omega,hj];omega
  have hd2:tree.drop (i+1+x.flat.length)=y.flat++r:=(by rw[←List.drop_drop,hd1,List.drop_left]);have hx:∀(A':Option Addr) (c':Nat) (W:World),Below w.heap.size w W→aV W (Old W) (.slice A' (l++[(⟨k,a,b⟩:Cho)]).length c') (l++[⟨k,a,b⟩])→_:=fun A' c' W hW hC=>ihx (i+1) (y.flat++r) (l++[⟨k,a,b⟩]) A' c' W (h.below hW) (ht.below hW) hC hd1 ho.1 (by rw[List.length_append,List.length_singleton];omega);have hy:∀(A':Option Addr) (c':Nat) (W:World),Below w.heap.size w W→aV W (Old W) (.slice A' (l++[(⟨k,b,a⟩:Cho)]).length c') (l++[⟨k,b,a⟩])→_:=fun A' c' W hW hC=>ihy (i+1+x.flat.length) r (l++[⟨k,b,a⟩]) A' c' W (h.below hW) (ht.below hW) hC hd2 ho.2 (by rw[List.length_append,List.length_singleton];omega);exact BD A c H level At ct tree k a b i (i+1+x.flat.length) l (x.held H level (l++[⟨k,a,b⟩])) (y.held H level (l++[⟨k,b,a⟩])) Al cl w h hn ht htl hl hlt hni (by omega) hej (fun A' c' W hW hC=>by
   have:=hx A' c' W hW hC;rw[show((i+1:Nat):Int)=(i:Int)+1 by omega]at this;exact this) hy
end Go.Proofs.YtpjechjoijjhpaaGreatDoor
