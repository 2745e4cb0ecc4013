/-
  Walks: layer 18: all that must not lead back.
-/
import Derived.Test.YtfhnamomiaekdaaGreatDoorP18
import Derived.Test.YtfhnamomiaekdaaGreatDoorP15
set_option linter.unusedVariables false
set_option linter.unusedSimpArgs false
namespace Go.Proofs.YtfhnamomiaekdaaGreatDoor
open Go.RowKit Go.Inq
set_option maxHeartbeats 8000000
attribute [local go_sem↓] Go.wp_at_zero Go.wp_at_succ
def kD(H:List Txn)(A:Option Addr)(c:Nat)(Al:Option Addr)(cl:Nat)(l:List Cho)(base:Nat):Nat→(Nat→Value)→World→Prop
 |0,vs,_=>vs 0= .agg #[.slice A H.length c]
 |1,vs,W=>GV base H.length (bq H) (vs 1) W
 |2,vs,_=>vs 2= .agg #[.slice A H.length c]
 |3,vs,_=>vs 3= .slice Al l.length cl
 |4,vs,W=>GV base H.length (wwE l) (vs 4) W
 |5,vs,W=>∃g5 g',vs 5= .slice (some ⟨g5,0,none⟩) 1 1∧Blk W g5 77 #[.int .i64 H.length,.slice (some ⟨g',0,none⟩) H.length H.length]∧base≤g'∧Blk W g' 172 (bF H.length (wwE l))
 |6,vs,W=>GV base H.length (orE (bq H) (wwE l)) (vs 6) W
 |7,vs,W=>ze base (vs 7) W
 |8,vs,W=>∃g x y,vs 7= .pointer (some ⟨g,0,none⟩)∧base≤g∧vs 6= .agg #[x,y]∧Blk W g 77 #[x,y]
 |_,_,_=>True
def kH:Nat→List Nat
 |1=>[0]
 |4=>[2,3]
 |5=>[4]
 |6=>[1,5]
 |8=>[7,6]
 |_=>[]
def AV:Nat→List Nat
 |8=>[5]
 |_=>[]
theorem Le{H:List Txn}{A:Option Addr}{c:Nat}{Al:Option Addr}{cl:Nat}{l:List Cho}{base:Nat}:∀j (vs vs':Nat→Value) w,(∀k,k=j∨k∈kH j→vs k=vs' k)→kD H A c Al cl l base j vs w→kD H A c Al cl l base j vs' w:=by
 intro j vs vs' w hk h
 match j,h with
 |0,h|1,h|2,h|3,h|4,h|5,h|6,h|7,h=>
  simp only[kD]at h⊢;rw[←hk _ (.inl rfl)];exact h
 |8,h=>
  simp only[kD]at h⊢;rw[←hk 7 (.inr (by simp[kH])),←hk 6 (.inr (by simp[kH]))];exact h
 |n+9,_=>trivial
def mW(base:Nat)(i:Nat)(W W':World):Prop:=if i=8 then gB base W W' else Below W.heap.size W W'
theorem mW.var{base i:Nat}{W W':World}(h:mW base i W W'):gB base W W':=by
 unfold mW at h;split at h
 ·exact h
 ·exact gB.of_below h
theorem Gy{H:List Txn}{A:Option Addr}{c:Nat}{Al:Option Addr}{cl:Nat}{l:List Cho}{base:Nat}:∀i j (vs:Nat→Value) w w',j≠i→j∉AV i→kD H A c Al cl l base j vs w→mW base i w w'→kD H A c Al cl l base j vs w':=by
 intro i j vs w w' hne hkl h hs;have hv:=hs.var
 match j,h with
 |0,h|2,h|3,h=>exact h
 |1,h|4,h|6,h=>
  simp only[kD]at h⊢;exact h.var hv
 |5,h=>
  have hi:i≠8:=(by rintro rfl;exact hkl (by simp[AV]));unfold mW at hs;rw[if_neg hi]at hs;simp only[kD]at h⊢;obtain⟨g5,g',h1,h2,h3,h4⟩:=h;exact⟨g5,g',h1,h2.below hs h2.lt,h3,h4.below hs h4.lt⟩
 |7,h=>
  simp only[kD]at h⊢;exact ze.var h hv
 |8,h=>
  unfold mW at hs;rw[if_neg (fun e=>hne e.symm)]at hs;simp only[kD]at h⊢;obtain⟨g,x,y,h1,h2,h3,h4⟩:=h;exact⟨g,x,y,h1,h2,h3,h4.below hs h4.lt⟩
 |n+9,_=>trivial
theorem Gz:∀i,9≤i→kH i=[]:=by
 intro i hi
 match i,hi with
 |n+9,_=>rfl
theorem AX(H:List Txn)(level:Int)(l:List Cho):eH H level l=orE (orE (bq H) (wwE l)) (if level=1 then jZ H.length (orE (bq H) (wwE l)) (rwE H l)else rwE H l):=rfl
set_option maxRecDepth 100000 in
theorem DC(A:Option Addr)(c:Nat)(H:List Txn)(level:Int)(Al:Option Addr)(cl:Nat)(l:List Cho)(w:World)(h:aA w (Old w) (.slice A H.length c) H)(hn:aG H)(hl:bR w (Old w) (.slice Al l.length cl) l)(hr:gW H l=true)(wJ:level=0∨level=1)(hTB:jB w):
 Calls Tryz.prog 37 #[.agg #[.slice A H.length c],.int .i64 level,.slice Al l.length cl] w (F8 w H.length (eH H level l)):=by
 obtain⟨W0,hW0⟩:∃W0,(w.alloc (.cells #[.slice A H.length c] 24)).alloc (.cells #[.int .i64 0,.slice none 0 0] 77)=W0:=⟨_,rfl⟩;have hB:=aN hW0;have k0:=Blk.jg hW0;have k1:=Blk.iB hW0;have hs0:=size_two hW0;have hrh:=mV hr;have h32:H.length≤32:=((aC H).1 hrh).1;have hll:=oQ hr;have h0:=hide (h.below hB);have hl0:=hide (hl.below hB);replace hr:=hide hr;replace hn:=hide hn;replace hl:=hide hl;replace h:=hide h;replace hrh:=hide hrh;have c0:=Blk.n0 k0;have hq0:(level !=0)=false∨((level !=0)=true∧(level !=1)=false):=by
  rcases wJ with rfl|rfl
  ·exact .inl rfl
  ·exact .inr ⟨rfl,rfl⟩
 replace wJ:=hide wJ;replace hs0:=hide hs0;go_enter Tryz.func37,Tryz.ntmps37;go_wp2_with fail;clear hW0 c0;refine(mU A c H Al cl l _ h0.out hn.out hl0.out (by omega)).mono ?_;rintro e w1 ⟨rfl,hb1⟩;rw[hr.out];have hs1:w.heap.size+2≤w1.heap.size:=(by have:=hb1.size;have:=hs0.out;omega);replace k0:=k0.below hb1 k0.lt;replace k1:=k1.below hb1 k1.lt;have hb2:=hB.trans (hb1.mono hB.size);clear hb1 hB h0 hl0 hs0;rcases hq0 with q1|⟨q1,q2⟩;all_goals
  go_wp2_with fail;refine dV (kD H A c Al cl l (w.heap.size+2)) (fun W=>Below w.heap.size w W∧Blk W w.heap.size 24 #[.slice A H.length c]∧Blk W (w.heap.size+1) 77 #[.int .i64 0,.slice none 0 0]) (mW (w.heap.size+2)) kH (by kernel_rfl) (by kernel_rfl) (by kernel_rfl) Gz AV (by kernel_rfl) Le Gy ⟨hb2.drew,k0,k1⟩ ?hstep ?hend;case hstep=>
   intro i o ho vs W hS hd;obtain⟨hb,m0,m1⟩:=hS;have hT:=h.out.below hb;have hC:=hl.out.below hb;have hsz:=m1.lt
   match i,ho with
   |0,ho=>
    simp only[gZ,gS,Option.some.injEq]at ho;subst ho;simp only[acV,gA,gZ,gS,Act.put,sA,sZ,sS];have c0:=Blk.n0 m0;go_wp2;exact⟨rfl,.agg #[.slice A H.length c],rfl,rfl,⟨hb,m0,m1⟩,Below.refl _ _⟩
   |1,ho=>
    have d0:=hd 0 (by simp[kH]);simp only[kD]at d0;simp only[gZ,gS,Option.some.injEq]at ho;subst ho;simp only[acV,gA,gZ,gS,Act.put,sA,sZ,sS];rw[d0];go_wp2_with fail;refine(uR A c H _ hT hn.out hrh.out).mono ?_;rintro e W2 ⟨g,hg,rfl,kR,hb2⟩;go_wp2;exact⟨rfl,_,rfl,⟨g,by omega,rfl,kR⟩,⟨hb.trans (hb2.mono hb.size),m0.below hb2 m0.lt,m1.below hb2 m1.lt⟩,hb2⟩
   |2,ho=>
    simp only[gZ,gS,Option.some.injEq]at ho;subst ho;simp only[acV,gA,gZ,gS,Act.put,sA,sZ,sS];have c0:=Blk.n0 m0;go_wp2;exact⟨rfl,.agg #[.slice A H.length c],rfl,rfl,⟨hb,m0,m1⟩,Below.refl _ _⟩
   |3,ho=>
    simp only[gZ,gS,Option.some.injEq]at ho;subst ho;simp only[acV,gA,gZ,gS,Act.put,sA,sZ,sS];go_wp2;exact⟨rfl,.slice Al l.length cl,rfl,rfl,⟨hb,m0,m1⟩,Below.refl _ _⟩
   |4,ho=>
    have d2:=hd 2 (by simp[kH]);have d3:=hd 3 (by simp[kH]);simp only[kD]at d2 d3;simp only[gZ,gS,Option.some.injEq]at ho;subst ho;simp only[acV,gA,gZ,gS,Act.put,sA,sZ,sS];rw[d2,d3];go_wp2_with fail;refine(JF A c H Al cl l _ hT hn.out hC hr.out).mono ?_;rintro e W2 ⟨g,hg,rfl,kR,hb2⟩;go_wp2;exact⟨rfl,_,rfl,⟨g,by omega,rfl,kR⟩,⟨hb.trans (hb2.mono hb.size),m0.below hb2 m0.lt,m1.below hb2 m1.lt⟩,hb2⟩
   |5,ho=>
    obtain⟨g4,hg4,d4,q4⟩:=hd 4 (by simp[kH]);simp only[gZ,gS,Option.some.injEq]at ho;subst ho;simp only[acV,gA,gZ,gS,Act.put,sA,sZ,sS];rw[d4];go_wp2;exact⟨rfl,_,rfl,⟨W.heap.size,g4,rfl,Blk.new _ _ _,hg4,q4.alloc _⟩,⟨hb.alloc hb.size _,m0.alloc _,m1.alloc _⟩,(Below.refl _ _).alloc (Nat.le_refl _) _⟩
   |6,ho=>
    obtain⟨gp,hgp,d1,qp⟩:=hd 1 (by simp[kH]);obtain⟨g5,g',d5,q5,hg',qw⟩:=hd 5 (by simp[kH]);simp only[gZ,gS,Option.some.injEq]at ho;subst ho;simp only[acV,gA,gZ,gS,Act.put,sA,sZ,sS];rw[d1,d5];go_wp2_with fail;refine(rz H.length _ _ _ _ (bq H) (wwE l) g5 _ (GrS.bW qp qp.lt (by omega)) (GrS.bW qw qw.lt (by omega)) q5).mono ?_;rintro e W2 ⟨g,hg,rfl,kR,hb2⟩;go_wp2;exact⟨rfl,_,rfl,⟨g,by omega,rfl,kR⟩,⟨hb.trans (hb2.mono hb.size),m0.below hb2 m0.lt,m1.below hb2 m1.lt⟩,hb2⟩
   |7,ho=>
    simp only[gZ,gS,Option.some.injEq]at ho;subst ho;simp only[acV,gA,gZ,gS,Act.put,sA,sZ,sS];go_wp2;exact⟨rfl,_,rfl,⟨W.heap.size,by omega,rfl,_,_,Blk.new _ _ _⟩,⟨hb.alloc hb.size _,m0.alloc _,m1.alloc _⟩,(Below.refl _ _).alloc (Nat.le_refl _) _⟩
   |8,ho=>
    obtain⟨g,hg,d7,x,y,q7⟩:=hd 7 (by simp[kH]);obtain⟨g6,hg6,d6,q6⟩:=hd 6 (by simp[kH]);simp only[gZ,gS,Option.some.injEq]at ho;subst ho;simp only[acV,gA,gZ,gS,Act.put,sA,sZ,sS];rw[d7,d6];have c0:=Blk.n0 q7;have c1:=Blk.n1 q7;have f0:=q7.frozen 0;have f1:=q7.frozen 1;go_wp2;have hq:=(q7.aK 0 (.int .i64 H.length)).aK 1 (.slice (some ⟨g6,0,none⟩) H.length H.length);have n1:w.heap.size≠g:=(by omega);have n2:w.heap.size+1≠g:=(by omega);refine⟨rfl,undef,rfl,⟨g,_,_,(show dx vs 8 undef 7=_ from d7),hg,(show dx vs 8 undef 6=_ from d6),by simpa using hq⟩,⟨(hb.setCell (p:=⟨g,0,none⟩) (by simp;omega) _).setCell (p:=⟨g,1,none⟩) (by simp;omega) _,(m0.far n1 _).far n1 _,(m1.far n2 _).far n2 _⟩,?_⟩;unfold mW;rw[if_pos rfl];refine⟨⟨rfl,rfl,rfl,by simp⟩,fun k hk=> ?_⟩;by_cases e:k=g
    ·subst e;exact .inr ⟨hg,_,_,q7,hq,by simp⟩
    ·exact .inl ((Below.heap_setCell _ ⟨g,1,none⟩ _ k e).trans (Below.heap_setCell _ ⟨g,0,none⟩ _ k e))
   |n+9,ho=>simp at ho
  case hend=>
   rintro vs W ⟨hb,m0,m1⟩ hd;obtain⟨g,x,y,d7,hg,d6,q8⟩:=hd 8 (by simp) (by intro i _;unfold AV;split<;>simp);obtain⟨g6,hg6,d6',q6⟩:=hd 6 (by simp) (by intro i _;unfold AV;split<;>simp);rw[d6]at d6';injection d6' with d6'
   simp only[Array.mk.injEq,List.cons.injEq,and_true]at d6';obtain⟨rfl,rfl⟩:=d6';clear hd;simp only[acV,gA,gZ,gS,Act.put,sA,sZ,sS,List.length_cons,List.length_nil,Nat.reduceAdd];rw[d7,d6];have hT:=hide (h.out.below hb);have hC:=hide (hl.out.below hb);have c0:=Blk.n0 m0;clear k0 k1 hb2 d6 d7;go_wp2_with fail;refine(JJ A c H Al cl l _ hT.out hn.out hC.out hr.out).mono ?_;rintro e W2 ⟨gr,hgr,rfl,kRr,hb2⟩;clear c0 hT hC;obtain⟨W3,hW3⟩:∃W3,W2.alloc (.cells #[.int .i64 H.length,.slice (some ⟨gr,0,none⟩) H.length H.length] 77)=W3:=⟨_,rfl⟩;have hB3:=ah (Below.refl W2.heap.size W2) hW3 (Nat.le_refl _);have k9:=Blk.newEq hW3;have hBW:=hb2.trans (hB3.mono hb2.size);have m1c:=m1.below hBW m1.lt;have q8c:=q8.below hBW q8.lt;have q6c:=q6.below hBW q6.lt;have kOc:=kRr.below hB3 kRr.lt;have hbc:=hb.trans (hBW.mono hb.size);have GA:=hTB.below hbc;have hsz:=m1.lt;have hq8:=q8.lt;have hw2:=hb2.size;clear hBW hB3 hb2 hb m0 m1 q8 q6 kRr;by_cases h1:level=1
   ·have q3:(level==1)=true:=(by simpa using h1);have hfe:Hid (eH H level l=orE (orE (bq H) (wwE l)) (jZ H.length (orE (bq H) (wwE l)) (rwE H l))):=hide (by rw[AX,if_pos h1]);clear h1;have a0:=Blk.n0 q8c;have a1:=Blk.n1 q8c;have b0:=Blk.n0 k9;have b1:=Blk.n1 k9;have hcp:=hide (Dq H.length _ _ _ _ (orE (bq H) (wwE l)) (rwE H l) (fun b=>b=g6∨b=gr) W3 (GrS.bW q6c (.inl rfl) (by omega)) (GrS.bW kOc (.inr rfl) (by omega)) (by rintro b (rfl|rfl);exact q6c.lt;exact kOc.lt) GA);go_wp2_with fail;clear a0 a1 b0 b1 hW3;refine hcp.out.mono ?_;rintro e W4 ⟨gc,hgc,rfl,kRc,hb4⟩;have k94:=k9.below hb4 k9.lt;have c0:=Blk.n0 k94;have c1:=Blk.n1 k94;have f0:=k94.frozen 0;have f1:=k94.frozen 1;have QZ:=k9.lt;have Q0:=q6c.lt;have ng:g≠W2.heap.size:=(by omega);have nr:w.heap.size+1≠W2.heap.size:=(by omega);have nc:gc≠W2.heap.size:=(by omega);have n6:g6≠W2.heap.size:=by
     rintro rfl;have:=k9.symm.trans q6c;simp at this
    have m1d:=((m1c.below hb4 m1c.lt).far (p:=⟨W2.heap.size,0,none⟩) nr (.int .i64 H.length)).far (p:=⟨W2.heap.size,1,none⟩) nr (.slice (some ⟨gc,0,none⟩) H.length H.length);have q8d:=((q8c.below hb4 q8c.lt).far (p:=⟨W2.heap.size,0,none⟩) ng (.int .i64 H.length)).far (p:=⟨W2.heap.size,1,none⟩) ng (.slice (some ⟨gc,0,none⟩) H.length H.length);have q6d:=((q6c.below hb4 q6c.lt).far (p:=⟨W2.heap.size,0,none⟩) n6 (.int .i64 H.length)).far (p:=⟨W2.heap.size,1,none⟩) n6 (.slice (some ⟨gc,0,none⟩) H.length H.length);have kOd:=(kRc.far (p:=⟨W2.heap.size,0,none⟩) nc (.int .i64 H.length)).far (p:=⟨W2.heap.size,1,none⟩) nc (.slice (some ⟨gc,0,none⟩) H.length H.length);have k9d:=(k94.aK 0 (.int .i64 H.length)).aK 1 (.slice (some ⟨gc,0,none⟩) H.length H.length);simp only[sA,sZ,sS]at k9d;have hbd:=((hbc.trans (hb4.mono hbc.size)).setCell (p:=⟨W2.heap.size,0,none⟩) (by simp;omega) (.int .i64 H.length)).setCell (p:=⟨W2.heap.size,1,none⟩) (by simp;omega) (.slice (some ⟨gc,0,none⟩) H.length H.length);clear m1c q8c q6c kOc hbc k9 k94 kRc hcp GA hb4;obtain⟨Wd,hWd⟩:∃Wd,(W4.setCell ⟨W2.heap.size,0,none⟩ (.int .i64 H.length)).setCell ⟨W2.heap.size,1,none⟩ (.slice (some ⟨gc,0,none⟩) H.length H.length)=Wd:=⟨_,rfl⟩;rw[hWd]at m1d q8d q6d kOd k9d hbd;have m1c:=m1d;have q8c:=q8d;have q6c:=q6d;have kOc:=kOd;have k9c:=k9d;have hbc:=hbd;clear m1d q8d q6d kOd k9d hbd;have a0:=Blk.n0 q8c;have a1:=Blk.n1 q8c;have b0:=Blk.n0 k9c;have b1:=Blk.n1 k9c;obtain⟨W5,hW5⟩:∃W5,(Wd).alloc (.cells #[.int .i64 H.length,.slice (some ⟨gc,0,none⟩) H.length H.length] 77)=W5:=⟨_,rfl⟩;have hB5:=ah (Below.refl (Wd).heap.size Wd) hW5 (Nat.le_refl _);have kN:=Blk.newEq hW5;have hcall:=hide (rz H.length _ _ _ _ (orE (bq H) (wwE l)) (jZ H.length (orE (bq H) (wwE l)) (rwE H l)) (Wd).heap.size W5 (GrS.bW (q6c.below hB5 q6c.lt) (Nat.lt_of_lt_of_le q6c.lt hB5.size) (by omega)) (GrS.bW (kOc.below hB5 kOc.lt) (Nat.lt_of_lt_of_le kOc.lt hB5.size) (by omega)) kN);have m15:=m1c.below hB5 m1c.lt;have hb5:=hbc.trans (hB5.mono hbc.size);clear kN hB5;go_wp2_with fail;clear a0 a1 b0 b1 hW5;refine hcall.out.mono ?_;rintro e W6 ⟨gz,hgz,rfl,kRz,hb6⟩;have m16:=m15.below hb6 m15.lt;have hb7:=hb5.trans (hb6.mono hb5.size);have j0:=Blk.n0 m16;have j1:=Blk.n1 m16;have jf:=m16.frozen 0;have jf1:=m16.frozen 1;have hml:=m15.lt;have n1:gz≠w.heap.size+1:=(by omega);clear hcall;go_wp2;exact bodyPost_ret (v:= .tuple #[.agg #[.int .i64 H.length,.slice (some ⟨gz,0,none⟩) H.length H.length],.int .i64 0]) (by simp[results,Tryz.results37,go_sem,j0,j1]) rfl ⟨gz,by omega,rfl,by rw[hfe.out];exact(kRz.far (p:=⟨w.heap.size+1,0,none⟩) n1 _).far (p:=⟨w.heap.size+1,1,none⟩) n1 _,(hb7.setCell (p:=⟨w.heap.size+1,0,none⟩) (by simp) _).setCell (p:=⟨w.heap.size+1,1,none⟩) (by simp) _⟩
   ·have q3:(level==1)=false:=(by simpa using h1);have hfe:Hid (eH H level l=orE (orE (bq H) (wwE l)) (rwE H l)):=hide (by rw[AX,if_neg h1]);have k9c:=k9;clear h1 k9;have a0:=Blk.n0 q8c;have a1:=Blk.n1 q8c;have b0:=Blk.n0 k9c;have b1:=Blk.n1 k9c;obtain⟨W5,hW5⟩:∃W5,(W3).alloc (.cells #[.int .i64 H.length,.slice (some ⟨gr,0,none⟩) H.length H.length] 77)=W5:=⟨_,rfl⟩;have hB5:=ah (Below.refl (W3).heap.size W3) hW5 (Nat.le_refl _);have kN:=Blk.newEq hW5;have hcall:=hide (rz H.length _ _ _ _ (orE (bq H) (wwE l)) (rwE H l) (W3).heap.size W5 (GrS.bW (q6c.below hB5 q6c.lt) (Nat.lt_of_lt_of_le q6c.lt hB5.size) (by omega)) (GrS.bW (kOc.below hB5 kOc.lt) (Nat.lt_of_lt_of_le kOc.lt hB5.size) (by omega)) kN);have m15:=m1c.below hB5 m1c.lt;have hb5:=hbc.trans (hB5.mono hbc.size);clear kN hB5;go_wp2_with fail;clear a0 a1 b0 b1 hW5;refine hcall.out.mono ?_;rintro e W6 ⟨gz,hgz,rfl,kRz,hb6⟩;have m16:=m15.below hb6 m15.lt;have hb7:=hb5.trans (hb6.mono hb5.size);have j0:=Blk.n0 m16;have j1:=Blk.n1 m16;have jf:=m16.frozen 0;have jf1:=m16.frozen 1;have hml:=m15.lt;have n1:gz≠w.heap.size+1:=(by omega);clear hcall;go_wp2;exact bodyPost_ret (v:= .tuple #[.agg #[.int .i64 H.length,.slice (some ⟨gz,0,none⟩) H.length H.length],.int .i64 0]) (by simp[results,Tryz.results37,go_sem,j0,j1]) rfl ⟨gz,by omega,rfl,by rw[hfe.out];exact(kRz.far (p:=⟨w.heap.size+1,0,none⟩) n1 _).far (p:=⟨w.heap.size+1,1,none⟩) n1 _,(hb7.setCell (p:=⟨w.heap.size+1,0,none⟩) (by simp) _).setCell (p:=⟨w.heap.size+1,1,none⟩) (by simp) _⟩
end Go.Proofs.YtfhnamomiaekdaaGreatDoor
