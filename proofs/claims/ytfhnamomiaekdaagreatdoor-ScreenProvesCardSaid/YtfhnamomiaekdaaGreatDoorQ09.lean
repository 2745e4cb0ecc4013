/-
  Walks: layer 18: all that must not lead back.
-/
import Derived.Deep.WholeRow
import Derived.Test.YtfhnamomiaekdaaGreatDoorQ08
import Derived.Test.YtfhnamomiaekdaaGreatDoorQ04
import Derived.Test.YtfhnamomiaekdaaGreatDoorQ07
set_option linter.unusedVariables false
set_option linter.unusedSimpArgs false
namespace Go.Proofs.YtfhnamomiaekdaaGreatDoor
open Go.RowKit Go.Inq
set_option maxHeartbeats 8000000
attribute [local go_sem↓] Go.wp_at_zero Go.wp_at_succ
def kK(H:List Txn)(A:Option Addr)(c:Nat)(Al:Option Addr)(cl:Nat)(l:List Cho)(base:Nat):Nat→(Nat→Value)→World→Prop
 |0,vs,_=>vs 0= .agg #[.slice A H.length c]
 |1,vs,W=>GV base H.length (bG H) (vs 1) W
 |2,vs,_=>vs 2= .agg #[.slice A H.length c]
 |3,vs,_=>vs 3= .slice Al l.length cl
 |4,vs,W=>GV base H.length (wwE l) (vs 4) W
 |5,vs,W=>∃g5 g',vs 5= .slice (some ⟨g5,0,none⟩) 1 1∧Blk W g5 77 #[.int .i64 H.length,.slice (some ⟨g',0,none⟩) H.length H.length]∧base≤g'∧Blk W g' 172 (bn H.length (wwE l))
 |6,vs,W=>GV base H.length (orE (bG H) (wwE l)) (vs 6) W
 |7,vs,W=>D9 base (vs 7) W
 |8,vs,W=>∃g x y,vs 7= .pointer (some ⟨g,0,none⟩)∧base≤g∧vs 6= .agg #[x,y]∧Blk W g 77 #[x,y]
 |_,_,_=>True
def kL:Nat→List Nat
 |1=>[0]
 |4=>[2,3]
 |5=>[4]
 |6=>[1,5]
 |8=>[7,6]
 |_=>[]
def BR:Nat→List Nat
 |8=>[5]
 |_=>[]
theorem LY{H:List Txn}{A:Option Addr}{c:Nat}{Al:Option Addr}{cl:Nat}{l:List Cho}{base:Nat}:∀j (vs vs':Nat→Value) w,(∀k,k=j∨k∈kL j→vs k=vs' k)→kK H A c Al cl l base j vs w→kK H A c Al cl l base j vs' w:=by
 intro j vs vs' w hk h
 match j,h with
 |0,h|1,h|2,h|3,h|4,h|5,h|6,h|7,h=>
  simp only[kK]at h⊢;rw[←hk _ (.inl rfl)];exact h
 |8,h=>
  simp only[kK]at h⊢;rw[←hk 7 (.inr (by simp[kL])),←hk 6 (.inr (by simp[kL]))];exact h
 |n+9,_=>trivial
def nA(base:Nat)(i:Nat)(W W':World):Prop:=if i=8 then jP base W W' else Below W.heap.size W W'
theorem nA.var{base i:Nat}{W W':World}(h:nA base i W W'):jP base W W':=by
 unfold nA at h;split at h
 ·exact h
 ·exact jP.of_below h
theorem G5{H:List Txn}{A:Option Addr}{c:Nat}{Al:Option Addr}{cl:Nat}{l:List Cho}{base:Nat}:∀i j (vs:Nat→Value) w w',j≠i→j∉BR i→kK H A c Al cl l base j vs w→nA base i w w'→kK H A c Al cl l base j vs w':=by
 intro i j vs w w' hne hkl h hs;have hv:=hs.var
 match j,h with
 |0,h|2,h|3,h=>exact h
 |1,h|4,h|6,h=>
  simp only[kK]at h⊢;exact h.var hv
 |5,h=>
  have hi:i≠8:=(by rintro rfl;exact hkl (by simp[BR]));unfold nA at hs;rw[if_neg hi]at hs;simp only[kK]at h⊢;obtain⟨g5,g',h1,h2,h3,h4⟩:=h;exact⟨g5,g',h1,h2.below hs h2.lt,h3,h4.below hs h4.lt⟩
 |7,h=>
  simp only[kK]at h⊢;exact D9.var h hv
 |8,h=>
  unfold nA at hs;rw[if_neg (fun e=>hne e.symm)]at hs;simp only[kK]at h⊢;obtain⟨g,x,y,h1,h2,h3,h4⟩:=h;exact⟨g,x,y,h1,h2,h3,h4.below hs h4.lt⟩
 |n+9,_=>trivial
theorem G6:∀i,9≤i→kL i=[]:=by
 intro i hi
 match i,hi with
 |n+9,_=>rfl
theorem BS(H:List Txn)(level:Int)(l:List Cho):bH H level l=orE (orE (bG H) (wwE l)) (if level=1 then iY H.length (orE (bG H) (wwE l)) (rwE H l)else rwE H l):=rfl
set_option maxRecDepth 100000 in
theorem pR(A:Option Addr)(c:Nat)(H:List Txn)(level:Int)(Al:Option Addr)(cl:Nat)(l:List Cho)(w:World)(h:av w (Old w) (.slice A H.length c) H)(hn:aC H)(hl:bg w (Old w) (.slice Al l.length cl) l)(hr:dn H l=true)(r9:level=0∨level=1)(hTB:gL w):
 Calls Tryz.prog 37 #[.agg #[.slice A H.length c],.int .i64 level,.slice Al l.length cl] w (Gv w H.length (bH H level l)):=by
 obtain⟨W0,hW0⟩:∃W0,(w.alloc (.cells #[.slice A H.length c] 24)).alloc (.cells #[.int .i64 0,.slice none 0 0] 77)=W0:=⟨_,rfl⟩;have hB:=aQ hW0;have k0:=Blk.j6 hW0;have k1:=Blk.jd hW0;have hs0:=size_two hW0;have hrh:=bJ hr;have h32:H.length≤32:=((aD H).1 hrh).1;have hll:=pK hr;have h0:=hide (h.below hB);have hl0:=hide (hl.below hB);replace hr:=hide hr;replace hn:=hide hn;replace hl:=hide hl;replace h:=hide h;replace hrh:=hide hrh;have c0:=Blk.n0 k0;have hq0:(level !=0)=false∨((level !=0)=true∧(level !=1)=false):=by
  rcases r9 with rfl|rfl
  ·exact .inl rfl
  ·exact .inr ⟨rfl,rfl⟩
 replace r9:=hide r9;replace hs0:=hide hs0;go_enter Tryz.func37,Tryz.ntmps37;go_wp2_with fail;clear hW0 c0;refine(jL A c H Al cl l _ h0.out hn.out hl0.out (by omega)).mono ?_;rintro e w1 ⟨rfl,hb1⟩;rw[hr.out];have hs1:w.heap.size+2≤w1.heap.size:=(by have:=hb1.size;have:=hs0.out;omega);replace k0:=k0.below hb1 k0.lt;replace k1:=k1.below hb1 k1.lt;have hb2:=hB.trans (hb1.mono hB.size);clear hb1 hB h0 hl0 hs0;rcases hq0 with q1|⟨q1,q2⟩;all_goals
  go_wp2_with fail;refine jW (kK H A c Al cl l (w.heap.size+2)) (fun W=>Below w.heap.size w W∧Blk W w.heap.size 24 #[.slice A H.length c]∧Blk W (w.heap.size+1) 77 #[.int .i64 0,.slice none 0 0]) (nA (w.heap.size+2)) kL (by kernel_rfl) (by kernel_rfl) (by kernel_rfl) G6 BR (by kernel_rfl) LY G5 ⟨hb2.drew,k0,k1⟩ ?hstep ?hend;case hstep=>
   intro i o ho vs W hS hd;obtain⟨hb,m0,m1⟩:=hS;have hT:=h.out.below hb;have hC:=hl.out.below hb;have hsz:=m1.lt
   match i,ho with
   |0,ho=>
    simp only[gZ,gS,Option.some.injEq]at ho;subst ho;simp only[acV,gA,gZ,gS,Act.put,sA,sZ,sS];have c0:=Blk.n0 m0;go_wp2;exact⟨rfl,.agg #[.slice A H.length c],rfl,rfl,⟨hb,m0,m1⟩,Below.refl _ _⟩
   |1,ho=>
    have d0:=hd 0 (by simp[kL]);simp only[kK]at d0;simp only[gZ,gS,Option.some.injEq]at ho;subst ho;simp only[acV,gA,gZ,gS,Act.put,sA,sZ,sS];rw[d0];go_wp2_with fail;refine(Ea A c H _ hT hn.out hrh.out).mono ?_;rintro e W2 ⟨g,hg,rfl,kR,hb2⟩;go_wp2;exact⟨rfl,_,rfl,⟨g,by omega,rfl,kR⟩,⟨hb.trans (hb2.mono hb.size),m0.below hb2 m0.lt,m1.below hb2 m1.lt⟩,hb2⟩
   |2,ho=>
    simp only[gZ,gS,Option.some.injEq]at ho;subst ho;simp only[acV,gA,gZ,gS,Act.put,sA,sZ,sS];have c0:=Blk.n0 m0;go_wp2;exact⟨rfl,.agg #[.slice A H.length c],rfl,rfl,⟨hb,m0,m1⟩,Below.refl _ _⟩
   |3,ho=>
    simp only[gZ,gS,Option.some.injEq]at ho;subst ho;simp only[acV,gA,gZ,gS,Act.put,sA,sZ,sS];go_wp2;exact⟨rfl,.slice Al l.length cl,rfl,rfl,⟨hb,m0,m1⟩,Below.refl _ _⟩
   |4,ho=>
    have d2:=hd 2 (by simp[kL]);have d3:=hd 3 (by simp[kL]);simp only[kK]at d2 d3;simp only[gZ,gS,Option.some.injEq]at ho;subst ho;simp only[acV,gA,gZ,gS,Act.put,sA,sZ,sS];rw[d2,d3];go_wp2_with fail;refine(JO A c H Al cl l _ hT hn.out hC hr.out).mono ?_;rintro e W2 ⟨g,hg,rfl,kR,hb2⟩;go_wp2;exact⟨rfl,_,rfl,⟨g,by omega,rfl,kR⟩,⟨hb.trans (hb2.mono hb.size),m0.below hb2 m0.lt,m1.below hb2 m1.lt⟩,hb2⟩
   |5,ho=>
    obtain⟨g4,hg4,d4,q4⟩:=hd 4 (by simp[kL]);simp only[gZ,gS,Option.some.injEq]at ho;subst ho;simp only[acV,gA,gZ,gS,Act.put,sA,sZ,sS];rw[d4];go_wp2;exact⟨rfl,_,rfl,⟨W.heap.size,g4,rfl,Blk.new _ _ _,hg4,q4.alloc _⟩,⟨hb.alloc hb.size _,m0.alloc _,m1.alloc _⟩,(Below.refl _ _).alloc (Nat.le_refl _) _⟩
   |6,ho=>
    obtain⟨gp,hgp,d1,qp⟩:=hd 1 (by simp[kL]);obtain⟨g5,g',d5,q5,hg',qw⟩:=hd 5 (by simp[kL]);simp only[gZ,gS,Option.some.injEq]at ho;subst ho;simp only[acV,gA,gZ,gS,Act.put,sA,sZ,sS];rw[d1,d5];go_wp2_with fail;refine(sF H.length _ _ _ _ (bG H) (wwE l) g5 _ (GrS.bE qp qp.lt (by omega)) (GrS.bE qw qw.lt (by omega)) q5).mono ?_;rintro e W2 ⟨g,hg,rfl,kR,hb2⟩;go_wp2;exact⟨rfl,_,rfl,⟨g,by omega,rfl,kR⟩,⟨hb.trans (hb2.mono hb.size),m0.below hb2 m0.lt,m1.below hb2 m1.lt⟩,hb2⟩
   |7,ho=>
    simp only[gZ,gS,Option.some.injEq]at ho;subst ho;simp only[acV,gA,gZ,gS,Act.put,sA,sZ,sS];go_wp2;exact⟨rfl,_,rfl,⟨W.heap.size,by omega,rfl,_,_,Blk.new _ _ _⟩,⟨hb.alloc hb.size _,m0.alloc _,m1.alloc _⟩,(Below.refl _ _).alloc (Nat.le_refl _) _⟩
   |8,ho=>
    obtain⟨g,hg,d7,x,y,q7⟩:=hd 7 (by simp[kL]);obtain⟨g6,hg6,d6,q6⟩:=hd 6 (by simp[kL]);simp only[gZ,gS,Option.some.injEq]at ho;subst ho;simp only[acV,gA,gZ,gS,Act.put,sA,sZ,sS];rw[d7,d6];have c0:=Blk.n0 q7;have c1:=Blk.n1 q7;have f0:=q7.frozen 0;have f1:=q7.frozen 1;go_wp2;have hq:=(q7.aJ 0 (.int .i64 H.length)).aJ 1 (.slice (some ⟨g6,0,none⟩) H.length H.length);have n1:w.heap.size≠g:=(by omega);have n2:w.heap.size+1≠g:=(by omega);refine⟨rfl,undef,rfl,⟨g,_,_,(show dI vs 8 undef 7=_ from d7),hg,(show dI vs 8 undef 6=_ from d6),by simpa using hq⟩,⟨(hb.setCell (p:=⟨g,0,none⟩) (by simp;omega) _).setCell (p:=⟨g,1,none⟩) (by simp;omega) _,(m0.far n1 _).far n1 _,(m1.far n2 _).far n2 _⟩,?_⟩;unfold nA;rw[if_pos rfl];refine⟨⟨rfl,rfl,rfl,by simp⟩,fun k hk=> ?_⟩;by_cases e:k=g
    ·subst e;exact .inr ⟨hg,_,_,q7,hq,by simp⟩
    ·exact .inl ((Below.heap_setCell _ ⟨g,1,none⟩ _ k e).trans (Below.heap_setCell _ ⟨g,0,none⟩ _ k e))
   |n+9,ho=>simp at ho
  case hend=>
   rintro vs W ⟨hb,m0,m1⟩ hd;obtain⟨g,x,y,d7,hg,d6,q8⟩:=hd 8 (by simp) (by intro i _;unfold BR;split<;>simp);obtain⟨g6,hg6,d6',q6⟩:=hd 6 (by simp) (by intro i _;unfold BR;split<;>simp);rw[d6]at d6';injection d6' with d6'
   simp only[Array.mk.injEq,List.cons.injEq,and_true]at d6';obtain⟨rfl,rfl⟩:=d6';clear hd;simp only[acV,gA,gZ,gS,Act.put,sA,sZ,sS,List.length_cons,List.length_nil,Nat.reduceAdd];rw[d7,d6];have hT:=hide (h.out.below hb);have hC:=hide (hl.out.below hb);have c0:=Blk.n0 m0;clear k0 k1 hb2 d6 d7;go_wp2_with fail;refine(J3 A c H Al cl l _ hT.out hn.out hC.out hr.out).mono ?_;rintro e W2 ⟨gr,hgr,rfl,kRr,hb2⟩;clear c0 hT hC;obtain⟨W3,hW3⟩:∃W3,W2.alloc (.cells #[.int .i64 H.length,.slice (some ⟨gr,0,none⟩) H.length H.length] 77)=W3:=⟨_,rfl⟩;have hB3:=ah (Below.refl W2.heap.size W2) hW3 (Nat.le_refl _);have k9:=Blk.newEq hW3;have hBW:=hb2.trans (hB3.mono hb2.size);have m1c:=m1.below hBW m1.lt;have q8c:=q8.below hBW q8.lt;have q6c:=q6.below hBW q6.lt;have kOc:=kRr.below hB3 kRr.lt;have hbc:=hb.trans (hBW.mono hb.size);have G7:=hTB.below hbc;have hsz:=m1.lt;have hq8:=q8.lt;have hw2:=hb2.size;clear hBW hB3 hb2 hb m0 m1 q8 q6 kRr;by_cases h1:level=1
   ·have q3:(level==1)=true:=(by simpa using h1);have hfe:Hid (bH H level l=orE (orE (bG H) (wwE l)) (iY H.length (orE (bG H) (wwE l)) (rwE H l))):=hide (by rw[BS,if_pos h1]);clear h1;have a0:=Blk.n0 q8c;have a1:=Blk.n1 q8c;have b0:=Blk.n0 k9;have b1:=Blk.n1 k9;have hcp:=hide (DV H.length _ _ _ _ (orE (bG H) (wwE l)) (rwE H l) (fun b=>b=g6∨b=gr) W3 (GrS.bE q6c (.inl rfl) (by omega)) (GrS.bE kOc (.inr rfl) (by omega)) (by rintro b (rfl|rfl);exact q6c.lt;exact kOc.lt) G7);go_wp2_with fail;clear a0 a1 b0 b1 hW3;refine hcp.out.mono ?_;rintro e W4 ⟨gc,hgc,rfl,kRc,hb4⟩;have k94:=k9.below hb4 k9.lt;have c0:=Blk.n0 k94;have c1:=Blk.n1 k94;have f0:=k94.frozen 0;have f1:=k94.frozen 1;have Rn:=k9.lt;have Ro:=q6c.lt;have ng:g≠W2.heap.size:=(by omega);have nr:w.heap.size+1≠W2.heap.size:=(by omega);have nc:gc≠W2.heap.size:=(by omega);have n6:g6≠W2.heap.size:=by
     rintro rfl;have:=k9.symm.trans q6c;simp at this
    have m1d:=((m1c.below hb4 m1c.lt).far (p:=⟨W2.heap.size,0,none⟩) nr (.int .i64 H.length)).far (p:=⟨W2.heap.size,1,none⟩) nr (.slice (some ⟨gc,0,none⟩) H.length H.length);have q8d:=((q8c.below hb4 q8c.lt).far (p:=⟨W2.heap.size,0,none⟩) ng (.int .i64 H.length)).far (p:=⟨W2.heap.size,1,none⟩) ng (.slice (some ⟨gc,0,none⟩) H.length H.length);have q6d:=((q6c.below hb4 q6c.lt).far (p:=⟨W2.heap.size,0,none⟩) n6 (.int .i64 H.length)).far (p:=⟨W2.heap.size,1,none⟩) n6 (.slice (some ⟨gc,0,none⟩) H.length H.length);have kOd:=(kRc.far (p:=⟨W2.heap.size,0,none⟩) nc (.int .i64 H.length)).far (p:=⟨W2.heap.size,1,none⟩) nc (.slice (some ⟨gc,0,none⟩) H.length H.length);have k9d:=(k94.aJ 0 (.int .i64 H.length)).aJ 1 (.slice (some ⟨gc,0,none⟩) H.length H.length);simp only[sA,sZ,sS]at k9d;have hbd:=((hbc.trans (hb4.mono hbc.size)).setCell (p:=⟨W2.heap.size,0,none⟩) (by simp;omega) (.int .i64 H.length)).setCell (p:=⟨W2.heap.size,1,none⟩) (by simp;omega) (.slice (some ⟨gc,0,none⟩) H.length H.length);clear m1c q8c q6c kOc hbc k9 k94 kRc hcp G7 hb4;obtain⟨Wd,hWd⟩:∃Wd,(W4.setCell ⟨W2.heap.size,0,none⟩ (.int .i64 H.length)).setCell ⟨W2.heap.size,1,none⟩ (.slice (some ⟨gc,0,none⟩) H.length H.length)=Wd:=⟨_,rfl⟩;rw[hWd]at m1d q8d q6d kOd k9d hbd;have m1c:=m1d;have q8c:=q8d;have q6c:=q6d;have kOc:=kOd;have k9c:=k9d;have hbc:=hbd;clear m1d q8d q6d kOd k9d hbd;have a0:=Blk.n0 q8c;have a1:=Blk.n1 q8c;have b0:=Blk.n0 k9c;have b1:=Blk.n1 k9c;obtain⟨W5,hW5⟩:∃W5,(Wd).alloc (.cells #[.int .i64 H.length,.slice (some ⟨gc,0,none⟩) H.length H.length] 77)=W5:=⟨_,rfl⟩;have hB5:=ah (Below.refl (Wd).heap.size Wd) hW5 (Nat.le_refl _);have kN:=Blk.newEq hW5;have hcall:=hide (sF H.length _ _ _ _ (orE (bG H) (wwE l)) (iY H.length (orE (bG H) (wwE l)) (rwE H l)) (Wd).heap.size W5 (GrS.bE (q6c.below hB5 q6c.lt) (Nat.lt_of_lt_of_le q6c.lt hB5.size) (by omega)) (GrS.bE (kOc.below hB5 kOc.lt) (Nat.lt_of_lt_of_le kOc.lt hB5.size) (by omega)) kN);have m15:=m1c.below hB5 m1c.lt;have hb5:=hbc.trans (hB5.mono hbc.size);clear kN hB5;go_wp2_with fail;clear a0 a1 b0 b1 hW5;refine hcall.out.mono ?_;rintro e W6 ⟨gz,hgz,rfl,kRz,hb6⟩;have m16:=m15.below hb6 m15.lt;have hb7:=hb5.trans (hb6.mono hb5.size);have j0:=Blk.n0 m16;have j1:=Blk.n1 m16;have jf:=m16.frozen 0;have jf1:=m16.frozen 1;have hml:=m15.lt;have n1:gz≠w.heap.size+1:=(by omega);clear hcall;go_wp2;exact bodyPost_ret (v:= .tuple #[.agg #[.int .i64 H.length,.slice (some ⟨gz,0,none⟩) H.length H.length],.int .i64 0]) (by simp[results,Tryz.results37,go_sem,j0,j1]) rfl ⟨gz,by omega,rfl,by rw[hfe.out];exact(kRz.far (p:=⟨w.heap.size+1,0,none⟩) n1 _).far (p:=⟨w.heap.size+1,1,none⟩) n1 _,(hb7.setCell (p:=⟨w.heap.size+1,0,none⟩) (by simp) _).setCell (p:=⟨w.heap.size+1,1,none⟩) (by simp) _⟩
   ·have q3:(level==1)=false:=(by simpa using h1);have hfe:Hid (bH H level l=orE (orE (bG H) (wwE l)) (rwE H l)):=hide (by rw[BS,if_neg h1]);have k9c:=k9;clear h1 k9;have a0:=Blk.n0 q8c;have a1:=Blk.n1 q8c;have b0:=Blk.n0 k9c;have b1:=Blk.n1 k9c;obtain⟨W5,hW5⟩:∃W5,(W3).alloc (.cells #[.int .i64 H.length,.slice (some ⟨gr,0,none⟩) H.length H.length] 77)=W5:=⟨_,rfl⟩;have hB5:=ah (Below.refl (W3).heap.size W3) hW5 (Nat.le_refl _);have kN:=Blk.newEq hW5;have hcall:=hide (sF H.length _ _ _ _ (orE (bG H) (wwE l)) (rwE H l) (W3).heap.size W5 (GrS.bE (q6c.below hB5 q6c.lt) (Nat.lt_of_lt_of_le q6c.lt hB5.size) (by omega)) (GrS.bE (kOc.below hB5 kOc.lt) (Nat.lt_of_lt_of_le kOc.lt hB5.size) (by omega)) kN);have m15:=m1c.below hB5 m1c.lt;have hb5:=hbc.trans (hB5.mono hbc.size);clear kN hB5;go_wp2_with fail;clear a0 a1 b0 b1 hW5;refine hcall.out.mono ?_;rintro e W6 ⟨gz,hgz,rfl,kRz,hb6⟩;have m16:=m15.below hb6 m15.lt;have hb7:=hb5.trans (hb6.mono hb5.size);have j0:=Blk.n0 m16;have j1:=Blk.n1 m16;have jf:=m16.frozen 0;have jf1:=m16.frozen 1;have hml:=m15.lt;have n1:gz≠w.heap.size+1:=(by omega);clear hcall;go_wp2;exact bodyPost_ret (v:= .tuple #[.agg #[.int .i64 H.length,.slice (some ⟨gz,0,none⟩) H.length H.length],.int .i64 0]) (by simp[results,Tryz.results37,go_sem,j0,j1]) rfl ⟨gz,by omega,rfl,by rw[hfe.out];exact(kRz.far (p:=⟨w.heap.size+1,0,none⟩) n1 _).far (p:=⟨w.heap.size+1,1,none⟩) n1 _,(hb7.setCell (p:=⟨w.heap.size+1,0,none⟩) (by simp) _).setCell (p:=⟨w.heap.size+1,1,none⟩) (by simp) _⟩
theorem Eb(A:Option Addr)(c:Nat)(H:List Txn)(level:Int)(Al:Option Addr)(cl:Nat)(l:List Cho)(w:World)(h:av w (Old w) (.slice A H.length c) H)(hn:aC H)(hl:bg w (Old w) (.slice Al l.length cl) l)(hln:l.length≤1000000000)(hb:(dn H l&&(decide (level=0)||decide (level=1)))=false):
 Calls Tryz.prog 37 #[.agg #[.slice A H.length c],.int .i64 level,.slice Al l.length cl] w fun e w'=>e= .returned (.tuple #[.agg #[.int .i64 0,.slice none 0 0],.int .i64 1])∧Below w.heap.size w w':=by
 obtain⟨W0,hW0⟩:∃W0,(w.alloc (.cells #[.slice A H.length c] 24)).alloc (.cells #[.int .i64 0,.slice none 0 0] 77)=W0:=⟨_,rfl⟩;have hB:=aQ hW0;have k0:=Blk.j6 hW0;have k1:=Blk.jd hW0;have hrc:=hide (jL A c H Al cl l W0 (h.below hB) hn (hl.below hB) hln);have c0:=Blk.n0 k0;generalize dn H l=q at*;clear h hl;have OQ:q=false∨(q=true∧(level !=0)=true∧(level !=1)=true):=by
  cases q with
  |false=>exact .inl rfl
  |true=>
   right;rw[Bool.true_and,Bool.or_eq_false_iff]at hb;exact⟨rfl,by simpa using hb.1,by simpa using hb.2⟩
 clear hb;go_enter Tryz.func37,Tryz.ntmps37;go_wp2_with fail;clear hW0 c0;refine hrc.out.mono ?_;rintro e w1 ⟨rfl,hb1⟩;replace k1:=k1.below hb1 k1.lt;have hb2:=hB.trans (hb1.mono hB.size);have d0:=Blk.n0 k1;have d1:=Blk.n1 k1;have f0:=k1.frozen 0;have f1:=k1.frozen 1;have hz:=hide (((hb2.setCell (p:=⟨w.heap.size+1,0,none⟩) (Nat.le_succ _) (.int .i64 0)).setCell (p:=⟨w.heap.size+1,1,none⟩) (Nat.le_succ _) (.slice none 0 0)));have hq:=(k1.aJ 0 (.int .i64 0)).aJ 1 (.slice none 0 0);simp only[sA,sZ,sS]at hq;have y0:=Blk.n0 hq;have y1:=Blk.n1 hq;rcases OQ with rfl|⟨rfl,g1,g2⟩;all_goals
  go_wp2_with fail;exact bodyPost_ret (v:= .tuple #[.agg #[.int .i64 0,.slice none 0 0],.int .i64 1]) (by simp[results,Tryz.results37,go_sem,y0,y1]) rfl ⟨rfl,hz.out⟩
end Go.Proofs.YtfhnamomiaekdaaGreatDoor
namespace Go.Inq
open Go Go.RowKit
def fT(D:Nat→Nat):Array Value:=((List.range 64).map fun x=>Value.int .i64 ((D x:Nat):Int)).toArray
theorem kQ(D:Nat→Nat):(fT D).size=64:=by simp[fT]
theorem zS{D:Nat→Nat}{x:Nat}(h:x<64):(fT D)[x]?=some (.int .i64 ((D x:Nat):Int)):=by
 unfold fT;rw[gA,List.getElem?_map,List.getElem?_range h];rfl
theorem J6{D:Nat→Nat}{x v:Nat}(h:x<64):(fT D).setIfInBounds x (.int .i64 ((v:Nat):Int))=fT (fun y=>if y=x then v else D y):=by
 unfold fT;rw[sA];congr 1;refine List.ext_getElem (by simp) fun i h1 h2=> ?_;rw[List.getElem_set,List.getElem_map,List.getElem_map,List.getElem_range];dsimp only;by_cases e:x=i
 ·rw[if_pos e,if_pos e.symm]
 ·rw[if_neg e,if_neg (Ne.symm e)]
theorem J7{D:Nat→Nat}{x k:Nat}(h:x<64):(fT D).setIfInBounds x (.int .i64 ((k:Int)+1))=fT (fun y=>if y=x then k+1 else D y):=by
 rw[←J6 h];rfl
theorem BU(D:Nat→Nat):(fT D).all (·.oneCell')=true:=by
 rw[Array.all_eq_true];intro i hi;simp[fT,Value.oneCell']
theorem kS{D F:Nat→Nat}(h:∀x,D x=F x):fT D=fT F:=by rw[show D=F from funext h]
theorem BX{W:World}{g:Nat}{t:TypeId}{cs:Array Value}(hk:Blk W g t cs):W.setRow g cs=W:=by
 unfold Blk at hk;have h2:∀i,(W.setRow g cs).heap[i]?=W.heap[i]?:=fun i=>by
  unfold World.setRow;dsimp only;rw[Array.getElem?_modify];by_cases e:g=i
  ·subst e;rw[if_pos rfl,hk];rfl
  ·rw[if_neg e]
 have h3:(W.setRow g cs).heap=W.heap:=Array.ext_getElem? h2;unfold World.setRow at h3⊢;dsimp only at h3;rw[h3]
theorem vV {P:Program} {W:World} {ops:Array Oper} {rest:List Oper} {o:Oper} {a:Act} {Q:Exit→Act→World→Prop} {t e:TypeId} {p:Operand} {g n:Nat} {cs:Array Value}
 (hg:o.guard=none) (ho:o.op= .load t p) (hp:a.eval p= .pointer (some ⟨g,0,none⟩)) (hk:Blk W g t cs) (hu:P.underlying t=some (.array n e)) (hi:(P.info? t).map (·.size)=some cs.size)
 (h:wpList P ops Q rest (a.put o.dst (.agg cs)) W):wpList P ops Q (o::rest) a W:=by
 refine wpList_plain hg (fun K hK=> ?_);have hr:(Instr.loadAt t (.pointer (some ⟨g,0,none⟩))).run P W= .ok (.agg cs) W:=by
  simp only[Instr.loadAt,Instr.sureAddr,Sem.run_bind,Sem.run_pure,Result.andThen];exact run_loadVar_row W g t t cs (0,0) _ hk hu rfl hi
 unfold Oper.wp execOp;simp only[ho,hp,Sem.run_bind,Sem.run_pure,Result.andThen_ok,Sem.run_map,hr];exact hK _ _ h
theorem yg {fn:Func} {p:Tmp} {ty:TypeId} (h:fn.results=#[.cell p ty]) {tmps:Array Value} {P:Program} {W:World} {g:Nat} {cs:Array Value} {n:Nat} {e:TypeId} (hp:tmps.getD p undef= .pointer (some ⟨g,0,none⟩))
 (hk:Blk W g ty cs) (hu:P.underlying ty=some (.array n e)) (hi:(P.info? ty).map (·.size)=some cs.size):(results fn tmps).run P W= .ok (.agg cs) W:=by
 have hr:=run_loadVar_row (P:=P) W g ty ty cs (0,0) _ hk hu rfl hi;simp only[results,h];simp[Sem.run_bind,Result.andThen,asAddr,hr,Array.getD_eq_getD_getElem?]at hp⊢;rw[hp];simp[Sem.run_bind,Result.andThen,hr]
theorem uI {P:Program} {W:World} {ops:Array Oper} {rest:List Oper} {o:Oper} {a:Act} {Q:Exit→Act→World→Prop} {t:TypeId} {p x:Operand} {g:Nat} {cs c':Array Value}
 (hg:o.guard=none) (ho:o.op= .store t p x) (hp:a.eval p= .pointer (some ⟨g,0,none⟩)) (hx:a.eval x= .agg c') (hk:Blk W g t cs) (hi:(P.info? t).map (·.size)=some c'.size) (hs:cs.size=c'.size) (h1:c'.all (·.oneCell')=true)
 (h:wpList P ops Q rest (a.put o.dst undef) (W.setRow g c')):wpList P ops Q (o::rest) a W:=by
 refine wpList_plain hg (fun K hK=> ?_);have hr:(Instr.storeAt t (.pointer (some ⟨g,0,none⟩)) (.agg c')).run P W= .ok () (W.setRow g c'):=by
  simp only[Instr.storeAt,Instr.sureAddr,Sem.run_bind,Sem.run_pure,Result.andThen];exact run_storeVar_row W g t t cs c' hk hi hs h1
 unfold Oper.wp execOp;simp only[ho,hp,hx,Sem.run_bind,Sem.run_pure,Result.andThen_ok,Sem.run_map,hr];exact hK _ _ h
def dw(n:Nat)(E:ak)(v k x:Nat):Nat:=if x<n then(match k with|0=>0|k+1=>bK n E v k x)else 0
def bA(n:Nat)(E:ak)(v k:Nat)(z:Nat):Bool:=match k with|0=>E z v|k+1=>(List.range n).any fun y=>E z y&&decide (bK n E v k y=k+1)
theorem yV{n:Nat}{E:ak}{v k x:Nat}(hx:x<n):dw n E v (k+1) x=if dw n E v k x≠0 then dw n E v k x else if bA n E v k x=true then k+1 else 0:=by
 unfold dw;rw[if_pos hx,if_pos hx];cases k with
 |zero=>rfl
 |succ k=>rfl
theorem LZ{n:Nat}{E:ak}{v k x:Nat}:dw n E v k x≤k:=by
 unfold dw;split
 ·cases k with
  |zero=>exact Nat.le_refl _
  |succ k=>exact uM k x
 ·omega
theorem J8{n:Nat}{E:ak}{v k x:Nat}(hx:x<n):dw n E v (k+1) x=k+1↔dw n E v k x=0∧bA n E v k x=true:=by
 have hle:=LZ (n:=n) (E:=E) (v:=v) (k:=k) (x:=x);rw[yV hx];by_cases h:dw n E v k x=0
 ·rw[if_neg (by omega)];cases bA n E v k x<;>simp[h]
 ·rw[if_pos h];constructor
  ·intro e;omega
  ·rintro⟨e,_⟩;exact absurd e h
theorem tO{n:Nat}{E:ak}{v k z:Nat}:bA n E v (k+1) z=((List.range n).filter (bA n E v k)).any fun x=>decide (dw n E v k x=0)&&E z x:=by
 show((List.range n).any fun y=>E z y&&decide (bK n E v k y=k+1))=_;rw[Bool.eq_iff_iff,List.any_eq_true,List.any_eq_true];have hn:∀y,y<n→(bK n E v k y=k+1↔dw n E v k y=0∧bA n E v k y=true):=fun y hy=>by
  rw[←J8 hy];unfold dw;rw[if_pos hy]
 constructor
 ·rintro⟨y,hy,h⟩;rw[Bool.and_eq_true]at h;obtain⟨h1,h2⟩:=(hn y (List.mem_range.1 hy)).1 (of_decide_eq_true h.2);exact⟨y,List.mem_filter.2 ⟨hy,h2⟩,by rw[h.1,decide_eq_true h1];rfl⟩
 ·rintro⟨y,hy,h⟩;obtain⟨hy1,hy2⟩:=List.mem_filter.1 hy;rw[Bool.and_eq_true]at h;exact⟨y,hy1,by rw[h.2,decide_eq_true ((hn y (List.mem_range.1 hy1)).2 ⟨of_decide_eq_true h.1,hy2⟩)];rfl⟩
def dIn(D:Nat→Nat)(k:Nat)(l:List Nat)(x:Nat):Nat:=if D x≠0 then D x else if l.contains x=true then k+1 else 0
def pIn(E:ak)(D:Nat→Nat)(l:List Nat)(z:Nat):Bool:=l.any fun x=>decide (D x=0)&&E z x
theorem L6(D:Nat→Nat)(k x:Nat):dIn D k [] x=D x:=by
 unfold dIn;by_cases h:D x=0<;>simp[h]
theorem Fx{n:Nat}{E:ak}{v k x:Nat}:dIn (dw n E v k) k ((List.range n).filter (bA n E v k)) x=dw n E v (k+1) x:=by
 unfold dIn;by_cases hx:x<n
 ·rw[yV hx];have:((List.range n).filter (bA n E v k)).contains x=bA n E v k x:=by
   rw[Bool.eq_iff_iff,List.contains_iff_mem,List.mem_filter,List.mem_range];exact⟨fun h=>h.2,fun h=>⟨hx,h⟩⟩
  rw[this]
 ·have h1:dw n E v k x=0:=(by unfold dw;rw[if_neg hx]);have h2:dw n E v (k+1) x=0:=(by unfold dw;rw[if_neg hx]);have:((List.range n).filter (bA n E v k)).contains x=false:=by
   rw[Bool.eq_false_iff];intro h;rw[List.contains_iff_mem,List.mem_filter,List.mem_range]at h;exact hx h.1
  rw[h1,h2,this];rfl
theorem J9{D:Nat→Nat}{k:Nat}{l:List Nat}(hnd:l.Nodup){i:Nat}(hi:i<l.length):dIn D k (l.take i) l[i]=D l[i]∧(D l[i]=0→∀y,(if y=l[i]then k+1 else dIn D k (l.take i) y)=dIn D k (l.take (i+1)) y)∧(D l[i]≠0→∀y,dIn D k (l.take i) y=dIn D k (l.take (i+1)) y):=by
 have hnot:l[i]∉l.take i:=fun hm=>by
  obtain⟨j,hj,e⟩:=List.mem_take_iff_getElem.1 hm;exact List.pairwise_iff_getElem.1 (List.nodup_iff_pairwise_ne.1 hnd) j i (by omega) hi (by omega) e
 have hc:(l.take i).contains l[i]=false:=by
  rw[Bool.eq_false_iff];intro h;exact hnot (List.contains_iff_mem.1 h)
 have hs:∀y,(l.take (i+1)).contains y=((l.take i).contains y||y==l[i]):=fun y=>by
  rw[List.take_succ_eq_append_getElem hi,List.contains_append];congr 1;rw[List.contains_cons,List.contains_nil,Bool.or_false]
 refine⟨?_,fun h0 y=> ?_,fun h0 y=> ?_⟩
 ·unfold dIn;rw[hc];by_cases h:D l[i]=0<;>simp[h]
 ·unfold dIn;rw[hs];by_cases e:y=l[i]
  ·subst e;simp[h0]
  ·have:(y==l[i])=false:=(by simpa using e);rw[if_neg e,this,Bool.or_false]
 ·unfold dIn;rw[hs];by_cases e:y=l[i]
  ·subst e;rw[if_pos h0,if_pos h0]
  ·have:(y==l[i])=false:=(by simpa using e);rw[this,Bool.or_false]
theorem Ka{E:ak}{D:Nat→Nat}{l:List Nat}{i:Nat}(hi:i<l.length)(z:Nat):pIn E D (l.take (i+1)) z=(pIn E D (l.take i) z||(decide (D l[i]=0)&&E z l[i])):=by
 unfold pIn;rw[List.take_succ_eq_append_getElem hi,List.any_append];simp
theorem sG{p:Nat→Bool}{n:Nat}:aS p n=0↔∀x,x<n→p x=false:=by
 constructor
 ·intro h x hx;have:=aK p n x;rw[h,Nat.zero_testBit]at this;simpa[hx]using this.symm
 ·intro h;refine Nat.eq_of_testBit_eq fun i=> ?_;rw[aK,Nat.zero_testBit];by_cases hi:i<n
  ·simp[h i hi]
  ·simp[hi]
def iE(n:Nat)(E:ak)(v x:Nat):Nat:=if x<n then bV n E v x else 0
theorem Kc{n:Nat}{E:ak}{v k:Nat}(hv:v<n)(h:aS (bA n E v k) n=0)(x:Nat):dw n E v k x=iE n E v x:=by
 rw[sG]at h;unfold dw iE;split
 ·rename_i hx;cases k with
  |zero=>
   have h0:∀y,y<n→bK n E v 0 y=0:=fun y hy=>by
    show(if _ then _ else _)=_;rw[if_neg (by rw[show E y v=false from h y hy];decide)]
   have:=yO (n:=n) (E:=E) (v:=v) (k:=0) (fun a b ha hb e=>by rw[h0 b hb]at e;omega) hx;rw[h0 x hx]at this;exact this
  |succ k=>
   refine yO (fun a b ha hb e=> ?_) hx;have h1:=h a ha;have h1:((List.range n).any fun y=>E a y&&decide (bK n E v k y=k+1))=false:=h1;rw[List.any_eq_false]at h1;have h2:=h1 b (List.mem_range.2 hb);rw[decide_eq_true e,Bool.and_true]at h2;simpa using h2
 ·rfl
theorem Ke{n:Nat}{E:ak}{v k:Nat}(h:aS (bA n E v k) n≠0):k≤n:=by
 cases k with
 |zero=>omega
 |succ k=>
  rcases Classical.em (∃z,z<n∧bA n E v (k+1) z=true)with⟨z,_,hz⟩|hno
  ·have hz:((List.range n).any fun y=>E z y&&decide (bK n E v k y=k+1))=true:=hz;rw[List.any_eq_true]at hz;obtain⟨y,hy,h2⟩:=hz;rw[Bool.and_eq_true]at h2;have h3:=of_decide_eq_true h2.2;have:=mY (n:=n) (E:=E) (v:=v) (k:=k) (List.mem_range.1 hy);omega
  ·exact absurd (sG.2 fun x hx=>by
    cases hc:bA n E v (k+1) x with
    |false=>rfl
    |true=>exact absurd ⟨x,hx,hc⟩ hno) h
end Go.Inq
namespace Go.Proofs.YtfhnamomiaekdaaGreatDoor
open Go.RowKit Go.Inq
set_option maxHeartbeats 8000000
attribute [local go_sem↓] Go.wp_at_zero Go.wp_at_succ
theorem uP:(Tryz.prog.info? 209).map (·.size)=some 64:=by kernel_rfl
theorem BZ:#[Value.int .i64 0,.int .i64 0,.int .i64 0,.int .i64 0,.int .i64 0,.int .i64 0,.int .i64 0,.int .i64 0,.int .i64 0,.int .i64 0,.int .i64 0,.int .i64 0,.int .i64 0,.int .i64 0,.int .i64 0,.int .i64 0,.int .i64 0,.int .i64 0,.int .i64 0,.int .i64 0,.int .i64 0,.int .i64 0,.int .i64 0,.int .i64 0,.int .i64 0,.int .i64 0,.int .i64 0,.int .i64 0,.int .i64 0,.int .i64 0,.int .i64 0,.int .i64 0,.int .i64 0,.int .i64 0,.int .i64 0,.int .i64 0,.int .i64 0,.int .i64 0,.int .i64 0,.int .i64 0,.int .i64 0,.int .i64 0,.int .i64 0,.int .i64 0,.int .i64 0,.int .i64 0,.int .i64 0,.int .i64 0,.int .i64 0,.int .i64 0,.int .i64 0,.int .i64 0,.int .i64 0,.int .i64 0,.int .i64 0,.int .i64 0,.int .i64 0,.int .i64 0,.int .i64 0,.int .i64 0,.int .i64 0,.int .i64 0,.int .i64 0,.int .i64 0]=fT (fun _=>0):=by kernel_rfl
set_option maxRecDepth 100000 in
theorem G8(n:Nat)(A:Option Addr)(c:Nat)(E:ak)(v:Nat)(w:World)(h:GrS w (Old w) n A c (dJ E))(hv:v<n)(hTB:gL w):
 Calls Tryz.prog 130 #[.agg #[.int .i64 n,.slice A n c],.int .i64 (v:Int)] w fun e w'=>e= .returned (.agg (fT (iE n E v)))∧Below w.heap.size w w':=by
 have yh:=h.n64;have hv0:(0:Int)≤(v:Int):=Int.natCast_nonneg _;have hv1:(v:Int)<(n:Int):=(by omega);obtain⟨W0,hW0⟩:∃W0,(w.alloc (.cells #[.int .i64 n,.slice A n c] 77)).alloc (.cells (fT (fun _=>0)) 209)=W0:=⟨_,rfl⟩;have hB:=aQ hW0;have k0:=Blk.j6 hW0;have k1:=Blk.jd hW0;have hs0:=size_two hW0;rw[←BZ]at hW0;have OT:Hid (∀z,bA n E v 0 z=E z v):=hide (fun z=>rfl);have Qg:Hid (fT (fun _=>0)=fT (dw n E v 0)):=hide (kS fun x=>by unfold dw;split<;>rfl);rw[Qg.out]at k1;have hend:=hide (fun k=>Kc (n:=n) (E:=E) (k:=k) hv);have hfl:=hide (fun k=>Ke (n:=n) (E:=E) (v:=v) (k:=k));have hfn:=hide (fun k z=>tO (n:=n) (E:=E) (v:=v) (k:=k) (z:=z));have hda:=hide (fun k x=>Fx (n:=n) (E:=E) (v:=v) (k:=k) (x:=x));have hh:Hid (∀W,Below w.heap.size w W→GrS W (Old W) n A c (dJ E)):=hide (fun W hb=>h.below hb);have hTb:Hid (∀W,Below w.heap.size w W→gL W):=hide (fun W hb=>hTB.below hb);obtain⟨bb,ob,rfl,-,x0⟩:=(hh.out W0 hB).at_ hv;have c1:=Blk.n1 k0;have ht0:Hid (aS (dJ E v) n=aS (bA n E v 0) n):=hide (bZ fun i _=>rfl);rw[ht0.out]at x0;replace hs0:=hide hs0;clear h hTB;go_enter Tryz.func130,Tryz.ntmps130;go_upto_region 1 with fail;clear hW0;go_wp2_with fail;clear x0 c1;go_loopw [5,6] (fun s5 s6 wr=>∃k:Nat,s6= .int .i64 ((k:Int)+1)∧s5= .int .u64 (aS (bA n E v k) n:Nat)∧k≤n+1∧Blk wr w.heap.size 77 #[.int .i64 n,.slice (some ⟨bb,ob,none⟩) n c]∧Blk wr (w.heap.size+1) 209 (fT (dw n E v k))∧Below w.heap.size w wr) (fun _ s6 _=>n+3-(intOf s6).toNat);case atStart=>exact⟨0,by go_num,rfl,by omega,k0,k1,hB⟩
 case round=>
  clear k0 k1 hB;obtain⟨Wo,rfl⟩:∃Wo,Wo=wr:=⟨_,rfl⟩;obtain⟨k,rfl,rfl,hk,k0,k1,hb⟩:=hrel;have hk1:(0:Int)≤(k:Int):=Int.natCast_nonneg _;have h64:=hide (dS (p:=bA n E v k) yh);by_cases hz:aS (bA n E v k) n=0
  ·have hzb:(aS (bA n E v k) n !=0)=false:=(by simp[hz]);have hea:=hide (kS (hend.out k hz));rw[hea.out]at k1;have hsz:=hide (kQ (iE n E v));have h1:=hide (BU (iE n E v));obtain⟨arr,harr⟩:∃arr,fT (iE n E v)=arr:=⟨_,rfl⟩;rw[harr]at k1 hsz h1;replace harr:=hide harr;generalize aS (bA n E v k) n=s at*;clear hea;go_upto_region 14 with fail;refine wp_region_lit ?_;refine vV rfl rfl rfl k1 Tryz.underlying209 (by rw[hsz.out];exact uP) ?_;refine uI rfl rfl rfl rfl k1 (by rw[hsz.out];exact uP) rfl h1.out ?_;rw[BX k1];go_wp2;refine bodyPost_ret (v:= .agg arr) (yg Tryz.results130 rfl k1 Tryz.underlying209 (by rw[hsz.out];exact uP)) rfl ⟨by rw[harr.out],hb⟩
  ·have hzb:(aS (bA n E v k) n !=0)=true:=(by simp[hz]);have hkn:=hide (hfl.out k hz);replace hz:=hide hz;have hli:Hid (aB (gP (aS (bA n E v k) n))=aB ((List.range n).filter (bA n E v k))):=hide (by rw[lH yh]);have Rq:=hide (hfn.out k);have Rt:=hide (hda.out k);have hnd:Hid (((List.range n).filter (bA n E v k)).Nodup):=hide (List.Pairwise.filter _ List.nodup_range);have hlt:Hid (∀x∈(List.range n).filter (bA n E v k),x<n):=hide (fun x hx=>List.mem_range.1 (List.mem_filter.1 hx).1);have hLl:((List.range n).filter (bA n E v k)).length≤64:=Nat.le_trans (List.length_filter_le _ _) (by simp;exact yh);have hbl:=hide (lI (aS (bA n E v k) n) h64.out Wo (hTb.out Wo hb));rw[hli.out]at hbl;generalize hLq:(List.range n).filter (bA n E v k)=L at*;replace hLq:=hide hLq;have hln:=hide (aF L);generalize aS (bA n E v k) n=s at*;go_wp2_with fail;refine hbl.out.mono ?_;rintro e w5 ⟨vl,rfl,hO,hb5⟩;obtain⟨Al,cl,rfl⟩:=aV.form hO;have hb6:=hb.trans (hb5.mono hb.size);have hg1:w.heap.size+1<Wo.heap.size:=k1.lt;have hIs:=hide (aV.sl (K:=fun b=>Wo.heap.size≤b∧b<w5.heap.size) hO (fun g h1 h2=>⟨h1,h2⟩));replace k0:=k0.below hb5 k0.lt;replace k1:=k1.below hb5 k1.lt;have hs5:=hb5.size;rw[hln.out]at hIs⊢;have hd0:Hid (fT (dw n E v k)=fT (dIn (dw n E v k) k [])):=hide (kS fun x=>(L6 _ _ x).symm);rw[hd0.out]at k1;have hp0:Hid ((0:Nat)=aS (pIn E (dw n E v k) []) n):=hide (sG.2 fun x _=>rfl).symm;clear hbl hO hb hb5;go_wp2_with fail;go_loopw [7,22] (fun s7 s22 wq=>∃i:Nat,i≤L.length∧s22= .int .i64 i∧s7= .int .u64 (aS (pIn E (dw n E v k) (L.take i)) n:Nat)∧Blk wq w.heap.size 77 #[.int .i64 n,.slice (some ⟨bb,ob,none⟩) n c]∧Blk wq (w.heap.size+1) 209 (fT (dIn (dw n E v k) k (L.take i)))∧Below w.heap.size w wq∧Agree (fun b=>b<w5.heap.size∧b≠w.heap.size+1) w5 wq∧w5.heap.size≤wq.heap.size) (fun _ s22 _=>L.length-(intOf s22).toNat);case atStart=>exact⟨0,Nat.zero_le _,by go_num,by rw[List.take_zero,←hp0.out];rfl,k0,by rw[List.take_zero];exact k1,hb6,Agree.refl _ _,Nat.le_refl _⟩
   case round=>
    clear k0 k1 hb6;obtain⟨Wp,rfl⟩:∃Wp,Wp=wr:=⟨_,rfl⟩;obtain⟨i,hi,rfl,rfl,k0,k1,hb,hag,hsz⟩:=hrel;have hi1:(0:Int)≤(i:Int):=Int.natCast_nonneg _;by_cases hil:i<L.length
    ·have hi2:(i:Int)<(L.length:Int):=(by omega);have hIp:=hIs.out.keep (K':=fun _=>True) (hag.mono fun b hb=>⟨hb.2,by have h1:Wo.heap.size≤b:=hb.1;omega⟩) (fun _ _=>trivial);obtain⟨bl,ol,rfl,-,x0⟩:=hIp.at_ (i:=i) (by rw[hln.out];exact hil);have hxL:(aB L)[i]'(by rw[hln.out];exact hil)=(L[i]:Int):=(by simp[aB]);rw[hxL]at x0;have hxn:L[i]<n:=hlt.out _ (List.getElem_mem hil);obtain⟨hd1,hd2,hd3⟩:=J9 (D:=dw n E v k) (k:=k) hnd.out hil;have hps:=hide (fun z=>Ka (E:=E) (D:=dw n E v k) hil z);obtain⟨x,hx⟩:∃x,L[i]=x:=⟨_,rfl⟩;rw[hx]at x0 hxn hd1 hd2 hd3 hps;clear hxL hx;have hx0:(0:Int)≤(x:Int):=Int.natCast_nonneg _;have hx1:(x:Int)<(n:Int):=(by omega);have Ru:(x:Int)<64:=(by omega);have MX:x<64:=(by omega);have e1:=k1.cell x;rw[zS MX,hd1]at e1;have f1:=k1.frozen x;have c1:=Blk.n1 k0;have r0:=((hh.out Wp hb).cells hxn).2;have L8:=hide hil;clear hIp;by_cases hD:dw n E v k x=0
     ·have hDb:((dw n E v k x:Int)==0)=true:=(by simp[hD]);have Qh:(dw n E v k x==0)=true:=(by simp[hD]);have hset:=hide ((J7 (D:=dIn (dw n E v k) k (L.take i)) (k:=k) MX).trans (kS (hd2 hD)));have hjn:Hid (joinL [aS (pIn E (dw n E v k) (L.take i)) n,aS (dJ E x) n]=aS (pIn E (dw n E v k) (L.take (i+1))) n):=hide (by
       rw[rX,zK];refine bZ fun z _=> ?_;rw[hps.out,decide_eq_true hD,Bool.true_and];rfl)
      have Qi:=hide (dS (p:=pIn E (dw n E v k) (L.take i)) yh);have OU:=hide (dS (p:=dJ E x) yh);have k1':=k1.aJ x (.int .i64 ((k:Int)+1));rw[hset.out]at k1';have k0':=k0.far (p:=⟨w.heap.size+1,x,none⟩) (show w.heap.size≠w.heap.size+1 by omega) (.int .i64 ((k:Int)+1));have hb':=hb.setCell (p:=⟨w.heap.size+1,x,none⟩) (Nat.le_succ _) (.int .i64 ((k:Int)+1));have hag':=hag.trans (Agree.setCell ⟨w.heap.size+1,x,none⟩ (fun h=>h.2 rfl) (.int .i64 ((k:Int)+1)) (w:=Wp) (K:=fun b=>b<w5.heap.size∧b≠w.heap.size+1));have hsz':Hid (w5.heap.size≤(Wp.setCell ⟨w.heap.size+1,x,none⟩ (.int .i64 ((k:Int)+1))).heap.size):=hide (by simpa using hsz);have hbz:=hide hb';generalize aS (pIn E (dw n E v k) (L.take i)) n=s1 at*;obtain⟨s2,hs2⟩:∃s2,aS (dJ E x) n=s2:=⟨_,rfl⟩;rw[hs2]at hjn OU r0;have Qj:=hide hs2;clear hs2;clear hps hd1 hd2 hd3 hset hD;replace hag':=hide hag';go_upto_region 11 with fail;obtain⟨Wq,hWq⟩:∃Wq,Wp.setCell ⟨w.heap.size+1,x,none⟩ (.int .i64 ((k:Int)+1))=Wq:=⟨_,rfl⟩;rw[hWq]at hb' k0' k1' hag' hsz';rw[hWq];have Nv:=hb'.size;have hsq:=hsz'.out;have c1':=Blk.n1 k0';have r0':=((hh.out _ hb').cells hxn).2;have he2:Hid (aS (dJ E x) n=s2):=Qj;rw[he2.out]at r0';obtain⟨Wz,hWz⟩:∃Wz,Wq.alloc (.cells #[.int .u64 s1,.int .u64 s2] 172)=Wz:=⟨_,rfl⟩;have kN:=hide (iq.bE (l:=[s1,s2]) (K:=fun _=>True) (Blk.newEq hWz) trivial);have kz0:=k0'.au hWz;have kz1:=k1'.au hWz;have Qk:=ah hb' hWz Nv;have Ql:=hide (hag'.out.trans (Agree.au hWz (fun b hb=>by have h1:b<w5.heap.size:=hb.1;omega)));have hszz:w5.heap.size≤Wz.heap.size:=(by have:=ay hWz;omega);have hxy:Hid (∀y∈[s1,s2],y<18446744073709551616):=hide (by intro y hy;simp at hy;rcases hy with rfl|rfl;exact Qi.out;exact OU.out);have Qm:Hid (Wq.heap.size=Wq.heap.size):=hide rfl;clear hWq k0 k1 hb hag hsz e1 f1 c1 r0 x0 hb' k0' k1' hag' hsz' hbz;go_wp2_with fail;refine(dW (some ⟨Wq.heap.size,0,none⟩) 2 2 [s1,s2] (fun _=>True) _ rfl kN.out hxy.out (by omega)).mono ?_;rintro e w7 ⟨rfl,rfl⟩;rw[hjn.out];clear hWz kN;go_wp2;go_roundw;case rel=>exact⟨i+1,L8.out,by go_num,rfl,kz0,kz1,Qk,Ql.out,hszz⟩
      case measure=>have:=L8.out;simp[intOf];omega
     ·have hDb:((dw n E v k x:Int)==0)=false:=(by rw[beq_eq_false_iff_ne];omega);have Qh:(dw n E v k x==0)=false:=(by simp[hD]);have hset:=hide (kS (hd3 hD));have hpn:Hid (aS (pIn E (dw n E v k) (L.take i)) n=aS (pIn E (dw n E v k) (L.take (i+1))) n):=hide (bZ fun z _=>by rw[hps.out,decide_eq_false hD];simp);rw[hset.out]at k1;rw[hpn.out];clear hps hd1 hd2 hd3 hset hD;replace hag:=hide hag;go_wp2;go_roundw;case rel=>exact⟨i+1,L8.out,by go_num,rfl,k0,k1,hb,hag.out,hsz⟩
      case measure=>have:=L8.out;simp[intOf];omega
    ·obtain rfl:i=L.length:=(by omega);have hen:Hid (aS (pIn E (dw n E v k) (L.take L.length)) n=aS (bA n E v (k+1)) n):=hide (bZ fun z _=>by rw[List.take_length,←hLq.out,tO];rfl);have hea:Hid (fT (dIn (dw n E v k) k (L.take L.length))=fT (dw n E v (k+1))):=hide (kS fun x=>by rw[List.take_length,←hLq.out];exact Fx);rw[hen.out];rw[hea.out]at k1;have hkn2:=hkn.out;clear hen hea hag hIs;go_wp2;go_roundw;case rel=>exact⟨k+1,by go_num,rfl,by omega,k0,k1,hb⟩
     case measure=>simp[intOf];omega
set_option maxHeartbeats 1000000
end Go.Proofs.YtfhnamomiaekdaaGreatDoor
namespace Go.Proofs.YtfhnamomiaekdaaGreatDoor
open Go.RowKit Go.Inq
set_option maxHeartbeats 1000000
end Go.Proofs.YtfhnamomiaekdaaGreatDoor
namespace Go.Proofs.YtfhnamomiaekdaaGreatDoor
open Go.RowKit Go.Inq
set_option maxHeartbeats 4000000
attribute [local go_sem↓] Go.wp_at_zero Go.wp_at_succ
def NG(w:World)(base:Nat)(v:Value)(l:List Nat):Prop:=w.ownsRow base 172 1 v l.length (l.map Gi).flatten
theorem NG.form{w:World}{base:Nat}{v:Value}{l:List Nat}(h:NG w base v l):∃A c,v= .slice A l.length c:=aM h
def RG(W:World)(base n:Nat)(E:ak)(v:Value):Prop:=
 (n=0∧v= .slice none 0 0)∨∃g cap cur,v= .slice (some ⟨g,0,none⟩) n cap∧base≤g∧Blk W g 172 cur∧n≤cap∧cap≤maxLen∧cur.size=cap∧∀i,i<n→cur[i]?=some (.int .u64 (aS (E i) n:Nat))
theorem RG.uS{W:World}{base n:Nat}{E:ak}{v:Value}(h:NG W base v (dA n E)):RG W base n E v:=by
 obtain⟨h1,h2⟩:=h;rw[aL]at h2;rcases h2 with⟨h3,h4⟩|⟨g,cap,cur,h3,h4,h5,h6,h7,h8,h9⟩
 ·exact .inl ⟨h4,h3⟩
 ·refine .inr ⟨g,cap,cur,h3,h4,h5,h6,h7,by rw[h8];simp,fun i hi=> ?_⟩;have h10:(cur.toList.take (n*1))[i]?=some (.int .u64 (aS (E i) n:Nat)):=by
   rw[h9];have:∀l:List Nat,(l.map Gi).flatten=l.map fun x:Nat=>Value.int .u64 x:=fun l=>by
    induction l with
    |nil=>rfl
    |cons a l ih=>simp[Gi]at ih⊢;exact ih
   rw[this,List.getElem?_map,List.getElem?_eq_getElem (by rw[aL];exact hi),fA hi];rfl
  rw[List.getElem?_take]at h10;split at h10
  ·simpa using h10
  ·cases h10
theorem Bn(n:Nat):dA n noE=List.replicate n 0:=by
 unfold dA;rw[List.eq_replicate_iff];refine⟨by simp,fun x hx=> ?_⟩;obtain⟨a,_,rfl⟩:=List.mem_map.1 hx;refine Nat.eq_of_testBit_eq fun j=> ?_;rw[aK];simp[noE]
theorem RG.add{W:World}{base n:Nat}{E:ak}{g cap:Nat}(h:RG W base n E (.slice (some ⟨g,0,none⟩) n cap)){x y:Nat}(hx:x<n)(hy:y<n)(hn:n≤64):
 RG (W.setCell ⟨g,x,none⟩ (.int .u64 (mU (aS (E x) n) (y:Int):Nat))) base n (orE E (iO x y)) (.slice (some ⟨g,0,none⟩) n cap):=by
 rcases h with⟨h1,h2⟩|⟨g',cap',cur,h1,h2,h3,h4,h5,h6,h7⟩
 ·cases h2
 ·simp only[Value.slice.injEq,Option.some.injEq,Addr.mk.injEq,and_true,true_and]at h1;obtain⟨rfl,rfl⟩:=h1;refine .inr ⟨g,cap,_,rfl,h2,h3.aJ x _,h4,h5,by simp[h6],fun i hi=> ?_⟩;rw[rW hy hn];by_cases e:i=x
  ·subst e;rw[Array.getElem?_setIfInBounds_self_of_lt (by omega)];congr 3;refine bZ fun b hb=> ?_;simp[orE,iO]
  ·rw[Array.getElem?_setIfInBounds_ne (by omega),h7 i hi];congr 3;refine bZ fun b hb=> ?_;simp[orE,iO,e]
end Go.Proofs.YtfhnamomiaekdaaGreatDoor
namespace Go.Proofs.YtfhnamomiaekdaaGreatDoor
open Go.RowKit Go.Inq
theorem lM{B:Nat}{w w1:World}(h:Below B w w1):Below B w w1.drew:=h.trans ⟨rfl,rfl,rfl,Nat.le_refl _,fun _ _=>rfl⟩
theorem RG.keep{W W':World}{B n:Nat}{E:ak}{v:Value}(h:RG W B n E v)(hk:∀g,B≤g→g<W.heap.size→W'.heap[g]?=W.heap[g]?):RG W' B n E v:=by
 rcases h with h|⟨g,cap,cur,h1,h2,h3,r⟩
 ·exact .inl h
 ·exact .inr ⟨g,cap,cur,h1,h2,(hk g h2 h3.lt).trans h3,r⟩
theorem RG.below{W W':World}{B B' n:Nat}{E:ak}{v:Value}(h:RG W B n E v)(hb:Below B' W W')(hB:W.heap.size≤B'):RG W' B n E v:=h.keep fun g _ hg=>hb.block g (by omega)
theorem RG.alloc{W:World}{B n:Nat}{E:ak}{v:Value}(h:RG W B n E v)(o:Obj):RG (W.alloc o) B n E v:=h.keep fun g _ hg=>Below.heap_alloc W o g hg
theorem RG.far{W:World}{B n:Nat}{E:ak}{v:Value}(h:RG W B n E v){p:Addr}(hp:p.block<B)(u:Value):RG (W.setCell p u) B n E v:=h.keep fun g hg _=>Below.heap_setCell W p u g (by omega)
theorem RG.drew{W:World}{B n:Nat}{E:ak}{v:Value}(h:RG W B n E v):RG W.drew B n E v:=h.keep fun _ _ _=>rfl
theorem RG.congr{W:World}{base n:Nat}{E F:ak}{v:Value}(h:RG W base n E v)(hE:∀a b,a<n→b<n→E a b=F a b):RG W base n F v:=by
 rcases h with h|⟨g,cap,cur,h1,h2,h3,h4,h5,h6,h7⟩
 ·exact .inl h
 ·exact .inr ⟨g,cap,cur,h1,h2,h3,h4,h5,h6,fun i hi=>by rw[h7 i hi];congr 3;exact bZ fun b hb=>hE i b hi hb⟩
structure RGP(W:World)(B p n:Nat)(E:ak)(A:Option Addr)(c:Nat):Prop where
 box:Blk W p 140 #[.int .i64 n,.slice A n c]
 rg:RG W B n E (.slice A n c)
 lt:∀g,A=some g→g.block<p
 n64:n≤64
section
variable{W W':World}{B p n:Nat}{E F:ak}{A:Option Addr}{c:Nat}
theorem RGP.plt(h:RGP W B p n E A c):p<W.heap.size:=h.box.lt
theorem RGP.c0(h:RGP W B p n E A c):W.cell? ⟨p,0,none⟩=some (.int .i64 n):=by simpa using h.box.cell 0
theorem RGP.c1(h:RGP W B p n E A c):W.cell? ⟨p,1,none⟩=some (.slice A n c):=by simpa using h.box.cell 1
theorem RGP.below(h:RGP W B p n E A c){B':Nat}(hb:Below B' W W')(hB:W.heap.size≤B'):RGP W' B p n E A c:=
 ⟨h.box.below hb (Nat.lt_of_lt_of_le h.plt hB),h.rg.below hb hB,h.lt,h.n64⟩
theorem RGP.alloc(h:RGP W B p n E A c)(o:Obj):RGP (W.alloc o) B p n E A c:=⟨h.box.alloc o,h.rg.alloc o,h.lt,h.n64⟩
theorem RGP.drew(h:RGP W B p n E A c):RGP W.drew B p n E A c:=⟨h.box.drew,h.rg.drew,h.lt,h.n64⟩
theorem RGP.drewN(h:RGP W B p n E A c)(k:Nat):RGP (W.drewN k) B p n E A c:=⟨h.box.drewN k,h.rg.keep fun _ _ _=>rfl,h.lt,h.n64⟩
theorem RGP.congr(h:RGP W B p n E A c)(hE:∀a b,a<n→b<n→E a b=F a b):RGP W B p n F A c:=⟨h.box,h.rg.congr hE,h.lt,h.n64⟩
structure RGX(W:World)(B p n x:Nat)(E:ak)(g c:Nat):Prop where
 box:RGP W B p n E (some ⟨g,0,none⟩) c
 c0:W.cell? ⟨p,0,none⟩=some (.int .i64 n)
 c1:W.cell? ⟨p,1,none⟩=some (.slice (some ⟨g,0,none⟩) n c)
 at_:W.cell? ⟨g,x,none⟩=some (.int .u64 (aS (E x) n:Nat))
 fr:W.frozen? ⟨g,x,none⟩=false
 gp:g<p
 gl:g<W.heap.size
 B:B≤g
 h64:aS (E x) n<18446744073709551616
theorem RGP.at_(h:RGP W B p n E A c){x:Nat}(hx:x<n):∃g,A=some ⟨g,0,none⟩∧RGX W B p n x E g c:=by
 rcases h.rg with⟨h1,_⟩|⟨g,cap,cur,h1,h2,h3,h4,h5,h6,h7⟩
 ·omega
 ·simp only[Value.slice.injEq,true_and]at h1;obtain⟨rfl,rfl⟩:=h1;exact⟨g,rfl,h,h.c0,h.c1,(h3.cell x).trans (h7 x hx),h3.frozen x,h.lt _ rfl,h3.lt,h2,dS h.n64⟩
theorem RGX.add{x:Nat}{g:Nat}(h:RGX W B p n x E g c){y:Nat}(hx:x<n)(hy:y<n):
 RGP (W.setCell ⟨g,x,none⟩ (.int .u64 (mU (aS (E x) n) (y:Int):Nat))) B p n (orE E (iO x y)) (some ⟨g,0,none⟩) c:=
 ⟨h.box.box.far (p:=⟨g,x,none⟩) (Nat.ne_of_gt h.gp) _,h.box.rg.add hx hy h.box.n64,h.box.lt,h.box.n64⟩
end
end Go.Proofs.YtfhnamomiaekdaaGreatDoor
namespace Go.Inq
open Go Go.RowKit
def TyK(base:Nat)(τs:List TypeId)(w:World):Nat→Prop:=fun b=>base≤b∧∃t,t∈τs∧∃cs,Blk w b t cs
section
variable{base:Nat}{τs:List TypeId}{w w' w1 w2:World}
theorem TyK.lt{b:Nat}(h:TyK base τs w b):b<w.heap.size:=by
 obtain⟨_,t,_,cs,h⟩:=h;exact h.lt
theorem TyK.step(ha:Agree (TyK base τs w) w w'){b:Nat}(h:TyK base τs w b):TyK base τs w' b:=by
 obtain⟨h1,t,h2,cs,h3⟩:=h;exact⟨h1,t,h2,cs,(ha b ⟨h1,t,h2,cs,h3⟩).trans h3⟩
theorem TyK.trans(ha:Agree (TyK base τs w) w w1)(hb:Agree (TyK base τs w1) w1 w2):Agree (TyK base τs w) w w2:=fun b h=>(hb b (TyK.step ha h)).trans (ha b h)
theorem TyK.below{B:Nat}(hb:Below B w w')(hB:w.heap.size≤B):Agree (TyK base τs w) w w':=Agree.below hb fun _ h=>Nat.lt_of_lt_of_le h.lt hB
theorem TyK.alloc(o:Obj):Agree (TyK base τs w) w (w.alloc o):=Agree.alloc (fun _ h=>h.lt) o
theorem TyK.off{g:Nat}{t:TypeId}{cs:Array Value}(hk:Blk w g t cs)(ht:t∉τs):¬TyK base τs w g:=fun h=>by
 obtain⟨_,t',h1,cs',h2⟩:=h;have:=hk.symm.trans h2;simp at this;exact ht (this.2▸h1)
theorem TyK.aJ{g i:Nat}{t:TypeId}{cs:Array Value}(hk:Blk w g t cs)(ht:t∉τs)(u:Value):Agree (TyK base τs w) w (w.setCell ⟨g,i,none⟩ u):=
 Agree.setCell ⟨g,i,none⟩ (TyK.off hk ht) u
theorem TyK.drew:Agree (TyK base τs w) w w.drew:=Agree.drew _ _
end
section
variable{α:Type}{size:Nat}{R:World→(Nat→Prop)→List Value→α→Prop}{w w':World}{K K':Nat→Prop}{base:Nat}{e:TypeId}{v:Value}{l:List α}{τs:List TypeId}
theorem lN{n:Nat}{xs:List Value}(h:w.ownsRow base e size v n xs){g:Nat}(hg:v.ownBlock=some g):∃cs,Blk w g e cs:=by
 rcases h.2 with⟨h2,_⟩|⟨g',cap,cur,h2,_,hh,_⟩
 ·rw[h2]at hg;simp[Value.ownBlock]at hg
 ·rw[h2]at hg;simp[Value.ownBlock]at hg;subst hg;exact⟨cur,hh⟩
theorem bC.blk(h:bC size R w K base e v l){g:Nat}(hg:v.ownBlock=some g):∃cs,Blk w g e cs:=by
 obtain⟨ys,h1,_⟩:=h;exact lN h1 hg
theorem bC.ne(h:bC size R w K base e v l){g:Nat}{t:TypeId}{cs:Array Value}(hk:Blk w g t cs)(ht:t≠e):v.ownBlock≠some g:=fun hg=>by
 obtain⟨cs',h4⟩:=h.blk hg;have:=hk.symm.trans h4;simp at this;exact ht this.2
theorem bC.MZ(hR:mG R)(h:bC size R w (TyK base τs w) base e v l)(ha:Agree (TyK base τs w) w w')(hr:∀g,v.ownBlock=some g→w'.heap[g]?=w.heap[g]?):bC size R w' (TyK base τs w') base e v l:=
 bC.keep hR h ha (fun _ g=>TyK.step ha g) hr
theorem bC.Ec(hR:mG R){B:Nat}(h:bC size R w (TyK base τs w) base e v l)(hb:Below B w w')(hB:w.heap.size≤B):bC size R w' (TyK base τs w') base e v l:=
 h.MZ hR (TyK.below hb hB) fun g hg=>hb.block g (Nat.lt_of_lt_of_le (h.lt g hg).2 hB)
theorem gT{base' n:Nat}{xs:List Value}(h:w.ownsRow base e size v n xs)(hb:base'≤base):w.ownsRow base' e size v n xs:=by
 refine⟨h.1,?_⟩;rcases h.2 with h2|⟨g,cap,cur,hv,hg,r⟩
 ·exact .inl h2
 ·exact .inr ⟨g,cap,cur,hv,by omega,r⟩
theorem bC.slT(hR:mG R)(h:bC size R w (TyK base τs w) base e v l):SlR size R w (TyK base (e::τs) w) v l:=by
 have h2:bC size R w (TyK base (e::τs) w) base e v l:=bC.keep hR h (Agree.refl _ _) (fun _ g=>by
  obtain⟨g1,t,g2,g3⟩:=g;exact⟨g1,t,List.mem_cons_of_mem _ g2,g3⟩) fun _ _=>rfl
 refine h2.sl fun g hg=> ?_;obtain⟨cs,h3⟩:=h.blk hg;exact⟨(h.lt g hg).1,e,List.mem_cons_self,cs,h3⟩
end
theorem zT{α:Type}{size:Nat}{enc:α→List Value}{w:World}{base:Nat}{e:TypeId}{v:Value}{l:List α}{τs:List TypeId}(h:w.ownsRow base e size v l.length (l.map enc).flatten)(hs:∀x,(enc x).length=size)(he:e∈τs):SlR size (Flat enc) w (TyK base τs w) v l:=by
 have h2:bC size (Flat enc) w (TyK base τs w) base e v l:=bC.flat h hs;refine h2.sl fun g hg=> ?_;obtain⟨cs,h3⟩:=h2.blk hg;exact⟨(h2.lt g hg).1,e,he,cs,h3⟩
theorem zU {P:Program} {W:World} {ops:Array Oper} {rest:List Oper} {o:Oper} {a:Act} {Q:Exit→Act→World→Prop} {α:Type} {R:World→(Nat→Prop)→List Value→α→Prop}
 (hR:mG R) (hone:∀w K cs x,R w K cs x→∀u∈cs,u.oneCell'=true)
 (hgd:o.guard=none) (s x:Operand) (t:TypeId) (ho:o.op= .call {callee:= .builtin .append,args:=#[s,x],argTypes:=#[t,t]})
 (base:Nat) (e:TypeId) (i:TypeInfo) (z:Value) (size bytes:Nat) (ht:P.underlying t=some (.slice e)) (hi:P.info? e=some i) (hz:i.zero=some z)
 (hsize:i.size=size) (hby:i.bytes=bytes) (hzs:z.cells.size=size) (hsz:0<size)
 (τs:List TypeId) (hτ:e∉τs) (v:Value) (l:List α) (hs:a.eval s=v) (hown:bC size R W (TyK base τs W) base e v l)
 (cs:Array Value) (x0:α) (hcs:cs.size=size) (hrow:R W (TyK base τs W) cs.toList x0)
 (hx:a.eval x= .slice (some ⟨W.heap.size,0,none⟩) 1 1) (h63:l.length+1≤maxLen) (hbytes:(l.length+1)*bytes≤140737488355328) (hbase:base≤W.heap.size) (w0:World) (B:Nat) (hB:B≤base) (hb:Below B w0 W)
 (h:∀v' w',bC size R w' (TyK base τs w') base e v' (l++[x0])→Agree (TyK base τs W) W w'→Below B w0 w'→(∀g,v'.ownBlock=some g→v.ownBlock=some g∨W.heap.size≤g)→(∀g t cs,Blk W g t cs→t≠e→Blk w' g t cs)→wpList P ops Q rest (a.put o.dst v') w'):
 wpList P ops Q (o::rest) a (W.alloc (.cells cs e)):=by
 have hown0:=hown;obtain⟨ys,h1,h2,h3⟩:=hown;have hq:∀y∈ys,y.length=size∧∀u∈y,u.oneCell'=true:=fun y hy=>by
  obtain⟨j,hj,rfl⟩:=List.getElem_of_mem hy;obtain⟨g1,g2⟩:=h3 j ys[j] (l[j]'(by omega)) (List.getElem?_eq_getElem hj) (List.getElem?_eq_getElem (by omega));exact⟨g1,hone _ _ _ _ g2⟩
 let enc:{y:List Value//y.length=size∧∀u∈y,u.oneCell'=true}→List Value:=fun y=>y.1
 let ts:List {y:List Value//y.length=size∧∀u∈y,u.oneCell'=true}:=ys.pmap Subtype.mk hq
 have hts:ts.map enc=ys:=by
  show(ys.pmap Subtype.mk hq).map (fun y=>y.1)=ys;rw[List.map_pmap,List.pmap_eq_map,List.map_id']
 have htl:ts.length=l.length:=(by rw[←h2,←hts,List.length_map]);have hlt:=h1.lt;have hc0:cs.toList.length=size∧∀u∈cs.toList,u.oneCell'=true:=⟨by simpa using hcs,hone _ _ _ _ hrow⟩;have hA0:Agree (TyK base τs W) W (W.alloc (.cells cs e)):=TyK.alloc _;have hblk:∀b,TyK base τs W b→v.ownBlock≠some b:=fun b hb e'=>by
  obtain⟨cs',g2⟩:=lN h1 e';exact TyK.off g2 hτ hb
 refine bI (enc:=enc) hgd s x t ho base e i z size bytes ht hi hz hsize hby hzs hsz v ts hs (by rw[htl,hts];exact h1) (fun y=>y.2.1) ⟨cs.toList,hc0⟩ cs rfl hx (fun y=>y.2.2) (by omega) (by rw[htl];exact hbytes) hbase w0 B hB hb ?_;intro v' w' g1 g2 g3 g4;have hA1:Agree (TyK base τs W) W w':=hA0.trans (Agree.grown g2 fun b hb=>⟨by have:=hb.lt;simp;omega,fun e'=>hblk b hb e'.symm⟩);rw[List.map_append,hts,List.length_append,htl]at g1;refine h v' w' ⟨ys++[cs.toList],by rw[List.length_append];exact g1,by simp[h2],fun j y x' e1 e2=> ?_⟩ hA1 g3 ?_ (fun g t cs hk ht=>(hk.alloc _).grown g2 fun e'=> ?_)
 ·by_cases hj:j<ys.length
  ·rw[List.getElem?_append_left hj]at e1;rw[List.getElem?_append_left (by omega)]at e2;obtain⟨q1,q2⟩:=h3 j y x' e1 e2;exact⟨q1,hR _ _ _ _ _ _ q2 hA1 fun _ g=>TyK.step hA1 g⟩
  ·rw[List.getElem?_append_right (by omega)]at e1 e2;have hj0:j-ys.length=0:=by
    rcases Nat.eq_zero_or_pos (j-ys.length)with e'|e'
    ·exact e'
    ·rw[List.getElem?_eq_none (by simp;omega)]at e1;cases e1
   rw[hj0]at e1;rw[show j-l.length=0 by omega]at e2;simp at e1 e2;subst e1 e2;exact⟨hc0.1,hR _ _ _ _ _ _ hrow hA1 fun _ g=>TyK.step hA1 g⟩
 ·intro g hg;rcases g4 with e'|e'
  ·exact .inl (e'▸hg)
  ·right;rw[e']at hg;injection hg with hg
   omega
 ·obtain⟨cs',h4⟩:=lN h1 e'.symm;have:=hk.symm.trans h4;simp at this;exact ht this.2
end Go.Inq
