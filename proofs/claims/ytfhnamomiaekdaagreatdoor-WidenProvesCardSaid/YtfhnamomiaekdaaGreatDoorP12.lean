/-
  Walks: layer 30: a state's copy.
-/
import Derived.Deep.OwnRows
import Derived.Test.YtfhnamomiaekdaaGreatDoorP10
import Derived.Test.YtfhnamomiaekdaaGreatDoorP11
set_option linter.unusedVariables false
set_option linter.unusedSimpArgs false
namespace Go.Proofs.YtfhnamomiaekdaaGreatDoor
open Go.RowKit Go.Inq
set_option maxHeartbeats 1000000
attribute [local go_sem↓] Go.wp_at_zero Go.wp_at_succ
theorem EX:(Tryz.prog.info? 33).map (fun i=>(i.zero,i.size,i.bytes))=some (some (.slice none 0 0),1,24):=by kernel_rfl
theorem y5:(Tryz.prog.info? 3).map (·.size)=some 1:=by kernel_rfl
def uJ(l:List Int):Array Value:=(l.map (Value.int .i64)).toArray
def MkV(e:TypeId)(base n:Nat)(v:Value)(W:World):Prop:=∃g,base≤g∧v= .slice (some ⟨g,0,none⟩) n n∧∃cs,Blk W g e cs∧cs.size=n
def dL(s:Wd)(Ap:Option Addr)(cp:Nat)(Al:Option Addr)(cl:Nat)(base:Nat):Nat→(Nat→Value)→World→Prop
 |0,vs,_=>vs 0= .pointer (some ⟨base,0,none⟩)
 |1,vs,_=>vs 1= .int .i64 s.width
 |2,vs,_=>vs 2= .pointer (some ⟨base,1,none⟩)
 |3,vs,_=>vs 3= .bool s.cut
 |4,vs,_=>vs 4= .pointer (some ⟨base,2,none⟩)
 |5,vs,_=>vs 5= .slice Ap s.path.length cp
 |6,vs,_=>vs 6= .int .i64 (s.path.length:Nat)
 |7,vs,W=>MkV 3 (base+2) s.path.length (vs 7) W
 |8,vs,_=>vs 8= .pointer (some ⟨base,3,none⟩)
 |9,vs,_=>vs 9= .slice Al s.left.length cl
 |10,vs,_=>vs 10= .int .i64 (s.left.length:Nat)
 |11,vs,W=>MkV 33 (base+2) s.left.length (vs 11) W
 |12,vs,_=>∃g7 g11,vs 12= .agg #[.int .i64 s.width,.bool s.cut,.slice (some ⟨g7,0,none⟩) s.path.length s.path.length,.slice (some ⟨g11,0,none⟩) s.left.length s.left.length]∧vs 7= .slice (some ⟨g7,0,none⟩) s.path.length s.path.length∧vs 11= .slice (some ⟨g11,0,none⟩) s.left.length s.left.length
 |13,vs,W=>Jf 84 (base+2) (vs 13) W
 |14,vs,W=>∃g x y z u,vs 13= .pointer (some ⟨g,0,none⟩)∧base+2≤g∧vs 12= .agg #[x,y,z,u]∧Blk W g 84 #[x,y,z,u]
 |_,_,_=>True
def dF:Nat→List Nat
 |1=>[0]
 |3=>[2]
 |5=>[4]
 |6=>[5]
 |7=>[6]
 |9=>[8]
 |10=>[9]
 |11=>[10]
 |12=>[1,3,7,11]
 |14=>[13,12]
 |_=>[]
theorem Jh{s:Wd}{Ap:Option Addr}{cp:Nat}{Al:Option Addr}{cl:Nat}{base:Nat}:∀j (vs vs':Nat→Value) w,(∀k,k=j∨k∈dF j→vs k=vs' k)→dL s Ap cp Al cl base j vs w→dL s Ap cp Al cl base j vs' w:=by
 intro j vs vs' w hk h
 match j,h with
 |0,h|1,h|2,h|3,h|4,h|5,h|6,h|7,h|8,h|9,h|10,h|11,h|13,h=>
  simp only[dL]at h⊢;rw[←hk _ (.inl rfl)];exact h
 |12,h=>
  simp only[dL]at h⊢;rw[←hk 12 (.inl rfl),←hk 7 (.inr (by simp[dF])),←hk 11 (.inr (by simp[dF]))];exact h
 |14,h=>
  simp only[dL]at h⊢;rw[←hk 13 (.inr (by simp[dF])),←hk 12 (.inr (by simp[dF]))];exact h
 |n+15,_=>trivial
def lF(base:Nat)(i:Nat)(W W':World):Prop:=if i=14 then uH 84 4 (base+2) W W' else Below W.heap.size W W'
theorem lF.var{base i:Nat}{W W':World}(h:lF base i W W'):uH 84 4 (base+2) W W':=by
 unfold lF at h;split at h
 ·exact h
 ·exact uH.of_below h
theorem MkV.var{e:TypeId}{base n b:Nat}{v:Value}{W W':World}(h:MkV e base n v W)(hs:uH 84 4 b W W')(he:e≠84):MkV e base n v W':=by
 obtain⟨g,h1,h2,cs,h3,h4⟩:=h;exact⟨g,h1,h2,cs,hs.blk h3 he,h4⟩
theorem Di{s:Wd}{Ap:Option Addr}{cp:Nat}{Al:Option Addr}{cl:Nat}{base:Nat}:∀i j (vs:Nat→Value) w w',j≠i→j∉(fun _=>[]:Nat→List Nat) i→dL s Ap cp Al cl base j vs w→lF base i w w'→dL s Ap cp Al cl base j vs w':=by
 intro i j vs w w' hne _ h hs;have hv:=hs.var
 match j,h with
 |0,h|1,h|2,h|3,h|4,h|5,h|6,h|8,h|9,h|10,h|12,h=>exact h
 |7,h|11,h=>
  simp only[dL]at h⊢;exact h.var hv (by decide)
 |13,h=>
  simp only[dL]at h⊢;exact Jf.var h hv
 |14,h=>
  unfold lF at hs;rw[if_neg (fun e=>hne e.symm)]at hs;simp only[dL]at h⊢;obtain⟨g,x,y,z,u,h1,h2,h3,h4⟩:=h;exact⟨g,x,y,z,u,h1,h2,h3,h4.below hs h4.lt⟩
 |n+15,_=>trivial
theorem Dj:∀i,15≤i→dF i=[]:=by
 intro i hi
 match i,hi with
 |n+15,_=>rfl
def Ji(w:World)(s:Wd)(e:Ending)(w':World):Prop:=
 ∃gP gL cur,e= .returned (.agg #[.int .i64 s.width,.bool s.cut,.slice (some ⟨gP,0,none⟩) s.path.length s.path.length,.slice (some ⟨gL,0,none⟩) s.left.length s.left.length])∧
  w.heap.size≤gP∧w.heap.size≤gL∧Blk w' gP 3 (uJ s.path)∧Blk w' gL 33 cur∧cur.size=s.left.length∧
  (∀j (hj:j<s.left.length),∃gj,w.heap.size≤gj∧cur[j]?=some (.slice (some ⟨gj,0,none⟩) s.left[j].length s.left[j].length)∧Blk w' gj 3 (uJ s.left[j]))∧Below w.heap.size w w'
def uK(base gL:Nat)(left:List (List Int))(i:Nat)(W:World):Prop:=
 ∃cur,Blk W gL 33 cur∧cur.size=left.length∧∀j (hj:j<left.length),j<i→∃gj,base≤gj∧cur[j]?=some (.slice (some ⟨gj,0,none⟩) left[j].length left[j].length)∧Blk W gj 3 (uJ left[j])
theorem uK.step {base gL:Nat} {left:List (List Int)} {i n:Nat} {wr W5 w6:World} {cur:Array Value} {z:Array Value} (hi:i<left.length) (qL:Blk wr gL 33 cur) (hcur:cur.size=left.length)
 (hrows:∀j (hj:j<left.length),j<i→∃gj,base≤gj∧cur[j]?=some (.slice (some ⟨gj,0,none⟩) left[j].length left[j].length)∧Blk wr gj 3 (uJ left[j])) (hb:base≤wr.heap.size)
 (hW5:wr.alloc (.cells z 3)=W5) (hn:left[i].length=n) (hg:(W5.drew.setCell ⟨gL,i,none⟩ (.slice (some ⟨wr.heap.size,0,none⟩) n n)).grownBy w6 (some wr.heap.size)) (hk:Blk w6 wr.heap.size 3 (uJ left[i])):uK base gL left (i+1) w6:=by
 have hl:=qL.lt;refine⟨_,(((qL.av hW5).drew).aK i (.slice (some ⟨wr.heap.size,0,none⟩) n n)).grown hg (by simp;omega),by simp[hcur],fun j hj hji=> ?_⟩;by_cases e:j=i
 ·subst e;exact⟨wr.heap.size,hb,by rw[hn];simp[hcur,hj],hk⟩
 ·obtain⟨gj,h1,h2,h3⟩:=hrows j hj (by omega);have hlt:=h3.lt;have hne:gj≠gL:=by
   rintro rfl;have:=h3.symm.trans qL;simp at this
  refine⟨gj,h1,?_,(((h3.av hW5).drew).far (p:=⟨gL,i,none⟩) hne _).grown hg (by simp;omega)⟩;rw[←h2];simp[Array.getElem?_setIfInBounds,Ne.symm e]
set_option maxRecDepth 100000 in
theorem p8(v:Value)(s:Wd)(w:World)(hv:WdS w (Old w) v s)(hs:lq s):Calls Tryz.prog 105 #[v] w (Ji w s):=by
 obtain⟨Ap,cp,Al,cl,rfl,hP,hL⟩:=hv.form;obtain⟨hs1,hs2,hs3⟩:=hs;have QF:∀(W:World),(Instr.makeSlice 33 (.int .i64 (s.path.length:Int)) (.int .i64 (s.path.length:Int))).run Tryz.prog W= .ok (.slice (some ⟨W.heap.size,0,none⟩) s.path.length s.path.length) (W.alloc (.cells (madeCells #[.int .i64 0] s.path.length) 3)):=
  fun W=>run_make_row' (P:=Tryz.prog) 33 3 (.int .i64 0) 8 Tryz.underlying33 dO rfl .i64 .i64 _ (by omega) (by omega) W
 have QG:∀(W:World),(Instr.makeSlice 82 (.int .i64 (s.left.length:Int)) (.int .i64 (s.left.length:Int))).run Tryz.prog W= .ok (.slice (some ⟨W.heap.size,0,none⟩) s.left.length s.left.length) (W.alloc (.cells (madeCells #[.slice none 0 0] s.left.length) 33)):=
  fun W=>run_make_row' (P:=Tryz.prog) 82 33 (.slice none 0 0) 24 Tryz.underlying82 EX rfl .i64 .i64 _ (by omega) (by omega) W
 obtain⟨W0,hW0⟩:∃W0,(w.alloc (.cells #[.int .i64 s.width,.bool s.cut,.slice Ap s.path.length cp,.slice Al s.left.length cl] 84)).alloc (.cells #[.int .i64 0,.bool false,.slice none 0 0,.slice none 0 0] 84)=W0:=⟨_,rfl⟩;have hB:=aN hW0;have k0:=Blk.jg hW0;have k1:=Blk.iB hW0;replace hP:=hide hP;replace hL:=hide hL;replace hs3:=hide hs3;clear hv;go_enter Tryz.func105,Tryz.ntmps105;go_wp2_with fail;clear hW0;refine dV (dL s Ap cp Al cl w.heap.size) (fun W=>Below w.heap.size w W∧Blk W w.heap.size 84 #[.int .i64 s.width,.bool s.cut,.slice Ap s.path.length cp,.slice Al s.left.length cl]∧Blk W (w.heap.size+1) 84 #[.int .i64 0,.bool false,.slice none 0 0,.slice none 0 0]) (lF w.heap.size) dF (by kernel_rfl) (by kernel_rfl) (by kernel_rfl) Dj (fun _=>[]) (by kernel_rfl) Jh Di ⟨hB.drew,k0,k1⟩ ?hstep ?hend;case hstep=>
  intro i o ho vs W hS hd;obtain⟨hb,m0,m1⟩:=hS;have hsz:=m1.lt
  match i,ho with
  |0,ho=>
   simp only[gZ,gS,Option.some.injEq]at ho;subst ho;simp only[acV,gA,gZ,gS,Act.put,sA,sZ,sS];go_wp2;exact⟨rfl,_,rfl,rfl,⟨hb,m0,m1⟩,Below.refl _ _⟩
  |1,ho=>
   have d0:=hd 0 (by simp[dF]);simp only[dL]at d0;simp only[gZ,gS,Option.some.injEq]at ho;subst ho;simp only[acV,gA,gZ,gS,Act.put,sA,sZ,sS];rw[d0];have c0:=Blk.n0 m0;go_wp2;exact⟨rfl,_,rfl,rfl,⟨hb,m0,m1⟩,Below.refl _ _⟩
  |2,ho=>
   simp only[gZ,gS,Option.some.injEq]at ho;subst ho;simp only[acV,gA,gZ,gS,Act.put,sA,sZ,sS];go_wp2;exact⟨rfl,_,rfl,rfl,⟨hb,m0,m1⟩,Below.refl _ _⟩
  |3,ho=>
   have d0:=hd 2 (by simp[dF]);simp only[dL]at d0;simp only[gZ,gS,Option.some.injEq]at ho;subst ho;simp only[acV,gA,gZ,gS,Act.put,sA,sZ,sS];rw[d0];have c0:=Blk.n1 m0;go_wp2;exact⟨rfl,_,rfl,rfl,⟨hb,m0,m1⟩,Below.refl _ _⟩
  |4,ho=>
   simp only[gZ,gS,Option.some.injEq]at ho;subst ho;simp only[acV,gA,gZ,gS,Act.put,sA,sZ,sS];go_wp2;exact⟨rfl,_,rfl,rfl,⟨hb,m0,m1⟩,Below.refl _ _⟩
  |5,ho=>
   have d0:=hd 4 (by simp[dF]);simp only[dL]at d0;simp only[gZ,gS,Option.some.injEq]at ho;subst ho;simp only[acV,gA,gZ,gS,Act.put,sA,sZ,sS];rw[d0];have c0:=Blk.n2 m0;go_wp2;exact⟨rfl,_,rfl,rfl,⟨hb,m0,m1⟩,Below.refl _ _⟩
  |6,ho=>
   have d0:=hd 5 (by simp[dF]);simp only[dL]at d0;simp only[gZ,gS,Option.some.injEq]at ho;subst ho;simp only[acV,gA,gZ,gS,Act.put,sA,sZ,sS];rw[d0];go_wp2;exact⟨rfl,_,rfl,rfl,⟨hb,m0,m1⟩,Below.refl _ _⟩
  |7,ho=>
   have d0:=hd 6 (by simp[dF]);simp only[dL]at d0;simp only[gZ,gS,Option.some.injEq]at ho;subst ho;simp only[acV,gA,gZ,gS,Act.put,sA,sZ,sS];rw[d0];go_wp2;exact⟨rfl,_,rfl,⟨W.heap.size,by omega,rfl,_,Blk.new _ _ _,by simp[size_madeCells]⟩,⟨hb.alloc hb.size _,m0.alloc _,m1.alloc _⟩,(Below.refl _ _).alloc (Nat.le_refl _) _⟩
  |8,ho=>
   simp only[gZ,gS,Option.some.injEq]at ho;subst ho;simp only[acV,gA,gZ,gS,Act.put,sA,sZ,sS];go_wp2;exact⟨rfl,_,rfl,rfl,⟨hb,m0,m1⟩,Below.refl _ _⟩
  |9,ho=>
   have d0:=hd 8 (by simp[dF]);simp only[dL]at d0;simp only[gZ,gS,Option.some.injEq]at ho;subst ho;simp only[acV,gA,gZ,gS,Act.put,sA,sZ,sS];rw[d0];have c0:=Blk.n3 m0;go_wp2;exact⟨rfl,_,rfl,rfl,⟨hb,m0,m1⟩,Below.refl _ _⟩
  |10,ho=>
   have d0:=hd 9 (by simp[dF]);simp only[dL]at d0;simp only[gZ,gS,Option.some.injEq]at ho;subst ho;simp only[acV,gA,gZ,gS,Act.put,sA,sZ,sS];rw[d0];go_wp2;exact⟨rfl,_,rfl,rfl,⟨hb,m0,m1⟩,Below.refl _ _⟩
  |11,ho=>
   have d0:=hd 10 (by simp[dF]);simp only[dL]at d0;simp only[gZ,gS,Option.some.injEq]at ho;subst ho;simp only[acV,gA,gZ,gS,Act.put,sA,sZ,sS];rw[d0];go_wp2;exact⟨rfl,_,rfl,⟨W.heap.size,by omega,rfl,_,Blk.new _ _ _,by simp[size_madeCells]⟩,⟨hb.alloc hb.size _,m0.alloc _,m1.alloc _⟩,(Below.refl _ _).alloc (Nat.le_refl _) _⟩
  |12,ho=>
   have d1:=hd 1 (by simp[dF]);have d3:=hd 3 (by simp[dF]);obtain⟨g7,hg7,d7,_⟩:=hd 7 (by simp[dF]);obtain⟨g11,QH,d11,_⟩:=hd 11 (by simp[dF]);simp only[dL]at d1 d3;simp only[gZ,gS,Option.some.injEq]at ho;subst ho;simp only[acV,gA,gZ,gS,Act.put,sA,sZ,sS];rw[d1,d3,d7,d11];go_wp2;exact⟨rfl,_,rfl,⟨g7,g11,rfl,d7,d11⟩,⟨hb,m0,m1⟩,Below.refl _ _⟩
  |13,ho=>
   simp only[gZ,gS,Option.some.injEq]at ho;subst ho;simp only[acV,gA,gZ,gS,Act.put,sA,sZ,sS];go_wp2;exact⟨rfl,_,rfl,⟨W.heap.size,by omega,rfl,_,_,_,_,Blk.new _ _ _⟩,⟨hb.alloc hb.size _,m0.alloc _,m1.alloc _⟩,(Below.refl _ _).alloc (Nat.le_refl _) _⟩
  |14,ho=>
   obtain⟨g,hg,d13,x,y,z,u,q⟩:=hd 13 (by simp[dF]);obtain⟨g7,g11,d12,_,_⟩:=hd 12 (by simp[dF]);simp only[gZ,gS,Option.some.injEq]at ho;subst ho;simp only[acV,gA,gZ,gS,Act.put,sA,sZ,sS];rw[d13,d12];have c0:=Blk.n0 q;have c1:=Blk.n1 q;have c2:=Blk.n2 q;have c3:=Blk.n3 q;have f0:=q.frozen 0;have f1:=q.frozen 1;have f2:=q.frozen 2;have f3:=q.frozen 3;go_wp2;have hq:=(((q.aK 0 (.int .i64 s.width)).aK 1 (.bool s.cut)).aK 2 (.slice (some ⟨g7,0,none⟩) s.path.length s.path.length)).aK 3 (.slice (some ⟨g11,0,none⟩) s.left.length s.left.length);have n1:w.heap.size≠g:=(by omega);have n2:w.heap.size+1≠g:=(by omega);refine⟨rfl,undef,rfl,⟨g,_,_,_,_,(show dx vs 14 undef 13=_ from d13),hg,(show dx vs 14 undef 12=_ from d12),by simpa using hq⟩,⟨(((hb.setCell (p:=⟨g,0,none⟩) (by simp;omega) _).setCell (p:=⟨g,1,none⟩) (by simp;omega) _).setCell (p:=⟨g,2,none⟩) (by simp;omega) _).setCell (p:=⟨g,3,none⟩) (by simp;omega) _,(((m0.far n1 _).far n1 _).far n1 _).far n1 _,(((m1.far n2 _).far n2 _).far n2 _).far n2 _⟩,?_⟩;unfold lF;rw[if_pos rfl];refine⟨⟨rfl,rfl,rfl,by simp⟩,fun k hk=> ?_⟩;by_cases e:k=g
   ·subst e;exact .inr ⟨hg,_,_,q,hq,by simp⟩
   ·exact .inl ((Below.heap_setCell _ ⟨g,3,none⟩ _ k e).trans ((Below.heap_setCell _ ⟨g,2,none⟩ _ k e).trans ((Below.heap_setCell _ ⟨g,1,none⟩ _ k e).trans (Below.heap_setCell _ ⟨g,0,none⟩ _ k e))))
  |n+15,ho=>simp at ho
 case hend=>
  rintro vs W ⟨hb,m0,m1⟩ hd;obtain⟨gP,hgP,d7,Pg,qP,hcP⟩:=hd 7 (by simp) (by intro i _;simp);obtain⟨gL,hgL,d11,Ph,qL,hcL⟩:=hd 11 (by simp) (by intro i _;simp);obtain⟨g7,g11,d12,d7',Jj⟩:=hd 12 (by simp) (by intro i _;simp);obtain⟨g,x,y,z,u,d13,hg,Jk,q⟩:=hd 14 (by simp) (by intro i _;simp);rw[d12]at Jk;injection Jk with Jk
  simp only[Array.mk.injEq,List.cons.injEq,and_true]at Jk;obtain⟨rfl,rfl,rfl,rfl⟩:=Jk;rw[d7]at d7';rw[d11]at Jj;injection d7' with d7'
  injection Jj with Jj
  simp only[Option.some.injEq,Addr.mk.injEq,and_true]at d7' Jj;subst d7' Jj;have v0:vs 0= .pointer (some ⟨w.heap.size,0,none⟩):=hd 0 (by simp) (by intro i _;simp);have v2:vs 2= .pointer (some ⟨w.heap.size,1,none⟩):=hd 2 (by simp) (by intro i _;simp);clear hd;simp only[acV,gA,gZ,gS,Act.put,sA,sZ,sS,List.length_cons,List.length_nil,Nat.reduceAdd];rw[d12,d13];clear d12 d13 d7 d11 v0 v2 k0 k1 hB;have hPw:=hide (hP.out.keep (Agree.below hb (fun b h=>h)) (fun b h=>h));have hLw:=hide (hL.out.keep (Agree.below hb (fun b h=>h)) (fun b h=>h));have hqg:=hg;clear hP;generalize vs 0=v0 at*;generalize vs 1=v1 at*;generalize vs 2=v2 at*;generalize vs 3=v3 at*;generalize vs 4=v4 at*;generalize vs 5=v5 at*;generalize vs 6=v6 at*;generalize vs 7=v7 at*;generalize vs 8=v8 at*;generalize vs 9=v9 at*;generalize vs 10=v10 at*;generalize vs 11=v11 at*;have c2:=Blk.n2 m0;have c3:=Blk.n3 m0;have e2:=Blk.n2 q;have e3:=Blk.n3 q;have hPa:=hide (fun i hi=>hPw.out.at_ (i:=i) hi);go_wp2_with (refine eB (Value.int .i64) rfl (.tmp 20) (.tmp 22) 33 33 rfl 3 Tryz.underlying33 y5 gP s.path.length s.path.length cp Ap rfl rfl Pg 3 qP hcP s.path rfl (fun i hi=>by obtain⟨b,off,hA,_,hc⟩:=hPa.out i hi;exact⟨b,off,hA,hc⟩) (fun x _=>rfl) ?_;intro w4 kP hg4;have c3b:=(m0.grown hg4 (by simp;omega)).cell 3;simp only[gA,gZ,gS]at c3b);have hne:gP≠g:=(by rintro rfl;have:=qP.symm.trans q;simp at this);have Jl:gP≠gL:=(by rintro rfl;have:=qP.symm.trans qL;simp at this);have n0:gP≠w.heap.size:=(by omega);have n1:gP≠w.heap.size+1:=(by omega);have b4:=below_grown hb hg4 hb.size (by intro k hk;injection hk with hk;omega);replace m0:=m0.grown hg4 (by simp;omega);replace m1:=m1.grown hg4 (by simp;omega);replace q:=q.grown hg4 (by simp;omega);replace qL:=qL.grown hg4 (by simp;omega);replace hLw:=hide (hL.out.keep (Agree.below b4 (fun b h=>h)) (fun b h=>h));obtain⟨AlF,clF,hAl⟩:∃AlF clF,Value.slice Al s.left.length cl= .slice AlF s.left.length clF:=⟨_,_,rfl⟩;clear hAl c2 c3 e2 e3 hPw hPa hg4 qP hcP hb;have NI:gL≠g:=(by rintro rfl;have:=qL.symm.trans q;simp at this);have l0:gL≠w.heap.size:=(by omega);have l1:gL≠w.heap.size+1:=(by omega);go_loopw [27] (fun s27 wr=>∃i:Nat,i≤s.left.length∧s27= .int .i64 i∧uK w.heap.size gL s.left i wr∧Blk wr gP 3 (uJ s.path)∧Blk wr w.heap.size 84 #[.int .i64 s.width,.bool s.cut,.slice Ap s.path.length cp,.slice Al s.left.length cl]∧Blk wr (w.heap.size+1) 84 #[.int .i64 0,.bool false,.slice none 0 0,.slice none 0 0]∧Blk wr g 84 #[.int .i64 s.width,.bool s.cut,.slice (some ⟨gP,0,none⟩) s.path.length s.path.length,.slice (some ⟨gL,0,none⟩) s.left.length s.left.length]∧Below w.heap.size w wr) (fun s27 _=>s.left.length-(intOf s27).toNat);case atStart=>exact⟨0,Nat.zero_le _,by go_num,⟨Ph,qL,hcL,fun j hj h=>absurd h (by omega)⟩,kP,m0,m1,q,b4⟩
  case round=>
   clear kP m0 m1 q b4 qL hLw;obtain⟨i,hi,rfl,⟨cur,qL,hcur,hrows⟩,kP,m0,m1,q,hb⟩:=hrel;have hi1:(0:Int)≤(i:Int):=Int.natCast_nonneg _;have hLw:=hide (hL.out.keep (Agree.below hb (fun b h=>h)) (fun b h=>h));by_cases hlt:i<s.left.length
   ·have hi2:(i:Int)<(s.left.length:Int):=(by omega);obtain⟨bl,ol,Ar,cr,rfl,QI,d0,hrow⟩:=hLw.out.at_ hlt;have hrl:=hs3.out _ (List.getElem_mem hlt);have hRW:=hide hrows;clear hrows;have Pj:∃old,cur[i]?=some old:=⟨_,Array.getElem?_eq_getElem (by omega)⟩;obtain⟨old,hold⟩:=Pj;have e3:=Blk.n3 q;have QB:s.left[i].length=s.left[i].length:=rfl;generalize EY:s.left[i]=row at*;have QJ:∀(W:World),(Instr.makeSlice 33 (.int .i64 (row.length:Int)) (.int .i64 (row.length:Int))).run Tryz.prog W= .ok (.slice (some ⟨W.heap.size,0,none⟩) row.length row.length) (W.alloc (.cells (madeCells #[.int .i64 0] row.length) 3)):=
     fun W=>run_make_row' (P:=Tryz.prog) 33 3 (.int .i64 0) 8 Tryz.underlying33 dO rfl .i64 .i64 _ (by omega) (by omega) W
    obtain⟨W5,hW5⟩:∃W5,wr.alloc (.cells (madeCells #[.int .i64 0] row.length) 3)=W5:=⟨_,rfl⟩;have hs5:=aD hW5;have QK:=qL.lt;have hgl:=q.lt;have nL:wr.heap.size≠gL:=(by omega);have kN:=Blk.newEq hW5;have qc:=(qL.av hW5).cell i;rw[hold]at qc;have qf:=(qL.av hW5).frozen i;have e35:=Blk.n3 (q.av hW5);have hbW:=(ah (Below.refl wr.heap.size wr) hW5 (Nat.le_refl _));have LQ:=hide (hrow.keep (Agree.below (B:=w.heap.size) (w':=W5.drew.setCell ⟨gL,i,none⟩ (.slice (some ⟨wr.heap.size,0,none⟩) row.length row.length)) (((hbW.mono hb.size).trans ⟨rfl,rfl,rfl,Nat.le_refl _,fun _ _=>rfl⟩:Below w.heap.size wr W5.drew).setCell (p:=⟨gL,i,none⟩) (by simp;omega) _) (fun b h=>h)) (fun b h=>h));have LU:=hide (fun j hj=>LQ.out.at_ (i:=j) hj);have kN5:Blk (W5.drew.setCell ⟨gL,i,none⟩ (.slice (some ⟨wr.heap.size,0,none⟩) row.length row.length)) wr.heap.size 3 (madeCells #[.int .i64 0] row.length):=kN.drew.far (p:=⟨gL,i,none⟩) nL _;have hmc:(madeCells #[.int .i64 0] row.length).size=row.length:=(by simp[size_madeCells]);have h5:=hide hW5;replace hmc:=hide hmc;clear kN hrow LQ hbW;go_wp2_with fail;refine jl [0,2,3,4] [1,5,6,7] [[1,5,6,7],[5,1,6,7]] (by kernel_rfl) (by kernel_rfl) (fun _ _ d _ _ h=>by cases d<;>exact h) ?_;simp only[List.filterMap_cons,List.filterMap_nil,gZ,gS];repeat still_step
    refine wpStill_nil ?_;intro i0 hi0;simp only[List.filterMap_cons,List.head?_cons,List.filterMap_nil,List.mem_cons,List.not_mem_nil,or_false,or_self]at hi0;obtain rfl|rfl:i0=1∨i0=5:=by omega
    ·refine dW rfl ?_;simp only[dR,List.filterMap_cons,List.filterMap_nil,if_true,if_false,reduceIte,Nat.reduceEqDiff,List.length_cons,List.length_nil,Nat.reduceAdd];go_wp2_with fail;refine dK _ _ _ _ rfl ?_;simp only[List.filterMap_cons,List.filterMap_nil,gA,gZ,gS];go_wp2_with (refine eB (Value.int .i64) rfl (.tmp 43) (.tmp 44) 33 33 rfl 3 Tryz.underlying33 y5 wr.heap.size row.length row.length cr Ar rfl rfl (madeCells #[.int .i64 0] row.length) 3 kN5 hmc.out row rfl (fun i hi=>by obtain⟨b,off,hA,_,hc⟩:=LU.out i hi;exact⟨b,off,hA,hc⟩) (fun x _=>rfl) ?_;intro w6 kR6 hg6);refine⟨⟨i+1,by omega,by go_num,uK.step hlt qL hcur hRW.out hb.size h5.out (by rw[EY]) hg6 (by rw[EY];exact kR6),(((kP.av h5.out).drew).far (p:=⟨gL,i,none⟩) Jl _).grown hg6 (by have:=kP.lt;simp;omega),(((m0.av h5.out).drew).far (p:=⟨gL,i,none⟩) (Ne.symm l0) _).grown hg6 (by have:=m0.lt;simp;omega),(((m1.av h5.out).drew).far (p:=⟨gL,i,none⟩) (Ne.symm l1) _).grown hg6 (by have:=m1.lt;simp;omega),(((q.av h5.out).drew).far (p:=⟨gL,i,none⟩) (Ne.symm NI) _).grown hg6 (by have:=q.lt;simp;omega),below_grown (((ah hb h5.out hb.size).trans ⟨rfl,rfl,rfl,Nat.le_refl _,fun _ _=>rfl⟩:Below w.heap.size w W5.drew).setCell (p:=⟨gL,i,none⟩) (by simp;omega) _) hg6 (by have:=hb.size;simp;omega) (by intro k hk;have:=hb.size;simp at hk;omega)⟩,by simp[intOf];omega⟩
    ·refine dW rfl ?_;simp only[dR,List.filterMap_cons,List.filterMap_nil,if_true,if_false,reduceIte,Nat.reduceEqDiff,List.length_cons,List.length_nil,Nat.reduceAdd];go_wp2_with fail;refine dK _ _ _ _ rfl ?_;simp only[List.filterMap_cons,List.filterMap_nil,gA,gZ,gS];go_wp2_with (refine eB (Value.int .i64) rfl (.tmp 43) (.tmp 44) 33 33 rfl 3 Tryz.underlying33 y5 wr.heap.size row.length row.length cr Ar rfl rfl (madeCells #[.int .i64 0] row.length) 3 kN5 hmc.out row rfl (fun i hi=>by obtain⟨b,off,hA,_,hc⟩:=LU.out i hi;exact⟨b,off,hA,hc⟩) (fun x _=>rfl) ?_;intro w6 kR6 hg6);refine⟨⟨i+1,by omega,by go_num,uK.step hlt qL hcur hRW.out hb.size h5.out (by rw[EY]) hg6 (by rw[EY];exact kR6),(((kP.av h5.out).drew).far (p:=⟨gL,i,none⟩) Jl _).grown hg6 (by have:=kP.lt;simp;omega),(((m0.av h5.out).drew).far (p:=⟨gL,i,none⟩) (Ne.symm l0) _).grown hg6 (by have:=m0.lt;simp;omega),(((m1.av h5.out).drew).far (p:=⟨gL,i,none⟩) (Ne.symm l1) _).grown hg6 (by have:=m1.lt;simp;omega),(((q.av h5.out).drew).far (p:=⟨gL,i,none⟩) (Ne.symm NI) _).grown hg6 (by have:=q.lt;simp;omega),below_grown (((ah hb h5.out hb.size).trans ⟨rfl,rfl,rfl,Nat.le_refl _,fun _ _=>rfl⟩:Below w.heap.size w W5.drew).setCell (p:=⟨gL,i,none⟩) (by simp;omega) _) hg6 (by have:=hb.size;simp;omega) (by intro k hk;have:=hb.size;simp at hk;omega)⟩,by simp[intOf];omega⟩
   ·obtain rfl:i=s.left.length:=(by omega);have d0:=Blk.n0 q;have d1:=Blk.n1 q;have d2:=Blk.n2 q;have d3:=Blk.n3 q;have x0:=Blk.n0 m1;have x1:=Blk.n1 m1;have x2:=Blk.n2 m1;have x3:=Blk.n3 m1;have f0:=m1.frozen 0;have f1:=m1.frozen 1;have f2:=m1.frozen 2;have f3:=m1.frozen 3;have j0:=m1.aK 0 (.int .i64 s.width);have j1:=j0.aK 1 (.bool s.cut);have j2:=j1.aK 2 (.slice (some ⟨gP,0,none⟩) s.path.length s.path.length);have j3:=j2.aK 3 (.slice (some ⟨gL,0,none⟩) s.left.length s.left.length);simp only[sA,sZ,sS]at j3;have y0:=Blk.n0 j3;have y1:=Blk.n1 j3;have y2:=Blk.n2 j3;have y3:=Blk.n3 j3;clear j0 j1 j2 j3;go_wp2;refine bodyPost_ret (v:= .agg #[.int .i64 s.width,.bool s.cut,.slice (some ⟨gP,0,none⟩) s.path.length s.path.length,.slice (some ⟨gL,0,none⟩) s.left.length s.left.length]) (by simp[results,Tryz.results105,go_sem,y0,y1,y2,y3]) rfl ?_;have hl1:=m1.lt;refine⟨gP,gL,cur,rfl,by omega,by omega,(((kP.far (p:=⟨w.heap.size+1,0,none⟩) n1 _).far (p:=⟨w.heap.size+1,1,none⟩) n1 _).far (p:=⟨w.heap.size+1,2,none⟩) n1 _).far (p:=⟨w.heap.size+1,3,none⟩) n1 _,(((qL.far (p:=⟨w.heap.size+1,0,none⟩) l1 _).far (p:=⟨w.heap.size+1,1,none⟩) l1 _).far (p:=⟨w.heap.size+1,2,none⟩) l1 _).far (p:=⟨w.heap.size+1,3,none⟩) l1 _,hcur,fun j hj=> ?_,(((hb.setCell (p:=⟨w.heap.size+1,0,none⟩) (by simp) _).setCell (p:=⟨w.heap.size+1,1,none⟩) (by simp) _).setCell (p:=⟨w.heap.size+1,2,none⟩) (by simp) _).setCell (p:=⟨w.heap.size+1,3,none⟩) (by simp) _⟩;obtain⟨gj,h1,h2,h3⟩:=hrows j hj hj;have hne2:gj≠w.heap.size+1:=(by rintro rfl;have:=h3.symm.trans m1;simp at this);exact⟨gj,h1,h2,(((h3.far (p:=⟨w.heap.size+1,0,none⟩) hne2 _).far (p:=⟨w.heap.size+1,1,none⟩) hne2 _).far (p:=⟨w.heap.size+1,2,none⟩) hne2 _).far (p:=⟨w.heap.size+1,3,none⟩) hne2 _⟩
end Go.Proofs.YtfhnamomiaekdaaGreatDoor
