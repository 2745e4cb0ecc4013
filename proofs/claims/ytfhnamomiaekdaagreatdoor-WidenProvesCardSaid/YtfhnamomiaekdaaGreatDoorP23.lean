/-
  Walks: layer 30: the law's example.
-/
import Derived.Test.YtfhnamomiaekdaaGreatDoorP21
import Derived.Test.YtfhnamomiaekdaaGreatDoorP22
set_option linter.unusedVariables false
set_option linter.unusedSimpArgs false
namespace Go.Proofs.YtfhnamomiaekdaaGreatDoor
open Go.RowKit Go.Inq
set_option maxHeartbeats 8000000
attribute [local go_sem↓] Go.wp_at_zero Go.wp_at_succ
def jo:List Txn:=[⟨0,[],[]⟩]
theorem MP:stepW jo 0 ⟨1,false,[],[]⟩=(⟨1,false,[],[[0]]⟩,0,[]):=by decide+kernel
theorem MQ:stepW jo 0 ⟨1,false,[],[[0]]⟩=(⟨1,false,[],[[]]⟩,1,[0]):=by decide+kernel
theorem MR:stepW jo 0 ⟨1,false,[],[[]]⟩=(⟨1,false,[],[[]]⟩,3,[]):=by decide+kernel
theorem MS:cZ jo ⟨1,false,[],[[0]]⟩=true:=by decide+kernel
theorem MU:cZ jo ⟨0,false,[],[]⟩=false:=by decide+kernel
theorem rX:aG jo:=⟨by simp[jo],fun t ht=>by simp[jo]at ht;subst ht;simp⟩
theorem G6(w:World):aA (w.alloc (.cells #[.int .i64 0,.slice none 0 0,.slice none 0 0] 109)) (fun b=>b=w.heap.size) (.slice (some ⟨w.heap.size,0,none⟩) 1 1) jo:=
 SlR.one (Blk.new _ _ _) rfl ⟨_,_,rfl,SlR.nil _ _ _ _ _ _,SlR.nil _ _ _ _ _ _⟩ rfl
structure L9(wz:World)(g2 g3:Nat)(r:Wd×Int×List Int)(vp vl vo:Value):Prop where
 b2:Blk wz g2 84 #[.int .i64 r.1.width,.bool r.1.cut,vp,vl]
 b3:Blk wz g3 36 #[.int .i64 r.2.1,vo,.slice none 0 0,.slice none 0 0]
 s:WdS wz (fun b=>b<wz.heap.size∧b≠g2∧b≠g3) (.agg #[.int .i64 r.1.width,.bool r.1.cut,vp,vl]) r.1
 o:aB wz (fun b=>b<wz.heap.size∧b≠g2∧b≠g3) vo r.2.2
structure lH(W1:World)(a:Nat)(r:Wd×Int×List Int)(g6 g7 lo hi:Nat)(vp vl vo:Value)(L:Nat→Bool)(vs:Nat→Value)(W:World):Prop where
 below:Below W1.heap.size W1 W
 w0:L 0=true→vs 0= .agg #[.slice (some ⟨a,0,none⟩) 1 1]
 w1:L 1=true→vs 1= .agg #[.int .i64 1,.bool false,.slice none 0 0,.slice none 0 0]
 w2:L 2=true→vs 2= .tuple #[.agg #[.int .i64 r.1.width,.bool r.1.cut,vp,vl],.agg #[.int .i64 r.2.1,vo,.slice none 0 0,.slice none 0 0]]
 i2:L 2=true→W1.heap.size≤lo∧hi≤W.heap.size∧a<W1.heap.size
 s2:L 2=true→WdS W (fun b=>b=a∨(lo≤b∧b<hi)) (.agg #[.int .i64 r.1.width,.bool r.1.cut,vp,vl]) r.1
 o2:L 2=true→aB W (fun b=>b=a∨(lo≤b∧b<hi)) vo r.2.2
 w3:L 3=true→vs 3= .tuple #[.agg #[.int .i64 r.1.width,.bool r.1.cut,vp,vl],.agg #[.int .i64 r.2.1,vo,.slice none 0 0,.slice none 0 0]]
 w4:L 4=true→vs 4= .agg #[.int .i64 r.1.width,.bool r.1.cut,vp,vl]
 w5:L 5=true→vs 5= .agg #[.int .i64 r.2.1,vo,.slice none 0 0,.slice none 0 0]
 w6:L 6=true→vs 6= .pointer (some ⟨g6,0,none⟩)∧W1.heap.size≤g6
 b6:L 6=true→L 8=false→∃x y z u,Blk W g6 84 #[x,y,z,u]
 b8:L 8=true→Blk W g6 84 #[.int .i64 r.1.width,.bool r.1.cut,vp,vl]
 w7:L 7=true→vs 7= .pointer (some ⟨g7,0,none⟩)∧W1.heap.size≤g7
 b7:L 7=true→L 9=false→∃x y z u,Blk W g7 36 #[x,y,z,u]
 b9:L 9=true→Blk W g7 36 #[.int .i64 r.2.1,vo,.slice none 0 0,.slice none 0 0]
 d6:L 2=true→L 6=true→¬(lo≤g6∧g6<hi)
 d7:L 2=true→L 7=true→¬(lo≤g7∧g7<hi)
def lI:Nat→List Nat
 |2=>[0,1]
 |3=>[2]
 |4=>[3]
 |5=>[3]
 |8=>[6,4,2,7]
 |9=>[7,5,2,6,8]
 |_=>[]
def zl:Nat→List Nat
 |2=>[3,4,5,8,9]
 |6=>[8,9]
 |7=>[9,8]
 |8=>[9]
 |_=>[]
section
variable{W1 W W':World}{a:Nat}{r:Wd×Int×List Int}{g6 g7 lo hi:Nat}{vp vl vo:Value}{L:Nat→Bool}{vs:Nat→Value}
def InvV(a:Nat)(r:Wd×Int×List Int)(vp vl vo:Value)(i:Nat)(v:Value):Prop:=
 (i=0→v= .agg #[.slice (some ⟨a,0,none⟩) 1 1])∧(i=1→v= .agg #[.int .i64 1,.bool false,.slice none 0 0,.slice none 0 0])∧
 (i=3→v= .tuple #[.agg #[.int .i64 r.1.width,.bool r.1.cut,vp,vl],.agg #[.int .i64 r.2.1,vo,.slice none 0 0,.slice none 0 0]])∧
 (i=4→v= .agg #[.int .i64 r.1.width,.bool r.1.cut,vp,vl])∧(i=5→v= .agg #[.int .i64 r.2.1,vo,.slice none 0 0,.slice none 0 0])
theorem aJ{vs:Nat→Value}{i j:Nat}{v:Value}(h:j≠i):dx vs i v j=vs j:=by unfold dx;rw[if_neg h]
theorem jO{vs:Nat→Value}{i:Nat}{v:Value}:dx vs i v i=v:=by unfold dx;rw[if_pos rfl]
theorem ak{L:Nat→Bool}{i j:Nat}(h:(L j||decide (j=i))=true)(hne:j≠i):L j=true:=by simpa[hne]using h
theorem mY{L:Nat→Bool}{i j:Nat}(h:(L j||decide (j=i))=false):L j=false:=by rw[Bool.or_eq_false_iff]at h;exact h.1
theorem lH.simple(I:lH W1 a r g6 g7 lo hi vp vl vo L vs W)(hb:Below W.heap.size W W'){i:Nat}{v:Value}(hq:i=0∨i=1∨i=3∨i=4∨i=5)(hv:InvV a r vp vl vo i v):
 lH W1 a r g6 g7 lo hi vp vl vo (fun j=>L j||decide (j=i)) (dx vs i v) W':=by
 have sW:=I.below.size;have hA:L 2=true→Agree (fun b=>b=a∨(lo≤b∧b<hi)) W W':=fun h=>Agree.below hb fun b hb2=>(by have:=I.i2 h;omega);obtain⟨v0,v1,v3,v4,v5⟩:=hv;exact
  {below:=I.below.trans (hb.mono sW)
   w0:=fun h=>by
    by_cases e:0=i
    ·subst e;rw[jO];exact v0 rfl
    ·rw[aJ e];exact I.w0 (ak h e)
   w1:=fun h=>by
    by_cases e:1=i
    ·subst e;rw[jO];exact v1 rfl
    ·rw[aJ e];exact I.w1 (ak h e)
   w2:=fun h=>by rw[aJ (by omega)];exact I.w2 (ak h (by omega))
   i2:=fun h=>by obtain⟨q1,q2,q3⟩:=I.i2 (ak h (by omega));have:=hb.size;exact⟨q1,by omega,q3⟩
   s2:=fun h=>(I.s2 (ak h (by omega))).keep (hA (ak h (by omega))) (fun _ h=>h)
   o2:=fun h=>(I.o2 (ak h (by omega))).keep (hA (ak h (by omega))) (fun _ h=>h)
   w3:=fun h=>by
    by_cases e:3=i
    ·subst e;rw[jO];exact v3 rfl
    ·rw[aJ e];exact I.w3 (ak h e)
   w4:=fun h=>by
    by_cases e:4=i
    ·subst e;rw[jO];exact v4 rfl
    ·rw[aJ e];exact I.w4 (ak h e)
   w5:=fun h=>by
    by_cases e:5=i
    ·subst e;rw[jO];exact v5 rfl
    ·rw[aJ e];exact I.w5 (ak h e)
   w6:=fun h=>by rw[aJ (by omega)];exact I.w6 (ak h (by omega))
   b6:=fun h h8=>by obtain⟨x,y,z,u,k⟩:=I.b6 (ak h (by omega)) (mY h8);exact⟨x,y,z,u,k.below hb k.lt⟩
   b8:=fun h=>by have k:=I.b8 (ak h (by omega));exact k.below hb k.lt
   w7:=fun h=>by rw[aJ (by omega)];exact I.w7 (ak h (by omega))
   b7:=fun h h8=>by obtain⟨x,y,z,u,k⟩:=I.b7 (ak h (by omega)) (mY h8);exact⟨x,y,z,u,k.below hb k.lt⟩
   b9:=fun h=>by have k:=I.b9 (ak h (by omega));exact k.below hb k.lt
   d6:=fun h h6=>I.d6 (ak h (by omega)) (ak h6 (by omega))
   d7:=fun h h6=>I.d7 (ak h (by omega)) (ak h6 (by omega))}
theorem lH.called (I:lH W1 a r g6 g7 lo hi vp vl vo L vs W) (hb:Below W.heap.size W W') (h3:L 3=false) (h4:L 4=false) (h5:L 5=false) (h8:L 8=false) (h9:L 9=false) (ha:a<W1.heap.size) {vp' vl' vo':Value}
 (hs:WdS W' (fun b=>(b=a∨W.heap.size≤b)∧b<W'.heap.size) (.agg #[.int .i64 r.1.width,.bool r.1.cut,vp',vl']) r.1) (ho:aB W' (fun b=>(b=a∨W.heap.size≤b)∧b<W'.heap.size) vo' r.2.2):
 lH W1 a r g6 g7 W.heap.size W'.heap.size vp' vl' vo' (fun j=>L j||decide (j=2)) (dx vs 2 (.tuple #[.agg #[.int .i64 r.1.width,.bool r.1.cut,vp',vl'],.agg #[.int .i64 r.2.1,vo',.slice none 0 0,.slice none 0 0]])) W':=by
 have sW:=I.below.size;have no:∀{j:Nat} {p:Prop},L j=false→j≠2→(L j||decide (j=2))=true→p:=fun h1 h2 h3=>(by rw[ak h3 h2]at h1;cases h1);exact
  {below:=I.below.trans (hb.mono sW)
   w0:=fun h=>by rw[aJ (by omega)];exact I.w0 (ak h (by omega))
   w1:=fun h=>by rw[aJ (by omega)];exact I.w1 (ak h (by omega))
   w2:=fun _=>jO
   i2:=fun _=>⟨sW,Nat.le_refl _,ha⟩
   s2:=fun _=>hs.keep (Agree.refl _ _) fun b hb=>by omega
   o2:=fun _=>ho.keep (Agree.refl _ _) fun b hb=>by omega
   w3:=no h3 (by omega)
   w4:=no h4 (by omega)
   w5:=no h5 (by omega)
   w6:=fun h=>by rw[aJ (by omega)];exact I.w6 (ak h (by omega))
   b6:=fun h h8=>by obtain⟨x,y,z,u,k⟩:=I.b6 (ak h (by omega)) (mY h8);exact⟨x,y,z,u,k.below hb k.lt⟩
   b8:=no h8 (by omega)
   w7:=fun h=>by rw[aJ (by omega)];exact I.w7 (ak h (by omega))
   b7:=fun h h8=>by obtain⟨x,y,z,u,k⟩:=I.b7 (ak h (by omega)) (mY h8);exact⟨x,y,z,u,k.below hb k.lt⟩
   b9:=no h9 (by omega)
   d6:=fun _ h6=>by obtain⟨x,y,z,u,k⟩:=I.b6 (ak h6 (by omega)) h8;have:=k.lt;omega
   d7:=fun _ h6=>by obtain⟨x,y,z,u,k⟩:=I.b7 (ak h6 (by omega)) h9;have:=k.lt;omega}
theorem lH.Od(I:lH W1 a r g6 g7 lo hi vp vl vo L vs W)(h8:L 8=false){x y z u:Value}:
 lH W1 a r W.heap.size g7 lo hi vp vl vo (fun j=>L j||decide (j=6)) (dx vs 6 (.pointer (some ⟨W.heap.size,0,none⟩))) (W.alloc (.cells #[x,y,z,u] 84)):=by
 have sW:=I.below.size;have hb:Below W.heap.size W (W.alloc (.cells #[x,y,z,u] 84)):=(Below.refl _ _).alloc (Nat.le_refl _) _;have hA:L 2=true→Agree (fun b=>b=a∨(lo≤b∧b<hi)) W (W.alloc (.cells #[x,y,z,u] 84)):=fun h=>Agree.below hb fun b hb2=>(by have:=I.i2 h;omega);exact
  {below:=I.below.trans (hb.mono sW)
   w0:=fun h=>by rw[aJ (by omega)];exact I.w0 (ak h (by omega))
   w1:=fun h=>by rw[aJ (by omega)];exact I.w1 (ak h (by omega))
   w2:=fun h=>by rw[aJ (by omega)];exact I.w2 (ak h (by omega))
   i2:=fun h=>by obtain⟨q1,q2,q3⟩:=I.i2 (ak h (by omega));have:=hb.size;exact⟨q1,by omega,q3⟩
   s2:=fun h=>(I.s2 (ak h (by omega))).keep (hA (ak h (by omega))) (fun _ h=>h)
   o2:=fun h=>(I.o2 (ak h (by omega))).keep (hA (ak h (by omega))) (fun _ h=>h)
   w3:=fun h=>by rw[aJ (by omega)];exact I.w3 (ak h (by omega))
   w4:=fun h=>by rw[aJ (by omega)];exact I.w4 (ak h (by omega))
   w5:=fun h=>by rw[aJ (by omega)];exact I.w5 (ak h (by omega))
   w6:=fun _=>⟨jO,sW⟩
   b6:=fun _ _=>⟨x,y,z,u,Blk.new _ _ _⟩
   b8:=fun h=>by rw[ak h (by omega)]at h8;cases h8
   w7:=fun h=>by rw[aJ (by omega)];exact I.w7 (ak h (by omega))
   b7:=fun h h8=>by obtain⟨x,y,z,u,k⟩:=I.b7 (ak h (by omega)) (mY h8);exact⟨x,y,z,u,k.alloc _⟩
   b9:=fun h=>(I.b9 (ak h (by omega))).alloc _
   d6:=fun h _=>by have:=I.i2 (ak h (by omega));omega
   d7:=fun h h7=>I.d7 (ak h (by omega)) (ak h7 (by omega))}
theorem lH.Oe(I:lH W1 a r g6 g7 lo hi vp vl vo L vs W)(h9:L 9=false){x y z u:Value}:
 lH W1 a r g6 W.heap.size lo hi vp vl vo (fun j=>L j||decide (j=7)) (dx vs 7 (.pointer (some ⟨W.heap.size,0,none⟩))) (W.alloc (.cells #[x,y,z,u] 36)):=by
 have sW:=I.below.size;have hb:Below W.heap.size W (W.alloc (.cells #[x,y,z,u] 36)):=(Below.refl _ _).alloc (Nat.le_refl _) _;have hA:L 2=true→Agree (fun b=>b=a∨(lo≤b∧b<hi)) W (W.alloc (.cells #[x,y,z,u] 36)):=fun h=>Agree.below hb fun b hb2=>(by have:=I.i2 h;omega);exact
  {below:=I.below.trans (hb.mono sW)
   w0:=fun h=>by rw[aJ (by omega)];exact I.w0 (ak h (by omega))
   w1:=fun h=>by rw[aJ (by omega)];exact I.w1 (ak h (by omega))
   w2:=fun h=>by rw[aJ (by omega)];exact I.w2 (ak h (by omega))
   i2:=fun h=>by obtain⟨q1,q2,q3⟩:=I.i2 (ak h (by omega));have:=hb.size;exact⟨q1,by omega,q3⟩
   s2:=fun h=>(I.s2 (ak h (by omega))).keep (hA (ak h (by omega))) (fun _ h=>h)
   o2:=fun h=>(I.o2 (ak h (by omega))).keep (hA (ak h (by omega))) (fun _ h=>h)
   w3:=fun h=>by rw[aJ (by omega)];exact I.w3 (ak h (by omega))
   w4:=fun h=>by rw[aJ (by omega)];exact I.w4 (ak h (by omega))
   w5:=fun h=>by rw[aJ (by omega)];exact I.w5 (ak h (by omega))
   w6:=fun h=>by rw[aJ (by omega)];exact I.w6 (ak h (by omega))
   b6:=fun h h8=>by obtain⟨x,y,z,u,k⟩:=I.b6 (ak h (by omega)) (mY h8);exact⟨x,y,z,u,k.alloc _⟩
   b8:=fun h=>(I.b8 (ak h (by omega))).alloc _
   w7:=fun _=>⟨jO,sW⟩
   b7:=fun _ _=>⟨x,y,z,u,Blk.new _ _ _⟩
   b9:=fun h=>by rw[ak h (by omega)]at h9;cases h9
   d6:=fun h h6=>I.d6 (ak h (by omega)) (ak h6 (by omega))
   d7:=fun h _=>by have:=I.i2 (ak h (by omega));omega}
theorem lH.PX(I:lH W1 a r g6 g7 lo hi vp vl vo L vs W)(h6:L 6=true)(h2:L 2=true)(h8:L 8=false)(h9:L 9=false){v:Value}(hW:W'=bY W g6 (.int .i64 r.1.width) (.bool r.1.cut) vp vl):
 lH W1 a r g6 g7 lo hi vp vl vo (fun j=>L j||decide (j=8)) (dx vs 8 v) W':=by
 subst hW;have sW:=I.below.size;have g6l:=(I.w6 h6).2;obtain⟨x,y,z,u,k6⟩:=I.b6 h6 h8;have hK:¬(g6=a∨(lo≤g6∧g6<hi)):=by
  have:=I.i2 h2;have:=I.d6 h2 h6;omega
 have hA:Agree (fun b=>b=a∨(lo≤b∧b<hi)) W (bY W g6 (.int .i64 r.1.width) (.bool r.1.cut) vp vl):=aS hK;exact
  {below:=aQ I.below g6l
   w0:=fun h=>by rw[aJ (by omega)];exact I.w0 (ak h (by omega))
   w1:=fun h=>by rw[aJ (by omega)];exact I.w1 (ak h (by omega))
   w2:=fun h=>by rw[aJ (by omega)];exact I.w2 (ak h (by omega))
   i2:=fun h=>by rw[aX];exact I.i2 (ak h (by omega))
   s2:=fun h=>(I.s2 (ak h (by omega))).keep hA (fun _ h=>h)
   o2:=fun h=>(I.o2 (ak h (by omega))).keep hA (fun _ h=>h)
   w3:=fun h=>by rw[aJ (by omega)];exact I.w3 (ak h (by omega))
   w4:=fun h=>by rw[aJ (by omega)];exact I.w4 (ak h (by omega))
   w5:=fun h=>by rw[aJ (by omega)];exact I.w5 (ak h (by omega))
   w6:=fun h=>by rw[aJ (by omega)];exact I.w6 (ak h (by omega))
   b6:=fun _ h=>by simp at h
   b8:=fun _=>aZ k6
   w7:=fun h=>by rw[aJ (by omega)];exact I.w7 (ak h (by omega))
   b7:=fun h h8=>by
    obtain⟨x,y,z,u,k⟩:=I.b7 (ak h (by omega)) (mY h8);exact⟨x,y,z,u,bn k (by rintro rfl;have:=k.symm.trans k6;simp at this)⟩
   b9:=fun h=>by rw[ak h (by omega)]at h9;cases h9
   d6:=fun h h6=>I.d6 (ak h (by omega)) (ak h6 (by omega))
   d7:=fun h h6=>I.d7 (ak h (by omega)) (ak h6 (by omega))}
theorem lH.PY(I:lH W1 a r g6 g7 lo hi vp vl vo L vs W)(h7:L 7=true)(h2:L 2=true)(h8:L 8=true)(h9:L 9=false){v:Value}(hW:W'=bY W g7 (.int .i64 r.2.1) vo (.slice none 0 0) (.slice none 0 0)):
 lH W1 a r g6 g7 lo hi vp vl vo (fun j=>L j||decide (j=9)) (dx vs 9 v) W':=by
 subst hW;have sW:=I.below.size;have g7l:=(I.w7 h7).2;obtain⟨x,y,z,u,k7⟩:=I.b7 h7 h9;have k8:=I.b8 h8;have hK:¬(g7=a∨(lo≤g7∧g7<hi)):=by
  have:=I.i2 h2;have:=I.d7 h2 h7;omega
 have hA:Agree (fun b=>b=a∨(lo≤b∧b<hi)) W (bY W g7 (.int .i64 r.2.1) vo (.slice none 0 0) (.slice none 0 0)):=aS hK;exact
  {below:=aQ I.below g7l
   w0:=fun h=>by rw[aJ (by omega)];exact I.w0 (ak h (by omega))
   w1:=fun h=>by rw[aJ (by omega)];exact I.w1 (ak h (by omega))
   w2:=fun h=>by rw[aJ (by omega)];exact I.w2 (ak h (by omega))
   i2:=fun h=>by rw[aX];exact I.i2 (ak h (by omega))
   s2:=fun h=>(I.s2 (ak h (by omega))).keep hA (fun _ h=>h)
   o2:=fun h=>(I.o2 (ak h (by omega))).keep hA (fun _ h=>h)
   w3:=fun h=>by rw[aJ (by omega)];exact I.w3 (ak h (by omega))
   w4:=fun h=>by rw[aJ (by omega)];exact I.w4 (ak h (by omega))
   w5:=fun h=>by rw[aJ (by omega)];exact I.w5 (ak h (by omega))
   w6:=fun h=>by rw[aJ (by omega)];exact I.w6 (ak h (by omega))
   b6:=fun _ h=>by rw[mY h]at h8;cases h8
   b8:=fun _=>bn k8 (by rintro rfl;have:=k8.symm.trans k7;simp at this)
   w7:=fun h=>by rw[aJ (by omega)];exact I.w7 (ak h (by omega))
   b7:=fun _ h=>by simp at h
   b9:=fun _=>aZ k7
   d6:=fun h h6=>I.d6 (ak h (by omega)) (ak h6 (by omega))
   d7:=fun h h6=>I.d7 (ak h (by omega)) (ak h6 (by omega))}
end
set_option maxRecDepth 100000 in
theorem Bq(w:World)(hTB:jB w):Calls Tryz.prog 39 #[] w fun e w'=>e= .returned (.bool true)∧Below w.heap.size w w':=by
 have hT0:=G6 w;have hB0:Below w.heap.size w (w.alloc (.cells #[.int .i64 0,.slice none 0 0,.slice none 0 0] 109)):=(Below.refl _ _).alloc (Nat.le_refl _) _;have hsz:(w.alloc (.cells #[.int .i64 0,.slice none 0 0,.slice none 0 0] 109)).heap.size=w.heap.size+1:=(by simp);replace hsz:=hide hsz;go_enter Tryz.func39,Tryz.ntmps39;go_upto_region 2 with fail;obtain⟨Wa,hWa⟩:∃Wa,w.alloc (.cells #[.int .i64 0,.slice none 0 0,.slice none 0 0] 109)=Wa:=⟨_,rfl⟩;rw[hWa]at hT0 hB0 hsz;rw[hWa];obtain⟨W1,hW1⟩:∃W1,Wa.alloc (.cells #[.slice (some ⟨w.heap.size,0,none⟩) 1 1] 24)=W1:=⟨_,rfl⟩;have kh:=Blk.newEq hW1;rw[hsz.out]at kh;have hB1:=ah hB0 hW1 (by have:=hsz.out;omega);have hs1:W1.heap.size=w.heap.size+2:=(by have:=aD hW1;have:=hsz.out;omega);have hT1:aA W1 (fun b=>b=w.heap.size) (.slice (some ⟨w.heap.size,0,none⟩) jo.length 1) jo:=aA.keep hT0 (Agree.av hW1 (fun b hb=>by have:=hsz.out;omega)) (fun b hb=>hb);rw[hW1];clear hWa hW1 hT0 hB0 hsz;have hstep:Hid (∀(K0:Nat→Prop) W v s,(∀b,K0 b→b<W.heap.size)→K0 w.heap.size→Below W1.heap.size W1 W→WdS W K0 v s→lq s→Calls Tryz.prog 41 #[.agg #[.slice (some ⟨w.heap.size,0,none⟩) 1 1],.int .i64 0,v] W (E9 K0 W (stepW jo 0 s))):=hide (fun K0 W v s hK ha hb hv hs=>
  uX (some ⟨w.heap.size,0,none⟩) 1 jo 0 v s K0 W hK (aA.keep hT1 (Agree.below hb (fun b hb2=>by omega)) (fun b hb2=>by rw[hb2];exact ha)) rX hv hs (hTB.below (hB1.trans (hb.mono hB1.size))))
 have hright:Hid (∀W v s,Below W1.heap.size W1 W→WdS W (Old W) v s→lq s→Calls Tryz.prog 42 #[.agg #[.slice (some ⟨w.heap.size,0,none⟩) 1 1],v] W fun e w'=>e= .returned (.bool (cZ jo s))∧Below W.heap.size W w'):=hide (fun W v s hb hv hs=>
  jJ (some ⟨w.heap.size,0,none⟩) 1 jo v s W (aA.keep hT1 (Agree.below hb (fun b hb2=>by omega)) (fun b hb2=>by have:=hb.size;show b<_;omega)) rX hv hs)
 have c0:=Blk.n0 kh;replace hs1:=hide hs1;go_cut [2,3] (fun s2 s3 wz=>∃g2 g3 vp vl vo,s2= .pointer (some ⟨g2,0,none⟩)∧s3= .pointer (some ⟨g3,0,none⟩)∧L9 wz g2 g3 (⟨1,false,[],[[0]]⟩,0,[]) vp vl vo∧Below W1.heap.size W1 wz);case first=>
  refine ou (fun L vs W=>∃g6 g7 lo hi vp vl vo,lH W1 w.heap.size (⟨1,false,[],[[0]]⟩,0,[]) g6 g7 lo hi vp vl vo L vs W) lI zl (by kernel_rfl) (by kernel_rfl) (by kernel_rfl) (by kernel_rfl) ⟨0,0,0,0,undef,undef,undef,(Below.refl _ _).drew,by simp,by simp,by simp,by simp,by simp,by simp,by simp,by simp,by simp,by simp,by simp,by simp,by simp,by simp,by simp,by simp,by simp⟩ ?hstep ?hend;case hstep=>
   intro i o ho L vs W hi0 hdp hnd hI;obtain⟨g6,g7,lo,hi,vp,vl,vo,I⟩:=hI;have sW:=I.below.size;have hal:w.heap.size<W1.heap.size:=(by have:=hs1.out;omega);have hW:=Below.refl W.heap.size W;have hbel:=I.below;have cH:=(hbel.cell (p:=⟨w.heap.size+1,0,none⟩) (by have:=hs1.out;show w.heap.size+1<_;omega)).trans c0;replace I:=hide I
   match i,ho with
   |0,ho=>
    simp only[gZ,gS,Option.some.injEq]at ho;subst ho;simp only[acV,gA,gZ,gS,Act.put,sA,sZ,sS];go_wp2;exact⟨rfl,.agg #[.slice (some ⟨w.heap.size,0,none⟩) 1 1],rfl,g6,g7,lo,hi,vp,vl,vo,I.out.simple hW (.inl rfl) ⟨fun _=>rfl,by omega,by omega,by omega,by omega⟩⟩
   |1,ho=>
    simp only[gZ,gS,Option.some.injEq]at ho;subst ho;simp only[acV,gA,gZ,gS,Act.put,sA,sZ,sS];go_wp2_with fail;refine(F4 _).mono ?_;rintro e W2 ⟨rfl,hb2⟩;go_wp2;exact⟨rfl,_,rfl,g6,g7,lo,hi,vp,vl,vo,I.out.simple hb2 (.inr (.inl rfl)) ⟨by omega,fun _=>rfl,by omega,by omega,by omega⟩⟩
   |2,ho=>
    have d0:=I.out.w0 (hdp 0 (by simp[lI]));have d1:=I.out.w1 (hdp 1 (by simp[lI]));simp only[gZ,gS,Option.some.injEq]at ho;subst ho;simp only[acV,gA,gZ,gS,Act.put,sA,sZ,sS];rw[d0,d1];go_wp2_with fail;refine(hstep.out (fun b=>b=w.heap.size) W (.agg #[.int .i64 1,.bool false,.slice none 0 0,.slice none 0 0]) ⟨1,false,[],[]⟩ (by rintro b rfl;omega) rfl hbel ⟨_,_,rfl,aB.nil _ _ _ _,dw.nil _ _ _ _⟩ ⟨by simp,by simp,by simp⟩).mono ?_;rw[MP];rintro e W2 ⟨v',vo',rfl,hv',ho',hb2⟩;obtain⟨Ap,cp,Al,cl,rfl,hP,hL⟩:=hv'.form;go_wp2;exact⟨rfl,_,rfl,g6,g7,_,_,_,_,_,I.out.called hb2 (hnd 3 (by simp[zl])) (hnd 4 (by simp[zl])) (hnd 5 (by simp[zl])) (hnd 8 (by simp[zl])) (hnd 9 (by simp[zl])) hal hv' ho'⟩
   |3,ho=>
    have d2:=I.out.w2 (hdp 2 (by simp[lI]));simp only[gZ,gS,Option.some.injEq]at ho;subst ho;simp only[acV,gA,gZ,gS,Act.put,sA,sZ,sS];rw[d2];go_wp2;exact⟨rfl,_,rfl,g6,g7,lo,hi,vp,vl,vo,I.out.simple hW (.inr (.inr (.inl rfl))) ⟨by omega,by omega,fun _=>rfl,by omega,by omega⟩⟩
   |4,ho=>
    have d2:=I.out.w3 (hdp 3 (by simp[lI]));simp only[gZ,gS,Option.some.injEq]at ho;subst ho;simp only[acV,gA,gZ,gS,Act.put,sA,sZ,sS];rw[d2];go_wp2;exact⟨rfl,_,rfl,g6,g7,lo,hi,vp,vl,vo,I.out.simple hW (.inr (.inr (.inr (.inl rfl)))) ⟨by omega,by omega,by omega,fun _=>rfl,by omega⟩⟩
   |5,ho=>
    have d2:=I.out.w3 (hdp 3 (by simp[lI]));simp only[gZ,gS,Option.some.injEq]at ho;subst ho;simp only[acV,gA,gZ,gS,Act.put,sA,sZ,sS];rw[d2];go_wp2;exact⟨rfl,_,rfl,g6,g7,lo,hi,vp,vl,vo,I.out.simple hW (.inr (.inr (.inr (.inr rfl)))) ⟨by omega,by omega,by omega,by omega,fun _=>rfl⟩⟩
   |6,ho=>
    simp only[gZ,gS,Option.some.injEq]at ho;subst ho;simp only[acV,gA,gZ,gS,Act.put,sA,sZ,sS];go_wp2;exact⟨rfl,_,rfl,_,g7,lo,hi,vp,vl,vo,I.out.Od (hnd 8 (by simp[zl]))⟩
   |7,ho=>
    simp only[gZ,gS,Option.some.injEq]at ho;subst ho;simp only[acV,gA,gZ,gS,Act.put,sA,sZ,sS];go_wp2;exact⟨rfl,_,rfl,g6,_,lo,hi,vp,vl,vo,I.out.Oe (hnd 9 (by simp[zl]))⟩
   |8,ho=>
    obtain⟨Ap,cp,Al,cl,eq,-,-⟩:=(I.out.s2 (hdp 2 (by simp[lI]))).form;simp only[Value.agg.injEq,Array.mk.injEq,List.cons.injEq,and_true,true_and]at eq;obtain⟨rfl,rfl⟩:=eq;have d6:=(I.out.w6 (hdp 6 (by simp[lI]))).1;have d4:=I.out.w4 (hdp 4 (by simp[lI]));obtain⟨x,y,z,u,k6⟩:=I.out.b6 (hdp 6 (by simp[lI])) hi0;have q0:=Blk.n0 k6;have q1:=Blk.n1 k6;have q2:=Blk.n2 k6;have q3:=Blk.n3 k6;have qf0:=k6.frozen 0;have qf1:=k6.frozen 1;have qf2:=k6.frozen 2;have qf3:=k6.frozen 3;simp only[gZ,gS,Option.some.injEq]at ho;subst ho;simp only[acV,gA,gZ,gS,Act.put,sA,sZ,sS];rw[d6,d4];go_wp2;exact⟨rfl,undef,rfl,g6,g7,lo,hi,_,_,vo,I.out.PX (hdp 6 (by simp[lI])) (hdp 2 (by simp[lI])) hi0 (hnd 9 (by simp[zl])) rfl⟩
   |9,ho=>
    obtain⟨Ao,co,rfl⟩:=aB.form (I.out.o2 (hdp 2 (by simp[lI])));have d6:=(I.out.w7 (hdp 7 (by simp[lI]))).1;have d4:=I.out.w5 (hdp 5 (by simp[lI]));obtain⟨x,y,z,u,k6⟩:=I.out.b7 (hdp 7 (by simp[lI])) hi0;have q0:=Blk.n0 k6;have q1:=Blk.n1 k6;have q2:=Blk.n2 k6;have q3:=Blk.n3 k6;have qf0:=k6.frozen 0;have qf1:=k6.frozen 1;have qf2:=k6.frozen 2;have qf3:=k6.frozen 3;simp only[gZ,gS,Option.some.injEq]at ho;subst ho;simp only[acV,gA,gZ,gS,Act.put,sA,sZ,sS];rw[d6,d4];go_wp2;exact⟨rfl,undef,rfl,g6,g7,lo,hi,vp,vl,_,I.out.PY (hdp 7 (by simp[lI])) (hdp 2 (by simp[lI])) (hdp 8 (by simp[lI])) hi0 rfl⟩
   |n+10,ho=>simp at ho
  case hend=>
   intro L vs W hL hI;obtain⟨g6,g7,lo,hi,vp,vl,vo,I⟩:=hI;have d6:=(I.w6 (hL 6 (by simp))).1;have d7:=(I.w7 (hL 7 (by simp))).1;have hR:L9 W g6 g7 (⟨1,false,[],[[0]]⟩,0,[]) vp vl vo:=by
    have hd6:=I.d6 (hL 2 (by simp)) (hL 6 (by simp));have hd7:=I.d7 (hL 2 (by simp)) (hL 7 (by simp));have hg6:=(I.w6 (hL 6 (by simp))).2;have hg7:=(I.w7 (hL 7 (by simp))).2;have hi2:=I.i2 (hL 2 (by simp));have:=I.below.size;exact⟨I.b8 (hL 8 (by simp)),I.b9 (hL 9 (by simp)),(I.s2 (hL 2 (by simp))).keep (Agree.refl _ _) (fun b hb=>by omega),(I.o2 (hL 2 (by simp))).keep (Agree.refl _ _) (fun b hb=>by omega)⟩
   have hbb:=I.below;clear I;simp only[acV,gA,gZ,gS,Act.put,sA,sZ,sS,List.length_cons,List.length_nil,Nat.reduceAdd];rw[d6,d7];replace hR:=hide hR;go_wp2_with fail
   go_meet
   exact⟨g6,g7,vp,vl,vo,rfl,rfl,hR.out,hbb⟩
 case rest=>
  obtain⟨g2,g3,vp,vl,vo,rfl,rfl,hR,hb2⟩:=hcut;obtain⟨X,hX⟩:∃X,X=wc:=⟨_,rfl⟩;subst hX;obtain⟨Ap,cp,Al,cl,eq,hP,hL⟩:=hR.s.form;simp only[Value.agg.injEq,Array.mk.injEq,List.cons.injEq,and_true,true_and]at eq;obtain⟨rfl,rfl⟩:=eq;obtain⟨Ao,co,rfl⟩:=aB.form hR.o;clear hP hL;have m2:=hR.b2;have m3:=hR.b3;have sX:=hb2.size;have hbW:=hB1.trans (hb2.mono hB1.size);have mh:=kh.below hb2 kh.lt;have hv2:=hide (hR.s.keep (K':=Old X) (Agree.refl _ _) (fun b hb=>hb.1));dsimp only[List.length_cons,List.length_nil]at m2 m3 hv2;clear hR;have e0:=Blk.n0 m2;have e1:=Blk.n1 m2;have e2:=Blk.n2 m2;have e3:=Blk.n3 m2;have eh:=Blk.n0 mh;clear c0;go_upto_region 3 with fail;go_wp2_with fail;refine(hstep.out (Old X) X _ ⟨1,false,[],[[0]]⟩ (fun _ h=>h) (show w.heap.size<X.heap.size by have:=hs1.out;omega) hb2 hv2.out ⟨by simp,by simp,by simp⟩).mono ?_;rw[MQ];rintro e X3 ⟨v3,vo3,rfl,hv3,ho3,hb3⟩;obtain⟨Ap3,cp3,Al3,cl3,rfl,hP,hL⟩:=hv3.form;obtain⟨Ao3,co3,rfl⟩:=aB.form ho3;clear hP hL;dsimp only[List.length_cons,List.length_nil];go_upto_region 4 with fail;obtain⟨X4,hX4⟩:∃X4,(X3.alloc (.cells #[.int .i64 1,.bool false,.slice Ap3 0 cp3,.slice Al3 1 cl3] 84)).alloc (.cells #[.int .i64 1,.slice Ao3 1 co3,.slice none 0 0,.slice none 0 0] 36)=X4:=⟨_,rfl⟩;have hb4:=aN hX4;have k4:=Blk.jg hX4;have k5:=Blk.iB hX4;have s4:=size_two hX4;have hv4:=hide ((hv3.keep (K':=Old X3) (Agree.refl _ _) (fun b hb=>hb.2)).below hb4);have hbX:=hb3.trans (hb4.mono hb3.size);have hs3:=hb3.size;replace m2:=m2.below hbX m2.lt;replace m3:=m3.below hbX m3.lt;replace mh:=mh.below hbX mh.lt;replace hbW:=hbW.trans (hbX.mono hbW.size);replace hb2:=hb2.trans (hbX.mono hb2.size);replace hv2:=hide (hv2.out.below hbX);clear hb3 hb4 hv3 ho3 e0 e1 e2 e3 eh;have f0:=Blk.n0 k4;have f1:=Blk.n1 k4;have f2:=Blk.n2 k4;have f3:=Blk.n3 k4;have eh:=Blk.n0 mh;dsimp only[List.length_cons,List.length_nil]at hv4;replace s4:=hide s4;rw[hX4];clear hX4;go_wp2_with fail;refine(hstep.out (Old X4) X4 _ ⟨1,false,[],[[]]⟩ (fun _ h=>h) (show w.heap.size<X4.heap.size by have:=hb2.size;have:=hs1.out;omega) hb2 hv4.out ⟨by simp,by simp,by simp⟩).mono ?_;rw[MR];rintro e X5 ⟨v5,vo5,rfl,hv5,ho5,hb5⟩;obtain⟨Ap5,cp5,Al5,cl5,rfl,-,-⟩:=hv5.form;obtain⟨Ao5,co5,rfl⟩:=aB.form ho5;dsimp only[List.length_cons,List.length_nil];clear f0 f1 f2 f3 eh;go_upto_region 5 with fail;obtain⟨X6,hX6⟩:∃X6,(X5.alloc (.cells #[.int .i64 1,.bool false,.slice Ap5 0 cp5,.slice Al5 1 cl5] 84)).alloc (.cells #[.int .i64 3,.slice Ao5 0 co5,.slice none 0 0,.slice none 0 0] 36)=X6:=⟨_,rfl⟩;have hb6:=aN hX6;have k6:=Blk.jg hX6;have k7:=Blk.iB hX6;rw[hX6];clear hX6 hv5 ho5;have hbX:=hb5.trans (hb6.mono hb5.size);replace m2:=m2.below hbX m2.lt;replace m3:=m3.below hbX m3.lt;replace mh:=mh.below hbX mh.lt;replace k5:=k5.below hbX k5.lt;replace hbW:=hbW.trans (hbX.mono hbW.size);replace hb2:=hb2.trans (hbX.mono hb2.size);replace hv2:=hide (hv2.out.below hbX);have hrc:=hide (dw.at_ (i:=0) (by
   obtain⟨_,_,e,_,h⟩:=hv2.out;simp only[Value.agg.injEq,Array.mk.injEq,List.cons.injEq,and_true,true_and]at e;rw[←e.2]at h;exact h) (by simp))
  clear k4 k6 hbX hb5 hb6 hv4;have a2:=Blk.n0 m2;have a3:=Blk.n1 m2;have a4:=Blk.n2 m2;have a5:=Blk.n3 m2;have b2:=Blk.n0 m3;have c2:=Blk.n0 k5;have c3:=Blk.n1 k5;have d2:=Blk.n0 k7;have eh:=Blk.n0 mh;obtain⟨b,off,A',c',rfl,-,hcell,-⟩:=hrc.out;clear hrc;simp only[List.getElem_cons_zero,List.length_cons,List.length_nil,Nat.zero_add,Nat.add_zero]at hcell;have hr1:=hide (hright.out X6 _ ⟨1,false,[],[[0]]⟩ hb2 hv2.out ⟨by simp,by simp,by simp⟩);go_wp2_with fail;refine hr1.out.mono ?_;rw[MS];rintro e X7 ⟨rfl,hb7⟩;have PZ:=hb2.trans (hb7.mono hb2.size);have hr2:=hide (hright.out X7 (.agg #[.int .i64 0,.bool false,.slice none 0 0,.slice none 0 0]) ⟨0,false,[],[]⟩ PZ ⟨_,_,rfl,aB.nil _ _ _ _,dw.nil _ _ _ _⟩ ⟨by simp,by simp,by simp⟩);replace mh:=mh.below hb7 mh.lt;replace hbW:=hbW.trans (hb7.mono hbW.size);clear a2 a3 a4 a5 b2 c2 c3 d2 eh hr1 hcell;have eh:=Blk.n0 mh;go_wp2_with fail;refine hr2.out.mono ?_;rw[MU];rintro e X8 ⟨rfl,hb8⟩;go_wp2;go_ret;exact⟨rfl,hbW.trans (hb8.mono hbW.size)⟩
end Go.Proofs.YtfhnamomiaekdaaGreatDoor
