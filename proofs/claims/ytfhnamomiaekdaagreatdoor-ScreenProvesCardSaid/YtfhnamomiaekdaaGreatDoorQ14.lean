/-
  Walks: layer 28: screen.Step, its loops.
-/
import Derived.Test.YtfhnamomiaekdaaGreatDoorQ13
set_option linter.unusedVariables false
set_option linter.unusedSimpArgs false
namespace Go.Proofs.YtfhnamomiaekdaaGreatDoor
open Go.RowKit Go.Inq Go.Shelf
set_option maxHeartbeats 8000000
attribute [local go_sem] Oper.semAt_some
attribute [local go_sem↓] Go.wp_at_zero Go.wp_at_succ
structure jo(w w4:World)(A:Option Addr)(c:Nat)(H:List Txn)(level:Int)(A4:Option Addr)(c4:Nat)(P:List Cho)(L:List (Cho×Option Nat))(v:Value)(Ds:List Nat)(W:World):Prop where
 hist:Blk W w.heap.size 24 #[.slice A H.length c]
 lev:Blk W (w.heap.size+1) 3 #[.int .i64 level]
 res:Blk W (w.heap.size+1+1) 36 #[.int .i64 0,.slice none 0 0,.slice none 0 0,.slice none 0 0]
 out:Blk W w4.heap.size 36 #[.int .i64 3,.slice none 0 0,.slice none 0 0,v]
 facts:mo W (w4.heap.size+1) v L
 pairs:bg W (fun b=>b<w4.heap.size) (.slice A4 P.length c4) P
 HV:av W (Old w) (.slice A H.length c) H
 marks:bS W (w4.heap.size+1) W.heap.size Ds
 low:Below w.heap.size w W
 top:w4.heap.size<W.heap.size
theorem jo.below{w w4:World}{A:Option Addr}{c:Nat}{H:List Txn}{level:Int}{A4:Option Addr}{c4:Nat}{P:List Cho}{L:List (Cho×Option Nat)}{v:Value}{Ds:List Nat}{W W':World}(h:jo w w4 A c H level A4 c4 P L v Ds W)(hb:Below W.heap.size W W'):jo w w4 A c H level A4 c4 P L v Ds W':=
 have hlow:w.heap.size≤W.heap.size:=Nat.le_of_lt (Nat.lt_of_le_of_lt (Nat.le_succ _) (Nat.lt_of_le_of_lt (Nat.le_refl _) h.lev.lt))
 ⟨h.hist.below hb h.hist.lt,h.lev.below hb h.lev.lt,h.res.below hb h.res.lt,h.out.below hb h.out.lt,World.ownsRow.kept (row:=none) h.facts (aX hb (Nat.le_refl _)) (by cases hv:v.ownBlock<;>simp),
  SlR.keep (Flat.aZ _) h.pairs (Agree.below hb fun b hb'=>Nat.lt_trans hb' h.top) (fun _ h=>h),av.keep h.HV (Agree.below hb fun b hb'=>Nat.lt_of_lt_of_le hb' hlow) (fun _ h=>h),
  (h.marks.below hb (Nat.le_refl _)).up hb.size,h.low.trans (hb.mono hlow),Nat.lt_of_lt_of_le h.top hb.size⟩
theorem O5(c:Cho)(x:Option Nat):(mkF c x).c=c:=by cases x<;>rfl
theorem O6(c:Cho)(x:Option Nat):(mkF c x).j=0:=by cases x<;>rfl
theorem Mg(c:Cho)(x:Option Nat):(mkF c x).cyc=[]:=by cases x<;>rfl
theorem Kr(c:Cho)(x:Option Nat):(mkF c x).kind=1∨(mkF c x).kind=3:=by cases x<;>simp[mkF]
theorem nT{X Y:World}{row:Option Nat}{g:Nat}{t:TypeId}{cs:Array Value}(hs:Blk X g t cs)(hg:X.grownBy Y row)(hr:∀r,row=some r→∃o:Obj,X.heap[r]?=some o∧o.isCells=false):Blk Y g t cs:=
 hs.grown hg fun e'=>by obtain⟨o,ho,hc⟩:=hr g e'.symm;rw[show X.heap[g]?=_ from hs]at ho;cases ho;cases hc
theorem Mh{X Y:World}{row:Option Nat}{base:Nat}{e:TypeId}{size n:Nat}{v:Value}{xs:List Value}(h:X.ownsRow base e size v n xs)(hg:X.grownBy Y row)(hr:∀r,row=some r→∃o:Obj,X.heap[r]?=some o∧o.isCells=false):Y.ownsRow base e size v n xs:=by
 refine h.kept hg ?_;rcases h.2 with⟨rfl,_⟩|⟨g,cap,cur,rfl,_,hgb,_⟩
 ·exact .inl rfl
 ·refine .inr fun e'=> ?_;obtain⟨o,ho,hc⟩:=hr g (by simpa[Value.ownBlock]using e'.symm);rw[hgb]at ho;cases ho;cases hc
theorem qY{w:World}{base:Nat}{e t:TypeId}{size n:Nat}{v:Value}{xs:List Value}{g:Nat}{cs:Array Value}(h:w.ownsRow base e size v n xs)(hk:Blk w g t cs)(hne:e≠t):v.ownBlock=none∨v.ownBlock≠some g:=by
 rcases h.2 with⟨rfl,_⟩|⟨g2,cap,cur,rfl,_,hgb,_⟩
 ·exact .inl rfl
 ·refine .inr fun e'=> ?_;have e2:g2=g:=(by simpa[Value.ownBlock]using e');rw[e2]at hgb;have e3:=(show w.heap[g]?=_ from hk).symm.trans hgb;simp only[Option.some.injEq,Obj.cells.injEq]at e3;exact hne e3.2.1.symm
theorem Cn{w:World}{g g':Nat}{t t':TypeId}{cs cs':Array Value}(h:Blk w g t cs)(h':Blk w g' t' cs')(hne:t≠t'):g≠g':=by
 rintro rfl;have e3:=(show w.heap[g]?=_ from h).symm.trans h';simp only[Option.some.injEq,Obj.cells.injEq]at e3;exact hne e3.2.1
theorem bg.two{W:World}{K:Nat→Prop}{g:Nat}{p q:Cho}(h:Blk W g 102 #[.int .i64 p.key,.int .i64 p.a,.int .i64 p.b,.int .i64 q.key,.int .i64 q.a,.int .i64 q.b])(hK:K g):bg W K (.slice (some ⟨g,0,none⟩) 2 2) [p,q]:=
 Fy (l:=[p,q]) [jD p,jD q] h rfl (fun i cs x h1 h2=>by
  match i with
  |0=>simp at h1 h2;subst h1 h2;exact⟨rfl,rfl⟩
  |1=>simp at h1 h2;subst h1 h2;exact⟨rfl,rfl⟩
  |i+2=>simp at h1) hK (by simp)
theorem Co{B:Nat}{W W':World}(h:Below W.heap.size W W'):KeepsFrom B W W':=⟨h.size,fun k o _ hk _=>(h.block k (Array.getElem?_eq_some_iff.1 hk).1).trans hk⟩
structure Kt(f2 f3 f11 f16:Value)(t:Array Value):Prop where
 size:t.size=85
 s2:t.getD 2 undef=f2
 s3:t.getD 3 undef=f3
 s11:t.getD 11 undef=f11
 s16:t.getD 16 undef=f16
theorem Kt.open{f2 f3 f11 f16:Value}{t:Array Value}(h:Kt f2 f3 f11 f16 t):∃u:Nat→Value,t=#[u 0,u 1,f2,f3,u 4,u 5,u 6,u 7,u 8,u 9,u 10,f11,u 12,u 13,u 14,u 15,f16,u 17,u 18,u 19,u 20,u 21,u 22,u 23,u 24,u 25,u 26,u 27,u 28,u 29,u 30,u 31,u 32,u 33,u 34,u 35,u 36,u 37,u 38,u 39,u 40,u 41,u 42,u 43,u 44,u 45,u 46,u 47,u 48,u 49,u 50,u 51,u 52,u 53,u 54,u 55,u 56,u 57,u 58,u 59,u 60,u 61,u 62,u 63,u 64,u 65,u 66,u 67,u 68,u 69,u 70,u 71,u 72,u 73,u 74,u 75,u 76,u 77,u 78,u 79,u 80,u 81,u 82,u 83,u 84]:=by
 obtain⟨u,hu,ht⟩:=zX t h.size;refine⟨u,?_⟩;rw[←h.s2,←h.s3,←h.s11,←h.s16];simp only[hu];exact ht
section
variable{w w4:World}{A:Option Addr}{c:Nat}{H:List Txn}{level:Int}{A4:Option Addr}{c4:Nat}{P:List Cho}{L:List (Cho×Option Nat)}{v:Value}{Ds:List Nat}{W W':World}
theorem jo.bare(h:jo w w4 A c H level A4 c4 P L v Ds W):jo w w4 A c H level A4 c4 P L v [] W:=⟨h.hist,h.lev,h.res,h.out,h.facts,h.pairs,h.HV,bS.nil _ _ _,h.low,h.top⟩
theorem jo.push{hi D:Nat}(h:jo w w4 A c H level A4 c4 P L v [] W)(hm:bS W (w4.heap.size+1) hi Ds)(h1:hi≤D)(hl:w4.heap.size+1≤hi)(hD:W.heap[D]?=some (.deferred (some []))):jo w w4 A c H level A4 c4 P L v (D::Ds) W:=
 ⟨h.hist,h.lev,h.res,h.out,h.facts,h.pairs,h.HV,hm.cons h1 (Array.getElem?_eq_some_iff.1 hD).1 hl hD,h.low,h.top⟩
theorem jo.grown{B:Nat}{row:Option Nat}(h:jo w w4 A c H level A4 c4 P L v [] W)(hg:W.grownBy W' row)(hr:∀r,row=some r→B≤r∧∃o:Obj,W.heap[r]?=some o∧o.isCells=false)(h1:w.heap.size≤w4.heap.size)(h2:w4.heap.size<B):jo w w4 A c H level A4 c4 P L v [] W':=
 have hr2:∀r,row=some r→∃o:Obj,W.heap[r]?=some o∧o.isCells=false:=fun r e=>(hr r e).2;have ht:=h.top
 ⟨nT h.hist hg hr2,nT h.lev hg hr2,nT h.res hg hr2,nT h.out hg hr2,Mh h.facts hg hr2,
  SlR.keep (Flat.aZ _) h.pairs (Agree.grown hg fun b hb=>⟨Nat.lt_trans hb ht,fun e=>by have:=(hr b e.symm).1;omega⟩) (fun _ h=>h),
  av.keep h.HV (Agree.grown hg fun b hb=>by have hb:b<w.heap.size:=hb;exact⟨by omega,fun e=>by have:=(hr b e.symm).1;omega⟩) (fun _ h=>h),
  bS.nil _ _ _,h.low.grown hg (by omega) (fun k e=>by have:=(hr k e).1;omega),Nat.lt_of_lt_of_le ht hg.size⟩
end
set_option maxRecDepth 100000 in
theorem zY(A:Option Addr)(c:Nat)(H:List Txn)(level:Int)(w:World)(h:av w (Old w) (.slice A H.length c) H)(hn:aC H)(hr:dn H []=true)(r9:level=0∨level=1)(hne:dP H.length (bH H level [])=[])(hp:bN H≠[])(hTB:gL w):
 Calls Tryz.prog 48 #[.agg #[.slice A H.length c],.int .i64 level] w (pV w (bq H level)):=by
 refine(callsIn_wide (n:=3)).1 ?_;have hro:Fence.wide.round=none:=rfl;have hsc:bq H level=⟨3,[],none,bT H level (bN H)⟩:=by
  unfold bq;have hl:(decide (level=0)||decide (level=1))=true:=(by rcases r9 with e|e<;>simp[e]);rw[hr,hl,if_pos (show(true&&true)=true from rfl),if_pos hne,if_neg hp]
 rw[hsc];obtain⟨P,hP⟩:∃P,bN H=P:=⟨_,rfl⟩;rw[hP]at hp⊢;have hpn:¬((P.length:Int)=0):=(by have:=List.length_pos_iff.2 hp;omega);have hpl:P.length≤16384:=(by rw[←hP];exact vC (bJ hr));have hpb:((P.length:Int)==0)=false:=(by simpa using hpn);replace hP:=hide hP;replace hne:=hide hne;clear hsc hp hpn;refine callsIn_of_wp_marks Tryz.func48 rfl trivial ?_ hro;simp only[Tryz.ntmps48,List.size_toArray,List.length_cons,List.length_nil,Nat.reduceAdd,Nat.reduceSub,Array.replicate_succ,Array.replicate_zero,List.push_toArray,List.append_toArray,List.nil_append,List.cons_append]
 gi_wp2_with fail
 refine⟨trivial,?_⟩;obtain⟨W0,hW0⟩:∃W0,(((w.alloc (.cells #[.slice A H.length c] 24)).alloc (.cells #[.int .i64 level] 3)).alloc (.cells #[.int .i64 0,.slice none 0 0,.slice none 0 0,.slice none 0 0] 36))=W0:=⟨_,rfl⟩;rw[hW0];have hs0:W0.heap.size=w.heap.size+3:=(by rw[←hW0];simp);have hBW:Below w.heap.size w W0:=(by rw[←hW0];exact(((Below.refl _ w).alloc (Nat.le_refl _) _).alloc (by simp) _).alloc (by simp;omega) _);have k2:Blk W0 (w.heap.size+1+1) 36 #[.int .i64 0,.slice none 0 0,.slice none 0 0,.slice none 0 0]:=by
  rw[←hW0];have:=Blk.new ((w.alloc (.cells #[.slice A H.length c] 24)).alloc (.cells #[.int .i64 level] 3)) 36 #[.int .i64 0,.slice none 0 0,.slice none 0 0,.slice none 0 0];simpa using this
 have k0:Blk W0 w.heap.size 24 #[.slice A H.length c]:=(by rw[←hW0];exact((Blk.new _ _ _).alloc _).alloc _);have k1:Blk W0 (w.heap.size+1) 3 #[.int .i64 level]:=by
  rw[←hW0];have:=(Blk.new (w.alloc (.cells #[.slice A H.length c] 24)) 3 #[.int .i64 level]).alloc (.cells #[.int .i64 0,.slice none 0 0,.slice none 0 0,.slice none 0 0] 36);simpa using this
 have hTW:av W0 (Old W0) (.slice A H.length c) H:=av.keep h (Agree.below hBW fun b h=>h) (fun b hb=>Nat.lt_of_lt_of_le hb hBW.size);refine(callsIn_wide.2 (pR A c H level none 0 [] W0 hTW hn (SlR.nil _ _ _ _ _ _) hr r9 (hTB.below hBW))).mono ?_;rintro e w1 ⟨g,hg,rfl,hbk,hb1⟩;dsimp only;have h64:H.length≤64:=(by have:=((aD H).1 (bJ hr)).1;omega);have hs1:=hb1.size;have qW:=hBW.trans (hb1.mono hBW.size);have kx:=k2.below hb1 k2.lt;have kz:=k0.below hb1 k0.lt;have kv:=k1.below hb1 k1.lt;have hgl:=hbk.lt;have hT1:=hTB.below qW;obtain⟨W1,hW1⟩:∃W1,w1.alloc (.cells #[.int .i64 0,.slice none 0 0] 77)=W1:=⟨_,rfl⟩;have hg0:w.heap.size≤g:=(by omega);have hne1:w.heap.size+1+1≠w1.heap.size:=(by have:=k2.lt;omega);have hne2:g≠w1.heap.size:=(by omega);have OY:w.heap.size+1+1≠g:=(by omega);have ky:=kx.au hW1;have kh:=kz.au hW1;have kw:=kv.au hW1;have hne5:w.heap.size+1≠w1.heap.size:=(by have:=k2.lt;omega);have hne0:w.heap.size≠w1.heap.size:=(by have:=k2.lt;omega);have kr:=hbk.au hW1;have kg:=Blk.newEq hW1;have hbz:=ah qW hW1 qW.size;have z0:=Blk.n0 kg;have z1:=Blk.n1 kg;have v0:=kg.frozen 0;have v1:=kg.frozen 1;generalize bH H level []=E at*;clear hW0 hTW hBW hb1 kx hbk k2
 gi_wp2
 refine⟨trivial,?_⟩;have wD:w.heap.size≤w1.heap.size:=(by omega);obtain⟨W2,hW2⟩:∃W2,((W1.setCell ⟨w1.heap.size,0,none⟩ (.int .i64 (H.length:Nat))).setCell ⟨w1.heap.size,1,none⟩ (.slice (some ⟨g,0,none⟩) H.length H.length))=W2:=⟨_,rfl⟩;have m2:Blk W2 (w.heap.size+1+1) 36 #[.int .i64 0,.slice none 0 0,.slice none 0 0,.slice none 0 0]:=(by rw[←hW2];exact(ky.far (p:=⟨w1.heap.size,0,none⟩) hne1 _).far (p:=⟨w1.heap.size,1,none⟩) hne1 _);have mh:Blk W2 w.heap.size 24 #[.slice A H.length c]:=(by rw[←hW2];exact(kh.far (p:=⟨w1.heap.size,0,none⟩) hne0 _).far (p:=⟨w1.heap.size,1,none⟩) hne0 _);have mv:Blk W2 (w.heap.size+1) 3 #[.int .i64 level]:=(by rw[←hW2];exact(kw.far (p:=⟨w1.heap.size,0,none⟩) hne5 _).far (p:=⟨w1.heap.size,1,none⟩) hne5 _);have mg:Blk W2 w1.heap.size 77 #[.int .i64 (H.length:Nat),.slice (some ⟨g,0,none⟩) H.length H.length]:=(by rw[←hW2];exact(kg.aJ 0 _).aJ 1 _);have mr:Blk W2 g 172 (bn H.length E):=(by rw[←hW2];exact(kr.far (p:=⟨w1.heap.size,0,none⟩) hne2 _).far (p:=⟨w1.heap.size,1,none⟩) hne2 _);have hb2:Below w.heap.size w W2:=(by rw[←hW2];exact(hbz.setCell (p:=⟨w1.heap.size,0,none⟩) (by exact wD) _).setCell (p:=⟨w1.heap.size,1,none⟩) (by exact wD) _);rw[hW2];have hgr:=GrS.bE (K:=Old W2) mr mr.lt h64;have hfind:=pU H.length (some ⟨g,0,none⟩) H.length E W2 hgr (hTB.below hb2);rw[hne.out]at hfind;refine(callsIn_wide.2 hfind).mono ?_;rintro e w3 ⟨v,rfl,hown,hb3⟩;dsimp only;have hs3:=hb3.size;have uK:=hb2.trans (hb3.mono hb2.size);have m3:=m2.below hb3 m2.lt;have hs2:=hb2.size;obtain⟨Av,cv,rfl⟩:=hown.form;have m3h:=mh.below hb3 mh.lt;have m3v:=mv.below hb3 mv.lt;have m3g:=mg.below hb3 mg.lt;have m3r:=mr.below hb3 mr.lt;have c0:=Blk.n0 m3h;have OZ:=m2.lt;clear hW2 hfind z0 z1 v0 v1 hgr ky kr kg m2 mr mh mg kh kz hown
 gi_wp2
 refine⟨trivial,?_⟩;have hT3:av w3 (Old w3) (.slice A H.length c) H:=av.keep h (Agree.below uK fun b h=>h) (fun b hb=>Nat.lt_of_lt_of_le hb uK.size);have hpr:=vN A c H w3 hT3 hn (bJ hr);rw[hP.out]at hpr;refine(callsIn_wide.2 hpr).mono ?_;rintro e w4 ⟨v4,rfl,wG,hb4⟩;obtain⟨A4,c4,rfl⟩:=wG.form;dsimp only;have hs4:=hb4.size;have wH:=uK.trans (hb4.mono uK.size);have m4:=m3.below hb4 m3.lt;have m4h:=m3h.below hb4 m3h.lt;have m4v:=m3v.below hb4 m3v.lt;replace wG:=hide wG;obtain⟨W5,hW5⟩:∃W5,w4.alloc (.cells #[.int .i64 0,.slice none 0 0,.slice none 0 0,.slice none 0 0] 36)=W5:=⟨_,rfl⟩;have m5:=m4.au hW5;have m5h:=m4h.au hW5;have m5v:=m4v.au hW5;have Qu:w.heap.size+1+1<w4.heap.size:=m4.lt;have n0:w.heap.size≠w4.heap.size:=(by omega);have n1:w.heap.size+1≠w4.heap.size:=(by omega);have n2:w.heap.size+1+1≠w4.heap.size:=(by omega);have hsz5:=ay hW5;have RA:=Agree.au (K:=fun b=>b<w4.heap.size) hW5 (fun b h=>h);have kO:=Blk.newEq hW5;have hb5:=ah wH hW5 wH.size;have x0:=Blk.n0 kO;have x1:=Blk.n1 kO;have x2:=Blk.n2 kO;have x3:=Blk.n3 kO;have y0:=kO.frozen 0;have y1:=kO.frozen 1;have y2:=kO.frozen 2;have y3:=kO.frozen 3;clear hpr hT3 c0 m3h m3g m3r m3;replace hn:=hide hn
 gi_wp2
 obtain⟨W6,hW6⟩:∃W6,(((W5.setCell ⟨w4.heap.size,0,none⟩ (.int .i64 3)).setCell ⟨w4.heap.size,1,none⟩ (.slice none 0 0)).setCell ⟨w4.heap.size,2,none⟩ (.slice none 0 0)).setCell ⟨w4.heap.size,3,none⟩ (.slice none 0 0)=W6:=⟨_,rfl⟩;rw[hW6];refine wpIn_loop (fun a' W=>∃(k:Nat) (Ds:List Nat) (v:Value),a'.defers=Jw Ds∧NM (.agg #[.slice A H.length c]) (.int .i64 level) (.pointer (some ⟨w.heap.size,0,none⟩)) (.pointer (some ⟨w.heap.size+1,0,none⟩)) (.pointer (some ⟨w.heap.size+1+1,0,none⟩)) (.pointer (some ⟨w4.heap.size,0,none⟩)) (.slice A4 P.length c4) (.int .i64 (P.length:Nat)) (.int .i64 (k:Nat)) a'.tmps∧k≤P.length∧jo w w4 A c H level A4 c4 P (bT H level (P.take k)) v Ds W) (fun a' _=>P.length-(intOf (a'.tmps.getD 50 undef)).toNat) ?_ ?_
 ·refine⟨0,[],.slice none 0 0,rfl,⟨rfl,rfl,rfl,rfl,rfl,rfl,rfl,rfl,rfl,rfl⟩,Nat.zero_le _,?_⟩;have hb6:Below w4.heap.size w4 W6:=by
   rw[←hW6];have q:=ah (Below.refl w4.heap.size w4) hW5 (Nat.le_refl _);exact(((q.setCell (p:=⟨w4.heap.size,0,none⟩) (Nat.le_refl _) _).setCell (p:=⟨w4.heap.size,1,none⟩) (Nat.le_refl _) _).setCell (p:=⟨w4.heap.size,2,none⟩) (Nat.le_refl _) _).setCell (p:=⟨w4.heap.size,3,none⟩) (Nat.le_refl _) _
  have hsl:bg w4 (fun b=>b<w4.heap.size) (.slice A4 P.length c4) P:=wG.out.sl fun g _ hg=>hg;refine⟨m4h.below hb6 m4h.lt,m4v.below hb6 m4v.lt,m4.below hb6 m4.lt,?_,mo.nil _ _,?_,?_,bS.nil _ _ _,wH.trans (hb6.mono wH.size),?_⟩
  ·rw[←hW6];exact(((kO.aJ 0 (.int .i64 3)).aJ 1 (.slice none 0 0)).aJ 2 (.slice none 0 0)).aJ 3 (.slice none 0 0)
  ·exact SlR.keep (Flat.aZ _) hsl (Agree.below hb6 fun b h=>h) (fun b h=>h)
  ·exact av.keep h (Agree.below (wH.trans (hb6.mono wH.size)) fun b h=>h) (fun b h=>h)
  ·rw[←hW6];simp;omega
 ·rintro⟨t,ds⟩ W ⟨k,Ds,v,rfl,hF,hk,hL⟩;obtain⟨u,rfl⟩:=hF.open;clear hF;have hk1:(0:Int)≤(k:Int):=Int.natCast_nonneg _;by_cases hlt:k<P.length
  ·have hk2:(k:Int)<(P.length:Int):=(by omega);obtain⟨b,off,rfl,hbK,c0,c1,c2⟩:=bg.at_ hL.pairs hlt;have hstp:=hide (BF (H:=H) (level:=level) hlt);have hpk:∀x∈P,True:=fun _ _=>trivial;clear hpk;generalize P[k]=p at*;obtain⟨pk,pa,pb⟩:=p;dsimp only at c0 c1 c2;obtain⟨Wa,hWa⟩:∃Wa,(W.alloc (.cells #[.int .i64 pk,.int .i64 pa,.int .i64 pb] 102))=Wa:=⟨_,rfl⟩;have kp:=Blk.newEq hWa;have p0:=Blk.n0 kp;have p1:=Blk.n1 kp;have p2:=Blk.n2 kp;obtain⟨Wb,hWb⟩:∃Wb,(Wa.alloc (.cells #[.int .i64 pk,.int .i64 pa,.int .i64 pb,.int .i64 pk,.int .i64 pb,.int .i64 pa] 102))=Wb:=⟨_,rfl⟩;have kA:=Blk.newEq hWb
   gi_wp2_with fail
   refine wpIn_loop (fun a' W'=>∃(m:Nat) (Ds:List Nat) (v:Value),a'.defers=Jw Ds∧Kq (.agg #[.slice A H.length c]) (.int .i64 level) (.pointer (some ⟨w.heap.size,0,none⟩)) (.pointer (some ⟨w.heap.size+1,0,none⟩)) (.pointer (some ⟨w.heap.size+1+1,0,none⟩)) (.pointer (some ⟨w4.heap.size,0,none⟩)) (.pointer (some ⟨W.heap.size,0,none⟩)) (.slice (some ⟨b,off,none⟩) P.length c4) (.int .i64 (P.length:Nat)) (.int .i64 (k:Nat)) (.slice (some ⟨Wa.heap.size,0,none⟩) 2 2) (.int .i64 2) (.int .i64 (m:Nat)) a'.tmps∧m≤2∧jo w w4 A c H level (some ⟨b,off,none⟩) c4 P (bT H level (P.take k)++(([⟨pk,pa,pb⟩,⟨pk,pb,pa⟩]:List Cho).take m).flatMap (kI H level)) v Ds W'∧Blk W' Wa.heap.size 102 #[.int .i64 pk,.int .i64 pa,.int .i64 pb,.int .i64 pk,.int .i64 pb,.int .i64 pa]) (fun a' _=>2-(intOf (a'.tmps.getD 64 undef)).toNat) ?_ ?_
   ·refine⟨0,Ds,v,rfl,⟨rfl,rfl,rfl,rfl,rfl,rfl,rfl,rfl,rfl,rfl,rfl,rfl,rfl,rfl⟩,by omega,?_,kA⟩;rw[List.take_zero,List.flatMap_nil,List.append_nil];refine hL.below ?_;rw[←hWb,←hWa];exact((Below.refl _ _).alloc (Nat.le_refl _) _).alloc (by simp) _
   ·rintro⟨t,ds⟩ W' ⟨m,Ds',v',rfl,hF,hm,hL',kA'⟩;obtain⟨u',rfl⟩:=hF.open;clear hF;by_cases hm2:m<2
    ·have hm1:(m:Int)<2:=(by omega);have hm0:(0:Int)≤(m:Int):=Int.natCast_nonneg _;have O7:bg W' (fun b=>b=Wa.heap.size) (.slice (some ⟨Wa.heap.size,0,none⟩) 2 2) [⟨pk,pa,pb⟩,⟨pk,pb,pa⟩]:=bg.two kA' rfl;obtain⟨b2,off2,he,hb2,e0,e1,e2⟩:=bg.at_ O7 (i:=m) (by simpa using hm2);obtain⟨rfl,rfl⟩:b2=Wa.heap.size∧off2=0:=(by simp at he;exact⟨he.1.symm,he.2.symm⟩);have O8:=hide (show([⟨pk,pa,pb⟩,⟨pk,pb,pa⟩]:List Cho).take (m+1)=([⟨pk,pa,pb⟩,⟨pk,pb,pa⟩]:List Cho).take m++[([⟨pk,pa,pb⟩,⟨pk,pb,pa⟩]:List Cho)[m]] from take_snoc' (by simpa using hm2));generalize([⟨pk,pa,pb⟩,⟨pk,pb,pa⟩]:List Cho)[m]=ch at*;obtain⟨ck,ca,cb⟩:=ch;dsimp only at e0 e1 e2;rw[Nat.zero_add]at e0 e1 e2;have Ku:=hide (pF H level (P.take k));have Kv:Hid (((([⟨pk,pa,pb⟩,⟨pk,pb,pa⟩]:List Cho).take m).flatMap (kI H level)).length≤2):=hide (by
      rcases Nat.lt_or_ge m 1 with q|q
      ·obtain rfl:m=0:=(by omega);simp
      ·obtain rfl:m=1:=(by omega);have:=vL H level ⟨pk,pa,pb⟩;simp;omega)
     have M0:Hid (∀X,kI H level ⟨ck,ca,cb⟩=X→bT H level (P.take k)++(([⟨pk,pa,pb⟩,⟨pk,pb,pa⟩]:List Cho).take (m+1)).flatMap (kI H level)=(bT H level (P.take k)++(([⟨pk,pa,pb⟩,⟨pk,pb,pa⟩]:List Cho).take m).flatMap (kI H level))++X):=hide (by
      intro X hX;rw[O8.out,List.flatMap_append,←List.append_assoc];simp[hX])
     have M4:Hid ((bT H level (P.take k)++(([⟨pk,pa,pb⟩,⟨pk,pb,pa⟩]:List Cho).take m).flatMap (kI H level)).length≤40000):=hide (by
      have:=Ku.out;have:=Kv.out;rw[List.length_append];simp only[List.length_take]at*;omega)
     clear O8 O7 he Ku Kv;generalize bT H level (P.take k)++(([⟨pk,pa,pb⟩,⟨pk,pb,pa⟩]:List Cho).take m).flatMap (kI H level)=LL at*;obtain⟨Wc,hWc⟩:∃Wc,W'.alloc (.cells #[.int .i64 ck,.int .i64 ca,.int .i64 cb] 102)=Wc:=⟨_,rfl⟩;have kc:=Blk.newEq hWc;have q0:=kc.cell 0;have q1:=kc.cell 1;have q2:=kc.cell 2;have kh:=hL'.hist.au hWc;have q3:=kh.cell 0;simp only[gA,gZ,gS]at q0 q1 q2 q3;have hbc:Below W'.heap.size W' Wc:=ah (Below.refl _ _) hWc (Nat.le_refl _);have hsc:=ay hWc
     gi_wp2_with fail
     refine⟨trivial,?_⟩;refine(callsIn_wide.2 (xY (.slice A H.length c) ⟨ck,ca,cb⟩ Wc)).mono ?_;rintro e w5 ⟨rfl,rfl⟩;dsimp only;obtain⟨Wd,hWd⟩:∃Wd,(Wc.alloc (.cells #[.slice A H.length c] 24)).alloc (.cells #[.int .i64 ck,.int .i64 ca,.int .i64 cb] 102)=Wd:=⟨_,rfl⟩;rw[hWd];have kd1:=Blk.j6 hWd;have kd2:=Blk.jd hWd;have hsd:=size_two hWd;have hbd:=hbc.trans ((aQ hWd).mono hbc.size);have hLd:=hL'.below hbd;have cd1:=Blk.n0 kd1;have hmk:=hLd.marks;have hto:=hL'.top;clear hWd hWc kc q0 q1 q2 q3 kh e0 e1 e2
     gi_wp2_with fail
     refine wpIn_rangeFunc_ownH hro (by omega) (gf:=178) (lb:=#[.pointer (some ⟨Wc.heap.size+1,0,none⟩),.pointer (some ⟨Wc.heap.size,0,none⟩)]) rfl trivial (enters_of Tryz.func178 (by kernel_rfl) rfl)
      (uD (Wc.heap.size+1) Wc.heap.size Wd.heap.size c A H ⟨ck,ca,cb⟩ (by omega) Wd (by omega) (by omega) (Nat.le_refl _) kd2 cd1) (fun h k=>h.trans k) (oW (Nat.le_refl _)) (Below.refl _ _) (fun _=>rfl)
      (fun pre W=>(∀y∈pre,bP H level [] (mkF ⟨ck,ca,cb⟩ y)=false)∧Below Wd.heap.size Wd W)
      (fun cc pre W=>cc= .exit 4∧∃pre' x v'',pre=pre'++[x]∧(∀y∈pre',bP H level [] (mkF ⟨ck,ca,cb⟩ y)=false)∧bP H level [] (mkF ⟨ck,ca,cb⟩ x)=true∧jo w w4 A c H level (some ⟨b,off,none⟩) c4 P (LL++[(⟨ck,ca,cb⟩,x)]) v'' [] W∧bS W (w4.heap.size+1) Wd.heap.size Ds'∧Blk W Wa.heap.size 102 #[.int .i64 pk,.int .i64 pa,.int .i64 pb,.int .i64 pk,.int .i64 pb,.int .i64 pa])
      (OwnFrom.and (ownFrom_pure _ _) (ownFrom_below (Nat.le_refl _) (Nat.le_refl _)))
      (fun cc=>by
       rintro pre X Y row ⟨rfl,pre',x,v'',e,h1,h2,hl,hm,hb⟩ hg hr;have hr2:∀r,row=some r→∃o:Obj,X.heap[r]?=some o∧o.isCells=false:=fun r e=>(hr r e).2;exact⟨rfl,pre',x,v'',e,h1,h2,hl.grown hg hr (by omega) (by omega),Gm _ _ _ _ (Nat.le_refl _) () X Y row hm hg hr,nT hb hg hr2⟩)
      ⟨by simp,Below.refl _ _⟩
      (fun x a' W=>∃B8,Kt (.pointer (some ⟨w.heap.size,0,none⟩)) (.pointer (some ⟨w.heap.size+1,0,none⟩)) (.pointer (some ⟨w4.heap.size,0,none⟩)) (.pointer (some ⟨B8,0,none⟩)) a'.tmps∧a'.defers=[]∧Wd.heap.size≤B8∧Blk W B8 104 #[.int .i64 ck,.int .i64 ca,.int .i64 cb,.int .i64 (mkF ⟨ck,ca,cb⟩ x).kind,.int .i64 (mkF ⟨ck,ca,cb⟩ x).i,.int .i64 0,.slice none 0 0])
      (fun x a'=>by
       rintro⟨⟩ X Y row ⟨B8,hF,hd,hB8,hk⟩ hg hr;exact⟨B8,hF,hd,hB8,nT hk hg fun r e=>(hr r e).2⟩) ?assign ?body ?done ?stop
     case assign=>
      rintro l pre x W K ⟨hI1,hB⟩ hK;unfold Jm;dsimp only;have hWz:=hB.size
      gi_wp2
      refine hK _ _ (KeepsOthers.alloc _ _|>.from _) ((Below.refl _ _).alloc (by omega) _) ⟨hI1,hB.alloc hWz _⟩ ⟨W.heap.size,⟨rfl,rfl,rfl,rfl,rfl⟩,rfl,hWz,Blk.new _ _ _⟩
     case body=>
      rintro l pre x ⟨t',ds'⟩ W hl ⟨rl,hrl⟩ ⟨hI1,hB⟩ ⟨B8,hF,hd,hB8,k8⟩ hlen;dsimp only at hF hd;subst hd;obtain⟨u2,rfl⟩:=hF.open;have hWz:=hB.size;have hLw:=(hLd.below hB).bare;have c0:=Blk.n0 hLw.hist;have c1:=Blk.n0 hLw.lev;have f0:=Blk.n0 k8;have f1:=Blk.n1 k8;have f2:=Blk.n2 k8;have f3:=Blk.n3 k8;have f4:=Blk.n4 k8;have f5:=Blk.n5 k8;have f6:=Blk.n6 k8;have hTw:av W (Old W) (.slice A H.length c) H:=av.fit hLw.HV (fun b hb=>Nat.lt_of_lt_of_le hb hLw.low.size);have hho:=Ci A c H level none 0 0 [] (mkF ⟨ck,ca,cb⟩ x) none 0 W hTw hn.out (Kr _ _);simp only[O5,O6,Mg,List.length_nil]at hho;replace hho:=hide hho;obtain⟨q,hq⟩:∃q,bP H level [] (mkF ⟨ck,ca,cb⟩ x)=q:=⟨_,rfl⟩;rw[hq]at hho;replace hq:=hide hq;replace hI1:=hide hI1;clear hF
      gi_wp2_with fail
      refine⟨trivial,?_⟩;refine(callsIn_wide.2 hho.out).mono ?_;rintro e w6 ⟨rfl,hb6⟩;dsimp only;have hk6:KeepsFrom Wd.heap.size W w6:=Co hb6;have Qv:=hB.trans (hb6.mono hWz);have hW6:Below Wd.heap.size W w6:=hb6.mono hWz;cases q with
      |false=>
       gi_wp2
       refine⟨hk6,hW6,fun y hy=> ?_,Qv⟩;rcases List.mem_append.1 hy with hy|hy
       ·exact hI1.out y hy
       ·rw[List.mem_singleton.1 hy];exact hq.out
      |true=>
       have hL6:=hLw.below hb6;have NP:=(kA'.below (hbd.trans (hB.mono hbd.size)) kA'.lt).below hb6 (Nat.lt_of_lt_of_le kA'.lt (Nat.le_trans hbd.size hWz));have hmw:=(hmk.below hB (Nat.le_refl _)).below hb6 hWz;have kf:=k8.below hb6 k8.lt;have hs6:=hb6.size;obtain⟨Av,cv,rfl⟩:=aM hL6.facts;have hlo:=hide (fun b hb=>(hL6.facts.lt b hb).1);have hrt:=hide (qY hL6.facts NP (by decide));have hr:=hide hL6.facts;obtain⟨ii,hii,hi1,hi2,hi3⟩:=info_parts LB;have hl63:LL.length+1≤maxLen:=(by have:=M4.out;unfold maxLen;omega);have Jv:(LL.length+1)*72≤140737488355328:=(by have:=M4.out;omega);have hbs:w4.heap.size+1≤w6.heap.size:=(by omega);have o3:=hL6.out.cell 3;have f0:=kf.cell 0;have f1:=kf.cell 1;have f2:=kf.cell 2;have f3:=kf.cell 3;have f4:=kf.cell 4;have f5:=kf.cell 5;have f6:=kf.cell 6;have hou:=hL6.out;simp only[gA,gZ,gS]at f0 f1 f2 f3 f4 f5 f6 o3;clear c0 c1 hho k8 kf hLw hTw
       gi_wp2_with (gi_at_builtin;refine vM rfl (.tmp 77) (.tmp 79) 27 rfl (w4.heap.size+1) 104 ii _ 7 72 Tryz.underlying27 hii hi1 hi2 hi3 rfl (by decide) (.slice Av LL.length cv) LL rfl hr.out (⟨ck,ca,cb⟩,x) #[.int .i64 ck,.int .i64 ca,.int .i64 cb,.int .i64 (mkF ⟨ck,ca,cb⟩ x).kind,.int .i64 (mkF ⟨ck,ca,cb⟩ x).i,.int .i64 0,.slice none 0 0] rfl rfl (JD _) rfl hl63 Jv hbs ?_;intro v1 w9 hown1 hg1 oZ;obtain⟨A1,c1,rfl⟩:=aM hown1;have ko9:=(hou.alloc (.cells #[.int .i64 ck,.int .i64 ca,.int .i64 cb,.int .i64 (mkF ⟨ck,ca,cb⟩ x).kind,.int .i64 (mkF ⟨ck,ca,cb⟩ x).i,.int .i64 0,.slice none 0 0] 104)).grown hg1 (fun e=>by have:=hlo.out _ e.symm;omega);have g9:=ko9.cell 3;have f9:=ko9.frozen 3)
       have hz9:=hg1.size;simp only[World.size_alloc]at hz9;have hL7:=hL6.below ((Below.refl w6.heap.size w6).alloc (Nat.le_refl _) (.cells #[.int .i64 ck,.int .i64 ca,.int .i64 cb,.int .i64 (mkF ⟨ck,ca,cb⟩ x).kind,.int .i64 (mkF ⟨ck,ca,cb⟩ x).i,.int .i64 0,.slice none 0 0] 104));have hko:KeepsOthers w6 (w9.setCell ⟨w4.heap.size,3,none⟩ (.slice A1 (LL.length+1) c1)):=((KeepsOthers.alloc w6 _).trans (KeepsOthers.of_grownBy hg1 fun j o ej hj=>by
        rcases(hr.out.alloc (.cells #[.int .i64 ck,.int .i64 ca,.int .i64 cb,.int .i64 (mkF ⟨ck,ca,cb⟩ x).kind,.int .i64 (mkF ⟨ck,ca,cb⟩ x).i,.int .i64 0,.slice none 0 0] 104)).2 with⟨h1,_⟩|⟨g,cap,cur,h1,_,hgb,_⟩
        ·rw[h1]at ej;simp[Value.ownBlock]at ej
        ·rw[h1]at ej;obtain rfl:g=j:=(by simpa[Value.ownBlock]using ej);rw[hgb]at hj;cases hj;rfl)).trans (KeepsOthers.setCell _ _ _)
       have hlx:(LL++[((⟨ck,ca,cb⟩,x):Cho×Option Nat)]).length=LL.length+1:=(by simp);have hown2:mo w9 (w4.heap.size+1) (.slice A1 (LL.length+1) c1) (LL++[((⟨ck,ca,cb⟩,x):Cho×Option Nat)]):=(by rw[←hlx];exact hown1);refine⟨hk6.trans (hko.from _),rfl,pre,x,.slice A1 (LL.length+1) c1,rfl,hI1.out,hq.out,?_,hmw.other hko,?_⟩
       ·have hno:∀g,g<w4.heap.size+1→some g≠(Value.slice Av LL.length cv).ownBlock:=fun g hg e=>(by have:=hlo.out _ e.symm;omega);have hws:w.heap.size≤w4.heap.size:=(by omega);exact⟨(hL7.hist.grown hg1 (hno _ (by omega))).far (p:=⟨w4.heap.size,3,none⟩) (by omega) _,(hL7.lev.grown hg1 (hno _ (by omega))).far (p:=⟨w4.heap.size,3,none⟩) (by omega) _,(hL7.res.grown hg1 (hno _ (by omega))).far (p:=⟨w4.heap.size,3,none⟩) (by omega) _,
         ko9.aJ 3 _,World.ownsRow.kept hown2 (aI _ _ _) (.inr fun e=>by have:=(World.ownsRow.lt hown2 _ e).1;omega),
         SlR.keep (Flat.aZ _) hL7.pairs (Agree.trans (Agree.grown hg1 fun b hb=>⟨by have:=hL7.top;omega,hno b (by omega)⟩) (Agree.setCell ⟨w4.heap.size,3,none⟩ (by simp) _)) (fun _ h=>h),
         av.keep hL7.HV (Agree.trans (Agree.grown hg1 fun b hb=>by have hb:b<w.heap.size:=hb;exact⟨by have:=hL7.top;omega,hno b (by omega)⟩) (Agree.setCell ⟨w4.heap.size,3,none⟩ (by show¬_<_;simp;omega) _)) (fun _ h=>h),
         bS.nil _ _ _,(hL7.low.grown hg1 (by have:=hL7.top;omega) (fun k e=>by have:=hlo.out _ e;omega)).setCell (p:=⟨w4.heap.size,3,none⟩) (by simp;omega) _,by have:=hL7.top;simp;omega⟩
       ·exact((NP.alloc _).grown hg1 (fun e=>hrt.out.elim (fun q=>by rw[q]at e;cases e) (fun q=>q e.symm))).far (p:=⟨w4.heap.size,3,none⟩) (Cn NP hou (by decide)) _
     case done=>
      rintro D xs W hD rfl ⟨hI1,hB⟩ hK;have hpl:=hide (M0.out [] (by unfold kI Gq;rw[Gs hI1];rfl));have hLw:=(hLd.below hB).bare;have hmw:=hmk.below hB (Nat.le_refl _);have hkw:=kA'.below (hbd.trans (hB.mono (by omega))) kA'.lt;replace hI1:=hide hI1
      gi_wp2_with fail
      refine⟨⟨m+1,D::Ds',v',rfl,⟨rfl,rfl,rfl,rfl,rfl,rfl,rfl,rfl,rfl,rfl,rfl,rfl,rfl,by go_num⟩,by omega,?_,hkw⟩,?_⟩
      ·rw[hpl.out,List.append_nil];exact hLw.push hmw hD (by omega) hK
      ·have hmk:2-(m+1)<2-m:=(by omega);simpa[intOf]using hmk
     case stop=>
      rintro D cc pre W hD hpre ⟨rfl,pre',x,v'',rfl,h1,h2,hLx,hmx,hbx⟩ hK;have hpl:=hide (M0.out [(⟨ck,ca,cb⟩,x)] (by unfold kI Gq;rw[JB hpre h1 h2];rfl));replace h1:=hide h1;replace h2:=hide h2
      gi_wp2_with fail
      refine⟨⟨m+1,D::Ds',v'',rfl,⟨rfl,rfl,rfl,rfl,rfl,rfl,rfl,rfl,rfl,rfl,rfl,rfl,rfl,by go_num⟩,by omega,?_,hbx⟩,?_⟩
      ·rw[hpl.out];exact hLx.push hmx hD (by omega) hK
      ·have hmk:2-(m+1)<2-m:=(by omega);simpa[intOf]using hmk
    ·obtain rfl:m=2:=by omega
     gi_wp2_with fail
     refine⟨⟨k+1,Ds',v',rfl,⟨rfl,rfl,rfl,rfl,rfl,rfl,rfl,rfl,rfl,by go_num⟩,by omega,?_⟩,?_⟩
     ·rw[hstp.out];have e2:(([⟨pk,pa,pb⟩,⟨pk,pb,pa⟩]:List Cho).take 2).flatMap (kI H level)=kI H level ⟨pk,pa,pb⟩++kI H level (iI ⟨pk,pa,pb⟩):=(by simp[iI]);rw[←e2];exact hL'
     ·have hmk:P.length-(k+1)<P.length-k:=(by omega);simpa[intOf]using hmk
  ·have hkn:k=P.length:=(by omega);have htk:P.take k=P:=List.take_of_length_le (by omega);rw[htk]at hL;obtain⟨Av3,cv3,rfl⟩:=aM hL.facts;have hge:¬(k:Int)<(P.length:Int):=(by omega);have x0:=Blk.n0 hL.out;have x1:=Blk.n1 hL.out;have x2:=Blk.n2 hL.out;have x3:=Blk.n3 hL.out;have z0:=Blk.n0 hL.res;have z1:=Blk.n1 hL.res;have z2:=Blk.n2 hL.res;have z3:=Blk.n3 hL.res;have y0:=hL.res.frozen 0;have y1:=hL.res.frozen 1;have y2:=hL.res.frozen 2;have y3:=hL.res.frozen 3;clear hkn htk;have hlo:=hL.low;have hto:=hL.top;have hm:=hL.marks;have kF:=(((hL.res.aJ 0 (.int .i64 3)).aJ 1 (.slice none 0 0)).aJ 2 (.slice none 0 0)).aJ 3 (.slice Av3 (bT H level P).length cv3);have RB:w.heap.size+1+1<w4.heap.size:=Qu
   gi_wp2
   refine qI (lo:=w4.heap.size+1) (hi:=W.heap.size) (fun W'=>Blk W' (w.heap.size+1+1) 36 #[.int .i64 3,.slice none 0 0,.slice none 0 0,.slice Av3 (bT H level P).length cv3]∧mo W' (w4.heap.size+1) (.slice Av3 (bT H level P).length cv3) (bT H level P)∧Below w.heap.size w W') ?_ ?_ Ds _ ?_ ?_
   ·rintro W' D ⟨h1,h2,h3⟩ d1 d2 d3;exact⟨(World.putObj_heap_other (by omega)).trans h1,ownsRow_putObj h2 _ d3 rfl,h3.trans ⟨rfl,rfl,rfl,by simp,fun k hk=>World.putObj_heap_other (by omega)⟩⟩
   ·rintro W' ⟨h1,h2,h3⟩;have r0:=h1.cell 0;have r1:=h1.cell 1;have r2:=h1.cell 2;have r3:=h1.cell 3;simp at r0 r1 r2 r3;refine⟨.agg #[.int .i64 3,.slice none 0 0,.slice none 0 0,.slice Av3 (bT H level P).length cv3],?_,⟨_,_,_,rfl,aV.nil _ _,rfl,iw h2 (by omega),h3⟩⟩;simp[results,Tryz.f48,go_sem,r0,r1,r2,r3]
   ·refine(hm.keep fun D d1 d2 d3=> ?_).up (Nat.le_refl _);refine Eq.trans ?_ d3;have hD:D≠w.heap.size+1+1:=(by omega);refine(Below.heap_setCell _ _ _ D hD).trans ((Below.heap_setCell _ _ _ D hD).trans ((Below.heap_setCell _ _ _ D hD).trans (Below.heap_setCell _ _ _ D hD)))
   ·have hno:∀g',(Value.slice Av3 (bT H level P).length cv3).ownBlock=some g'→g'=w.heap.size+1+1→False:=fun g' e1 e2=>(by have:=(World.ownsRow.lt hL.facts _ e1).1;omega);have o2:=(((World.ownsRow.kept hL.facts (aI (w.heap.size+1+1) 0 (.int .i64 3)) (.inr fun e=>hno _ e rfl)).kept (aI (w.heap.size+1+1) 1 (.slice none 0 0)) (.inr fun e=>hno _ e rfl)).kept (aI (w.heap.size+1+1) 2 (.slice none 0 0)) (.inr fun e=>hno _ e rfl)).kept (aI (w.heap.size+1+1) 3 (.slice Av3 (bT H level P).length cv3)) (.inr fun e=>hno _ e rfl);exact⟨kF,o2,(((hlo.setCell (p:=⟨w.heap.size+1+1,0,none⟩) (by simp;omega) _).setCell (p:=⟨w.heap.size+1+1,1,none⟩) (by simp;omega) _).setCell (p:=⟨w.heap.size+1+1,2,none⟩) (by simp;omega) _).setCell (p:=⟨w.heap.size+1+1,3,none⟩) (by simp;omega) _⟩
end Go.Proofs.YtfhnamomiaekdaaGreatDoor
