/-
  Walks: layer 17: edges laid into a graph.
-/
import Derived.Test.YtfhnamomiaekdaaGreatDoorQ07
import Derived.Test.YtfhnamomiaekdaaGreatDoorQ04
import Derived.Test.YtfhnamomiaekdaaGreatDoorQ01
set_option linter.unusedVariables false
set_option linter.unusedSimpArgs false
namespace Go.Proofs.YtfhnamomiaekdaaGreatDoor
open Go.RowKit Go.Inq
set_option maxHeartbeats 4000000
attribute [local go_sem↓] Go.wp_at_zero Go.wp_at_succ
def dH(W:World)(Bg base n:Nat)(E:ak):Prop:=
 ∃g,base≤g∧Blk W Bg 77 #[.int .i64 n,.slice (some ⟨g,0,none⟩) n n]∧Blk W g 172 (bn n E)
theorem dH.congr{W:World}{Bg base n:Nat}{E F:ak}(h:dH W Bg base n E)(hE:∀a b,a<n→b<n→E a b=F a b):dH W Bg base n F:=by
 obtain⟨g,h1,h2,h3⟩:=h;exact⟨g,h1,h2,by rw[←bW hE];exact h3⟩
theorem dH.grown{W W':World}{Bg base n:Nat}{E:ak}{r:Option Nat}(h:dH W Bg base n E)(hg:W.grownBy W' r)(hr:∀k,r=some k→k≠Bg∧k<base):dH W' Bg base n E:=by
 obtain⟨g,h1,h2,h3⟩:=h;exact⟨g,h1,h2.grown hg (fun e=>(hr Bg e.symm).1 rfl),h3.grown hg (fun e=>by have:=(hr g e.symm).2;omega)⟩
theorem dH.below{W W':World}{Bg base n:Nat}{E:ak}(h:dH W Bg base n E)(hb:Below W.heap.size W W'):dH W' Bg base n E:=h.grown (r:=none) (aX hb (Nat.le_refl _)) (fun k e=>by cases e)
theorem dH.lt{W:World}{Bg base n:Nat}{E:ak}(h:dH W Bg base n E):Bg<W.heap.size:=by
 obtain⟨g,h1,h2,h3⟩:=h;exact h2.lt
def sD(E:ak)(a b:Int):ak:=if 0≤a∧a≠b then orE E (iO a.toNat b.toNat)else E
set_option maxRecDepth 100000 in
theorem pI(n:Nat)(hn:n≤64)(E:ak)(a b:Int)(ha:a<n)(hb0:0≤b)(hb:b<n)(Bg base:Nat)(w:World)(h:dH w Bg base n E)(hbase:base≤w.heap.size):
 Calls Tryz.prog 258 #[.int .i64 a,.int .i64 b,.pointer (some ⟨Bg,0,none⟩)] w fun e w'=>e= .returned (.tuple #[])∧dH w' Bg base n (sD E a b)∧w.grownBy w' (some Bg):=by
 by_cases h0:0≤a
 ·by_cases hne:a=b
  ·have hE:sD E a b=E:=(by unfold sD;rw[if_neg (by omega)]);rw[hE];have h0b:decide (a≥0)=true:=(by simpa using h0);have h1b:(a !=b)=false:=(by simpa using hne);clear hne hE;go_enter Tryz.func258,Tryz.ntmps258;go_wp2
   go_end0
   exact⟨rfl,h,World.grownBy.refl _ _⟩
  ·have hE:sD E a b=orE E (iO a.toNat b.toNat):=(by unfold sD;rw[if_pos ⟨h0,hne⟩]);rw[hE];obtain⟨x,rfl⟩:∃x:Nat,a=x:=⟨a.toNat,by omega⟩;obtain⟨y,rfl⟩:∃y:Nat,b=y:=⟨b.toNat,by omega⟩;simp only[Int.toNat_natCast];have h0b:decide ((x:Int)≥0)=true:=(by simp);have h1b:((x:Int) !=(y:Int))=true:=(by simpa using hne);have h1c:(x !=y)=true:=(by simp;omega);have hx:x<n:=(by omega);have hy:y<n:=(by omega);obtain⟨g,hg,k0,kR⟩:=h;have nZ:g≠Bg:=by
    rintro rfl;have:=k0.symm.trans kR;simp at this
   clear hne hE h0;have c0:=Blk.n0 k0;have c1:=Blk.n1 k0;have hG:GrS w (fun b=>b=g) n (some ⟨g,0,none⟩) n E:=GrS.bE kR rfl hn;have hgl:=kR.lt;go_enter Tryz.func258,Tryz.ntmps258;go_wp2_with fail;refine(su n (some ⟨g,0,none⟩) n E x y hx hy (fun b=>b=g) _ hG (fun b hb=>by subst hb;exact hgl)).mono ?_;rintro e w1 ⟨g',hgs,rfl,kR',hb1⟩;clear c0 c1;have k1:=k0.below hb1 k0.lt;have c0:=Blk.n0 k1;have c1:=Blk.n1 k1;have f0:=k1.frozen 0;have f1:=k1.frozen 1;have hBl:=k0.lt;go_wp2
   go_end0
   refine⟨rfl,⟨g',by omega,?_,?_⟩,aj (aj (aX hb1 (Nat.le_refl _)) (aI Bg 0 _)) (aI Bg 1 _)⟩
   ·have:=(k1.aJ 0 (.int .i64 n)).aJ 1 (.slice (some ⟨g',0,none⟩) n n);simpa using this
   ·exact(kR'.far (p:=⟨Bg,0,none⟩) (by simp;omega) _).far (p:=⟨Bg,1,none⟩) (by simp;omega) _
 ·have hE:sD E a b=E:=(by unfold sD;rw[if_neg (by omega)]);rw[hE];have h0b:decide (a≥0)=false:=(by simpa using h0);clear h0 hE;go_enter Tryz.func258,Tryz.ntmps258;go_wp2
  go_end0
  exact⟨rfl,h,World.grownBy.refl _ _⟩
def lZ(w:World)(n:Nat)(E:ak)(e:Ending)(w':World):Prop:=
 ∃g,w.heap.size≤g∧e= .returned (.agg #[.int .i64 n,.slice (some ⟨g,0,none⟩) n n])∧Blk w' g 172 (bn n E)∧Below w.heap.size w w'
theorem lZ.congr{w w':World}{n:Nat}{E F:ak}{e:Ending}(h:lZ w n E e w')(hE:∀a b,a<n→b<n→E a b=F a b):lZ w n F e w':=by
 unfold lZ at h⊢;rw[←bW hE];exact h
set_option maxRecDepth 100000 in
theorem pJ (f:Nat) (hf:∀args w,(callFunc f args).run Tryz.prog w= .ok (.enter f args) w) (lb:Array Value) (A:Option Addr) (c:Nat) (H:List Txn) (E:ak) (w:World) (h:av w (Old w) (.slice A H.length c) H) (hn:aC H) (hr:aA H=true)
 (Nw:∀(W:World) (Bg:Nat),Below w.heap.size w W→dH W Bg w.heap.size H.length noE→w.heap.size<Bg→
  Calls Tryz.prog f (#[.func (.func 258) #[] #[.pointer (some ⟨Bg,0,none⟩)]]++lb) W fun e W'=>e= .returned (.tuple #[])∧dH W' Bg w.heap.size H.length E∧W.grownBy W' (some Bg)):
 Calls Tryz.prog 222 #[.agg #[.slice A H.length c],.func (.func f) #[] lb] w (lZ w H.length E):=by
 obtain⟨W0,hW0⟩:∃W0,(w.alloc (.cells #[.slice A H.length c] 24)).alloc (.cells #[.int .i64 0,.slice none 0 0] 77)=W0:=⟨_,rfl⟩;have hB:=aQ hW0;have k0:=Blk.j6 hW0;have k1:=Blk.jd hW0;have h0:=hide (h.below hB);have h32:H.length≤32:=((aD H).1 hr).1;have hs0:=size_two hW0;replace hn:=hide hn;replace hr:=hide hr;replace Nw:=hide Nw;clear h;have c0:=Blk.n0 k0;replace hs0:=hide hs0;go_enter Tryz.func222,Tryz.ntmps222;go_wp2_with fail;clear hW0 c0;refine(cK A c H _ h0.out hn.out).mono ?_;rintro e w1 ⟨rfl,hb1⟩;rw[hr.out];have hs1:w.heap.size+2≤w1.heap.size:=(by have:=hb1.size;have:=hs0.out;omega);replace k0:=k0.below hb1 k0.lt;replace k1:=k1.below hb1 k1.lt;have hb2:=hB.trans (hb1.mono hB.size);clear hb1 hB h0 hs0;have c0:=Blk.n0 k0;go_wp2_with fail;refine(iW H.length (by omega) _).mono ?_;rintro e w2 ⟨g,hgs,rfl,kR,hb3⟩;replace k1:=k1.below hb3 k1.lt;replace hb2:=hb2.trans (hb3.mono hb2.size);have hs2:w1.heap.size≤w2.heap.size:=hb3.size;obtain⟨W3,hW3⟩:∃W3,w2.alloc (.cells #[.int .i64 H.length,.slice (some ⟨g,0,none⟩) H.length H.length] 77)=W3:=⟨_,rfl⟩;have k3:=Blk.newEq hW3;have hs3:=ay hW3;replace k1:=k1.au hW3;replace kR:=kR.au hW3;have hb5:=ah hb2 hW3 (by omega);have aU:dH W3 w2.heap.size w.heap.size H.length noE:=⟨g,by omega,k3,kR⟩;have hcall:=hide (Nw.out W3 w2.heap.size hb5 aU (by omega));replace hs3:=hide hs3;clear hb3 c0 k0 k3 kR hb2 aU;go_wp2_with fail;refine hcall.out.mono ?_;rintro e w4 ⟨rfl,⟨g',hg',kB,kR⟩,hg4⟩;have nZ:g'≠w.heap.size+1:=by
  rintro rfl;have:=(k1.grown hg4 (by simp;omega)).symm.trans kR;simp at this
 have k14:=k1.grown hg4 (by simp;omega);have hb4:=below_grown hb5 hg4 hb5.size (by intro k hk;injection hk with hk;omega);have c0:=Blk.n0 kB;have c1:=Blk.n1 kB;have j0:=Blk.n0 k14;have j1:=Blk.n1 k14;have jf:=k14.frozen 0;have jf1:=k14.frozen 1;clear hcall hW3;go_wp2;have kF0:=((kR.far (p:=⟨w.heap.size+1,0,none⟩) nZ (.int .i64 H.length)).far (p:=⟨w.heap.size+1,1,none⟩) nZ (.slice (some ⟨g',0,none⟩) H.length H.length));have hF:=((hb4.setCell (p:=⟨w.heap.size+1,0,none⟩) (by simp) (.int .i64 H.length)).setCell (p:=⟨w.heap.size+1,1,none⟩) (by simp) (.slice (some ⟨g',0,none⟩) H.length H.length));exact bodyPost_ret (v:= .agg #[.int .i64 H.length,.slice (some ⟨g',0,none⟩) H.length H.length]) (by simp[results,Tryz.results222,go_sem,j0,j1]) rfl ⟨g',hg',rfl,kF0,hF⟩
set_option maxRecDepth 100000 in
theorem sF(n:Nat)(A A':Option Addr)(c c':Nat)(E F:ak)(gs:Nat)(w:World)(h:GrS w (Old w) n A c E)(h':GrS w (Old w) n A' c' F)(hgs:Blk w gs 77 #[.int .i64 n,.slice A' n c']):
 Calls Tryz.prog 96 #[.agg #[.int .i64 n,.slice A n c],.slice (some ⟨gs,0,none⟩) 1 1] w (lZ w n (orE E F)):=by
 obtain⟨W0,hW0⟩:∃W0,(w.alloc (.cells #[.int .i64 n,.slice A n c] 77)).alloc (.cells #[.int .i64 0,.slice none 0 0] 77)=W0:=⟨_,rfl⟩;have hB:=aQ hW0;have k0:=Blk.j6 hW0;have k1:=Blk.jd hW0;have hs0:=size_two hW0;have hn:=h.n64;have hgl:=hgs.lt;replace h:=hide (h.below hB);replace h':=hide (h'.below hB);have m0:=hgs.below hB hgs.lt;clear hgs;replace hs0:=hide hs0;go_enter Tryz.func96,Tryz.ntmps96;go_wp2_with fail;clear hW0;go_loopw [9] (fun s9 wr=>∃k:Nat,s9= .int .i64 k∧((k=0∧Blk wr w.heap.size 77 #[.int .i64 n,.slice A n c]∧GrS wr (Old wr) n A c E∧GrS wr (Old wr) n A' c' F∧Blk wr gs 77 #[.int .i64 n,.slice A' n c']∧w.heap.size+2≤wr.heap.size)∨(k=1∧∃g,w.heap.size+2≤g∧Blk wr w.heap.size 77 #[.int .i64 n,.slice (some ⟨g,0,none⟩) n n]∧Blk wr g 172 (bn n (orE E F))))∧Blk wr (w.heap.size+1) 77 #[.int .i64 0,.slice none 0 0]∧Below w.heap.size w wr) (fun s9 _=>1-(intOf s9).toNat);case atStart=>exact⟨0,by go_num,.inl ⟨rfl,k0,h.out,h'.out,m0,by have:=hs0.out;omega⟩,k1,hB⟩
 case round=>
  clear k0 k1 h h' m0 hB hs0;obtain⟨k,rfl,hcase,k1,hb⟩:=hrel;rcases hcase with⟨rfl,k0,h,h',m0,hsz⟩|⟨rfl,g,hg,k0,kR⟩
  ·have d0:=m0.cell 0;have d1:=m0.cell 1;simp only[gA,gZ,gS]at d0 d1;obtain⟨W1,hW1⟩:∃W1,wr.alloc (.cells #[.int .i64 n,.slice A' n c'] 77)=W1:=⟨_,rfl⟩;have hB1:=ah (Below.refl wr.heap.size wr) hW1 (Nat.le_refl _);have kM:=Blk.newEq hW1;have ha:=hide (h.below hB1);have hb':=hide (h'.below hB1);have k01:=k0.below hB1 k0.lt;have k11:=k1.below hB1 k1.lt;have hb2:=hb.trans (hB1.mono hb.size);have hsz1:=ay hW1;have a0:=Blk.n0 k01;have a1:=Blk.n1 k01;have e0:=Blk.n0 kM;have e1:=Blk.n1 kM;clear h h' k0 k1 hb m0 hB1;replace hsz1:=hide hsz1;go_wp2_with fail;clear d0 d1 e0 e1 a0 a1 hW1;refine(tN n A A' c c' E F (Old W1) _ ha.out hb'.out (fun b hb=>hb)).mono ?_;rintro e W2 ⟨g,hg,rfl,kR,hb3⟩;have k02:=k01.below hb3 k01.lt;have k12:=k11.below hb3 k11.lt;have hb4:=hb2.trans (hb3.mono hb2.size);have c0:=Blk.n0 k02;have c1:=Blk.n1 k02;have f0:=k02.frozen 0;have f1:=k02.frozen 1;have hg2:w.heap.size+2≤g:=(by have:=hsz1.out;omega);have n1:g≠w.heap.size:=(by omega);have n2:w.heap.size+1≠w.heap.size:=(by omega);go_wp2;go_roundw;case rel=>
    refine⟨1,by go_num,.inr ⟨rfl,g,hg2,?_,(kR.far (p:=⟨w.heap.size,0,none⟩) n1 _).far (p:=⟨w.heap.size,1,none⟩) n1 _⟩,(k12.far (p:=⟨w.heap.size,0,none⟩) n2 _).far (p:=⟨w.heap.size,1,none⟩) n2 _,(hb4.setCell (p:=⟨w.heap.size,0,none⟩) (by simp) _).setCell (p:=⟨w.heap.size,1,none⟩) (by simp) _⟩;have:=(k02.aJ 0 (.int .i64 n)).aJ 1 (.slice (some ⟨g,0,none⟩) n n);simpa using this
   case measure=>simp[intOf]
  ·have c0:=k0.cell 0;have c1:=k0.cell 1;have j0:=k1.cell 0;have j1:=k1.cell 1;have jf:=k1.frozen 0;have jf1:=k1.frozen 1;simp only[gA,gZ,gS]at c0 c1 j0 j1;have n1:g≠w.heap.size+1:=(by omega);go_wp2;exact bodyPost_ret (v:= .agg #[.int .i64 n,.slice (some ⟨g,0,none⟩) n n]) (by simp[results,Tryz.results96,go_sem,j0,j1]) rfl ⟨g,by omega,rfl,(kR.far (p:=⟨w.heap.size+1,0,none⟩) n1 _).far (p:=⟨w.heap.size+1,1,none⟩) n1 _,(hb.setCell (p:=⟨w.heap.size+1,0,none⟩) (by simp) _).setCell (p:=⟨w.heap.size+1,1,none⟩) (by simp) _⟩
theorem JN{l:List Cho}{k:Nat}(hk:k<l.length){a b:Nat}(ha:l[k].a=a)(hb:l[k].b=b):orE (wwE (l.take k)) (iO a b)=wwE (l.take (k+1)):=by
 funext x y;unfold orE wwE iO;rw[take_snoc' hk,List.any_append];simp only[List.any_cons,List.any_nil,Bool.or_false,ha,hb];congr 1;rw[Bool.eq_iff_iff];simp;omega
theorem LM:wwE []=noE:=by funext x y;simp[wwE,noE]
theorem dH.open{W:World}{Bg base n:Nat}{E:ak}(h:dH W Bg base n E)(hn:n≤64):∃g,base≤g∧g≠Bg∧g<W.heap.size∧Blk W Bg 77 #[.int .i64 n,.slice (some ⟨g,0,none⟩) n n]∧Blk W g 172 (bn n E)∧GrS W (fun b=>b=g) n (some ⟨g,0,none⟩) n E:=by
 obtain⟨g,h1,h2,h3⟩:=h;refine⟨g,h1,?_,h3.lt,h2,h3,GrS.bE h3 rfl hn⟩;rintro rfl;have:=h2.symm.trans h3;simp at this
theorem vS{H:List Txn}{l:List Cho}(h:dn H l=true){x:Cho}(hx:x∈l):∃a b:Nat,x.a=a∧x.b=b∧a<H.length∧b<H.length:=by
 unfold dn at h;rw[Bool.and_eq_true,List.all_eq_true]at h;obtain⟨a,b,h1,h2,_,h3,h4,_⟩:=vE.1 (h.2 x hx);exact⟨a,b,h1,h2,h3,h4⟩
theorem bJ{H:List Txn}{l:List Cho}(h:dn H l=true):aA H=true:=by
 unfold dn at h;rw[Bool.and_eq_true,Bool.and_eq_true]at h;exact h.1.1
theorem pK{H:List Txn}{l:List Cho}(h:dn H l=true):l.length≤20000:=by
 unfold dn at h;rw[Bool.and_eq_true,Bool.and_eq_true]at h;exact of_decide_eq_true h.1.2
set_option maxRecDepth 100000 in
theorem JO(A:Option Addr)(c:Nat)(H:List Txn)(Al:Option Addr)(cl:Nat)(l:List Cho)(w:World)(h:av w (Old w) (.slice A H.length c) H)(hn:aC H)(hl:bg w (Old w) (.slice Al l.length cl) l)(hr:dn H l=true):
 Calls Tryz.prog 98 #[.agg #[.slice A H.length c],.slice Al l.length cl] w (lZ w H.length (wwE l)):=by
 obtain⟨W0,hW0⟩:∃W0,(w.alloc (.cells #[.slice A H.length c] 24)).alloc (.cells #[.int .i64 0,.slice none 0 0] 77)=W0:=⟨_,rfl⟩;have hB:=aQ hW0;have k0:=Blk.j6 hW0;have k1:=Blk.jd hW0;have hs0:=size_two hW0;have h32:H.length≤32:=((aD H).1 (bJ hr)).1;have hll:=pK hr;have hcn:=hide (fun x hx=>vS hr (x:=x) hx);have h0:=hide (h.below hB);have hl0:=hide (hl.below hB);replace hr:=hide hr;replace hn:=hide hn;replace hl:=hide hl;clear h;have c0:=Blk.n0 k0;replace hs0:=hide hs0;go_enter Tryz.func98,Tryz.ntmps98;go_wp2_with fail;clear hW0 c0;refine(jL A c H Al cl l _ h0.out hn.out hl0.out (by omega)).mono ?_;rintro e w1 ⟨rfl,hb1⟩;rw[hr.out];have hs1:w.heap.size+2≤w1.heap.size:=(by have:=hb1.size;have:=hs0.out;omega);replace k0:=k0.below hb1 k0.lt;replace k1:=k1.below hb1 k1.lt;have hb2:=hB.trans (hb1.mono hB.size);clear hb1 hB h0 hl0 hs0;have c0:=Blk.n0 k0;go_wp2_with fail;refine(iW H.length (by omega) _).mono ?_;rintro e w2 ⟨g,hgs,rfl,kR,hb3⟩;replace k1:=k1.below hb3 k1.lt;replace hb2:=hb2.trans (hb3.mono hb2.size);have hs2:w1.heap.size≤w2.heap.size:=hb3.size;obtain⟨W3,hW3⟩:∃W3,w2.alloc (.cells #[.int .i64 H.length,.slice (some ⟨g,0,none⟩) H.length H.length] 77)=W3:=⟨_,rfl⟩;have k3:=Blk.newEq hW3;have hs3:=ay hW3;replace k1:=k1.au hW3;replace kR:=kR.au hW3;have hb5:=ah hb2 hW3 (by omega);have aU:dH W3 w2.heap.size (w.heap.size+2) H.length (wwE (l.take 0)):=⟨g,by omega,k3,by rw[List.take_zero,LM];exact kR⟩;have hl3:=hide (fun W' (hg:W3.grownBy W' (some w2.heap.size))=>hl.out.keep (K':=Old w) ((Agree.below hb5 (fun b h=>h)).trans (Agree.grown hg fun b hb=>by have:b<w.heap.size:=hb;exact⟨by omega,by simp;omega⟩)) (fun b h=>h));replace hs3:=hide hs3;clear hb3 c0 k0 k3 kR hb2;go_wp2_with fail;clear hW3;go_loopw [23] (fun s23 wr=>∃k:Nat,k≤l.length∧s23= .int .i64 k∧dH wr w2.heap.size (w.heap.size+2) H.length (wwE (l.take k))∧W3.grownBy wr (some w2.heap.size)) (fun s23 _=>l.length-(intOf s23).toNat);case atStart=>exact⟨0,Nat.zero_le _,by go_num,aU,World.grownBy.refl _ _⟩
 case round=>
  clear aU;obtain⟨k,hk,rfl,aU,hgw⟩:=hrel;have hi1:(0:Int)≤(k:Int):=Int.natCast_nonneg _;by_cases hlt:k<l.length
  ·have hi2:(k:Int)<(l.length:Int):=(by omega);obtain⟨b,off,rfl,_,d0,d1,d2⟩:=(hl3.out wr hgw).at_ hlt;obtain⟨xa,xb,ha,hb,ha2,hb2⟩:=hcn.out _ (List.getElem_mem hlt);have hst:=hide (JN hlt ha hb);rw[ha]at d1;rw[hb]at d2;generalize l[k]=x at*;obtain⟨key,ya,yb⟩:=x;dsimp only at*;clear ha hb;obtain⟨W4,hW4⟩:∃W4,wr.alloc (.cells #[.int .i64 key,.int .i64 xa,.int .i64 xb] 102)=W4:=⟨_,rfl⟩;have kC:=Blk.newEq hW4;have hg4:W3.grownBy W4 (some w2.heap.size):=(by rw[←hW4];exact aj hgw (World.grownBy_alloc _ _ _));have Fu:dH W4 w2.heap.size (w.heap.size+2) H.length (wwE (l.take k)):=(by rw[←hW4];exact aU.grown (r:=none) (World.grownBy_alloc _ _ _) (fun k e=>by cases e));obtain⟨g',hg',nZ,hgl,kB,kR,hG⟩:=Fu.open (by omega);have b0:=Blk.n0 kB;have b1:=Blk.n1 kB;have e1:=Blk.n1 kC;have e2:=Blk.n2 kC;go_wp2_with fail;clear d0 d1 d2 b0 b1 e1 e2 hW4;refine(su H.length (some ⟨g',0,none⟩) H.length _ xa xb ha2 hb2 (fun b=>b=g') _ hG (fun b hb=>by subst hb;exact hgl)).mono ?_;rintro e w5 ⟨g5,P5,rfl,kR5,JQ⟩;have kB5:=kB.below JQ kB.lt;have c0:=Blk.n0 kB5;have c1:=Blk.n1 kB5;have f0:=kB5.frozen 0;have f1:=kB5.frozen 1;have hBl:=kB.lt;have P6:=hg4.size;go_wp2;go_roundw;case rel=>
    refine⟨k+1,by omega,by go_num,⟨g5,by omega,?_,?_⟩,aj hg4 (aj (aj (aX JQ (Nat.le_refl _)) (aI w2.heap.size 0 _)) (aI w2.heap.size 1 _))⟩
    ·have:=(kB5.aJ 0 (.int .i64 H.length)).aJ 1 (.slice (some ⟨g5,0,none⟩) H.length H.length);simpa using this
    ·rw[←hst.out];exact(kR5.far (p:=⟨w2.heap.size,0,none⟩) (by simp;omega) _).far (p:=⟨w2.heap.size,1,none⟩) (by simp;omega) _
   case measure=>simp[intOf];omega
  ·obtain rfl:k=l.length:=(by omega);rw[List.take_length]at aU;obtain⟨g',hg',nZ,hgl,kB,kR,hG⟩:=aU.open (by omega);have k14:=k1.grown hgw (by simp;omega);have hb4:=below_grown hb5 hgw hb5.size (by intro k hk;injection hk with hk;omega);have c0:=Blk.n0 kB;have c1:=Blk.n1 kB;have j0:=Blk.n0 k14;have j1:=Blk.n1 k14;have jf:=k14.frozen 0;have jf1:=k14.frozen 1;have n1:g'≠w.heap.size+1:=(by omega);go_wp2;have kF0:=((kR.far (p:=⟨w.heap.size+1,0,none⟩) n1 (.int .i64 H.length)).far (p:=⟨w.heap.size+1,1,none⟩) n1 (.slice (some ⟨g',0,none⟩) H.length H.length));have hF:=((hb4.setCell (p:=⟨w.heap.size+1,0,none⟩) (by simp) (.int .i64 H.length)).setCell (p:=⟨w.heap.size+1,1,none⟩) (by simp) (.slice (some ⟨g',0,none⟩) H.length H.length));exact bodyPost_ret (v:= .agg #[.int .i64 H.length,.slice (some ⟨g',0,none⟩) H.length H.length]) (by simp[results,Tryz.results98,go_sem,j0,j1]) rfl ⟨g',by omega,rfl,kF0,hF⟩
def iC(H:List Txn)(b a:Nat):ak:=fun x y=>soE H x y&&(decide (y<b)||(decide (y=b)&&decide (x<a)))
theorem BL(H:List Txn)(x y:Nat):noE x y=iC H 0 0 x y:=by simp[noE,iC]
theorem DW(H:List Txn)(b x y:Nat):iC H b b x y=iC H (b+1) 0 x y:=by
 unfold iC soE;rw[Bool.eq_iff_iff];simp;omega
theorem GH{H:List Txn}{n x y:Nat}(hy:y<n):iC H n 0 x y=soE H x y:=by simp[iC,hy]
theorem GI{H:List Txn}{b a:Nat}(hab:a<b)(hs:(aG H a).dh=(aG H b).dh)(x y:Nat):sD (iC H b a) (a:Int) (b:Int) x y=iC H b (a+1) x y:=by
 unfold sD;rw[if_pos ⟨by omega,by omega⟩];simp only[Int.toNat_natCast,orE,iO,iC];by_cases e1:y=b
 ·by_cases e2:x=a
  ·subst e1 e2;simp[soE,hab,hs]
  ·have:decide (x<a+1)=decide (x<a):=(by simp;omega);simp[e2,this]
 ·simp[e1]
theorem JR{H:List Txn}{b a:Nat}(hs:(aG H a).dh≠(aG H b).dh)(x y:Nat):iC H b a x y=iC H b (a+1) x y:=by
 unfold iC;by_cases e1:y=b
 ·by_cases e2:x=a
  ·subst e1 e2;simp[soE,hs]
  ·have:decide (x<a+1)=decide (x<a):=(by simp;omega);simp[this]
 ·simp[e1]
set_option maxRecDepth 100000 in
theorem LP(A:Option Addr)(c:Nat)(H:List Txn)(h32:H.length≤32)(Bh Bg base:Nat)(K:Nat→Prop)(w:World)(hT:av w K (.slice A H.length c) H)(hBh:Blk w Bh 24 #[.slice A H.length c])(hK:∀b,K b→b<base)(hB:Bh<base)(hBg:base≤Bg)(aU:dH w Bg base H.length noE)(hbw:base≤w.heap.size):
 Calls Tryz.prog 223 #[.func (.func 258) #[] #[.pointer (some ⟨Bg,0,none⟩)],.pointer (some ⟨Bh,0,none⟩)] w fun e w'=>e= .returned (.tuple #[])∧dH w' Bg base H.length (soE H)∧w.grownBy w' (some Bg):=by
 have c0:=Blk.n0 hBh;replace hT:=hide hT;replace aU:=hide (aU.congr fun a b _ _=>BL H a b);have hK0:Hid (∀w',w.grownBy w' (some Bg)→Agree K w w'):=hide fun w' hg=>Agree.jH hg (fun b hb=>Nat.lt_of_lt_of_le (hK b hb) hBg) (Nat.le_of_lt aU.out.lt);replace hK:=hide hK;go_enter Tryz.func223,Tryz.ntmps223;go_wp2_with fail;clear c0;go_loopw [10] (fun s10 wr=>∃b:Nat,b≤H.length∧s10= .int .i64 b∧dH wr Bg base H.length (iC H b 0)∧w.grownBy wr (some Bg)) (fun s10 _=>H.length-(intOf s10).toNat);case atStart=>exact⟨0,Nat.zero_le _,by go_num,aU.out,World.grownBy.refl _ _⟩
 case round=>
  clear aU;obtain⟨Wo,rfl⟩:∃Wo,Wo=wr:=⟨_,rfl⟩;obtain⟨b,hb,rfl,aU,hgw⟩:=hrel;have hi1:(0:Int)≤(b:Int):=Int.natCast_nonneg _;by_cases hlt:b<H.length
  ·have hi2:(b:Int)<(H.length:Int):=(by omega);have hag:=hK0.out Wo hgw;obtain⟨ba,oa,Aw,cw,Ar,cr,rfl,hKb,d0,d1,d2,_,_⟩:=av.at_ (av.keep hT.out hag (fun b h=>h)) hlt;have hBo:=hBh.grown hgw (by simp;omega);have Nq:=hgw.size;have hty:=hide (aH hlt);generalize Ny:H[b]=ty at*;obtain⟨ys,yw,yr⟩:=ty;dsimp only at*;clear Ny;have P7:=aU.lt;have MS:Hid ((aG H b).dh=ys):=hide (by rw[hty.out]);obtain⟨W1,hW1⟩:∃W1,Wo.alloc (.cells #[.int .i64 ys,.slice Aw yw.length cw,.slice Ar yr.length cr] 109)=W1:=⟨_,rfl⟩;have kY:=Blk.newEq hW1;have hs1:=ay hW1;have hgw1:w.grownBy W1 (some Bg):=(by rw[←hW1];exact aj hgw (World.grownBy_alloc _ _ _));have BM:dH W1 Bg base H.length (iC H b 0):=(by rw[←hW1];exact aU.grown (r:=none) (World.grownBy_alloc _ _ _) (fun k e=>by cases e));have hB1:=hBo.au hW1;have b0:=Blk.n0 hB1;have hHc:H.length≤c:=by
    obtain⟨_,_,e,h2⟩:=SlR.len hT.out;injection e with e1 e2 e3
    omega
   have hbc:b≤c:=(by omega);have hbc2:(b:Int)≤(c:Int):=(by omega);go_wp2_with fail;clear d0 d1 d2 b0 aU hgw hBo hag hW1;go_loopw [20] (fun s20 wq=>∃a:Nat,a≤b∧s20= .int .i64 a∧dH wq Bg base H.length (iC H b a)∧W1.grownBy wq (some Bg)) (fun s20 _=>b-(intOf s20).toNat);case atStart=>exact⟨0,Nat.zero_le _,by go_num,BM,World.grownBy.refl _ _⟩
   case round=>
    clear BM;obtain⟨a,ha,rfl,aU,hgq⟩:=hrel;have ha1:(0:Int)≤(a:Int):=Int.natCast_nonneg _;have LQ:=aj hgw1 hgq;by_cases hlt2:a<b
    ·have ha2:(a:Int)<(b:Int):=(by omega);have ha3:(a:Int)<(H.length:Int):=(by omega);have hag:=hK0.out _ LQ;obtain⟨_,_,Aw',cw',Ar',cr',e,_,d0,d1,d2,_,_⟩:=av.at_ (i:=a) (av.keep hT.out hag (fun b h=>h)) (by omega);injection e with e
     injection e with e1 e2
     subst e1 e2;have htx:=hide (aH (H:=H) (t:=a) (by omega));generalize Ny:H[a]=tx at*;obtain⟨xs,xw,xr⟩:=tx;dsimp only at*;clear Ny;have hsx:Hid ((aG H a).dh=xs):=hide (by rw[htx.out]);have kYq:=kY.grown hgq (by simp;omega);obtain⟨W2,hW2⟩:∃W2,wr.alloc (.cells #[.int .i64 xs,.slice Aw' xw.length cw',.slice Ar' xr.length cr'] 109)=W2:=⟨_,rfl⟩;have kX:=Blk.newEq hW2;have kY2:=kYq.au hW2;have GJ:W1.grownBy W2 (some Bg):=(by rw[←hW2];exact aj hgq (World.grownBy_alloc _ _ _));have Fv:dH W2 Bg base H.length (iC H b a):=(by rw[←hW2];exact aU.grown (r:=none) (World.grownBy_alloc _ _ _) (fun k e=>by cases e));have x0:=Blk.n0 kX;have y0:=Blk.n0 kY2;have hsz2:base≤W2.heap.size:=(by have:=(aj hgw1 GJ).size;omega);by_cases hs:xs=ys
     ·have hsb:(xs==ys)=true:=(by simpa using hs);have hst:=hide (fun x y=>GI (H:=H) (b:=b) (a:=a) hlt2 (by rw[hsx.out,MS.out];exact hs) x y);clear hs;go_wp2_with fail;clear d0 d1 d2 x0 y0 hW2;refine(pI H.length (by omega) _ (a:Int) (b:Int) ha3 hi1 hi2 Bg base _ Fv hsz2).mono ?_;rintro e w5 ⟨rfl,qN,hg5⟩;go_wp2;go_roundw;case rel=>exact⟨a+1,by omega,by go_num,qN.congr fun x y _ _=>hst.out x y,aj GJ hg5⟩
      case measure=>simp[intOf];omega
     ·have hsb:(xs==ys)=false:=(by simpa using hs);have hst:=hide (fun x y=>JR (H:=H) (b:=b) (a:=a) (by rw[hsx.out,MS.out];exact hs) x y);clear hs;go_wp2;go_roundw;case rel=>exact⟨a+1,by omega,by go_num,Fv.congr fun x y _ _=>hst.out x y,GJ⟩
      case measure=>simp[intOf];omega
    ·obtain rfl:a=b:=(by omega);go_wp2;go_roundw;case rel=>exact⟨a+1,by omega,by go_num,aU.congr fun x y _ _=>DW H a x y,LQ⟩
     case measure=>simp[intOf];omega
  ·obtain rfl:b=H.length:=(by omega);go_wp2
   go_end0
   exact⟨rfl,aU.congr fun x y _ hy=>GH hy,hgw⟩
set_option maxRecDepth 100000 in
theorem JU(A:Option Addr)(c:Nat)(H:List Txn)(w:World)(h:av w (Old w) (.slice A H.length c) H)(hn:aC H)(hr:aA H=true):
 Calls Tryz.prog 164 #[.agg #[.slice A H.length c]] w (lZ w H.length (soE H)):=by
 obtain⟨W0,hW0⟩:∃W0,(w.alloc (.cells #[.slice A H.length c] 24)).alloc (.cells #[.int .i64 0,.slice none 0 0] 77)=W0:=⟨_,rfl⟩;have hB:=aQ hW0;have k0:=Blk.j6 hW0;have k1:=Blk.jd hW0;have hs0:=size_two hW0;have h0:=h.below hB;have h32:H.length≤32:=((aD H).1 hr).1;have hcall:=hide (pJ 223 (enters_of Tryz.func223 (by kernel_rfl) rfl) #[.pointer (some ⟨w.heap.size,0,none⟩)] A c H (soE H) W0 h0 hn hr (fun W Bg hbW aU hBg=>by
  have JV:Below w.heap.size w W:=hB.trans (hbW.mono (by omega));exact(LP A c H h32 w.heap.size Bg W0.heap.size (Old w) W (av.keep h (Agree.below JV fun b h=>h) (fun b h=>h)) (k0.below hbW k0.lt) (fun b hb=>by have:b<w.heap.size:=hb;omega) (by omega) (by omega) aU hbW.size).mono fun e w' hh=>hh))
 have c0:=Blk.n0 k0;replace hs0:=hide hs0;go_enter Tryz.func164,Tryz.ntmps164;go_wp2_with fail;clear hW0 c0;refine hcall.out.mono ?_;rintro e w4 ⟨g,hg,rfl,kR,hb4⟩;have nZ:g≠w.heap.size+1:=(by have:=hs0.out;omega);have k14:=k1.below hb4 k1.lt;have hb5:=hB.trans (hb4.mono (by have:=hs0.out;omega));have j0:=Blk.n0 k14;have j1:=Blk.n1 k14;have jf:=k14.frozen 0;have jf1:=k14.frozen 1;have hgw:w.heap.size≤g:=(by have:=hs0.out;omega);clear hcall;go_wp2;have kF0:=((kR.far (p:=⟨w.heap.size+1,0,none⟩) nZ (.int .i64 H.length)).far (p:=⟨w.heap.size+1,1,none⟩) nZ (.slice (some ⟨g,0,none⟩) H.length H.length));have hF:=((hb5.setCell (p:=⟨w.heap.size+1,0,none⟩) (by simp) (.int .i64 H.length)).setCell (p:=⟨w.heap.size+1,1,none⟩) (by simp) (.slice (some ⟨g,0,none⟩) H.length H.length));exact bodyPost_ret (v:= .agg #[.int .i64 H.length,.slice (some ⟨g,0,none⟩) H.length H.length]) (by simp[results,Tryz.results164,go_sem,j0,j1]) rfl ⟨g,hgw,rfl,kF0,hF⟩
def jM(H:List Txn)(b j:Nat):ak:=fun x y=>(decide (y<b)&&wrE H x y)||(decide (y=b)&&decide (x≠y)&&((aG H b).reads.take j).any fun r=>decide (r.b=(x:Int)))
theorem BN(H:List Txn)(x y:Nat):noE x y=jM H 0 0 x y:=by simp[noE,jM]
theorem DX(H:List Txn)(b x y:Nat):jM H b (aG H b).reads.length x y=jM H (b+1) 0 x y:=by
 unfold jM;rw[List.take_length];by_cases e:y=b
 ·subst e;simp[wrE]
 ·have:decide (y<b+1)=decide (y<b):=(by simp;omega);simp[e,this]
theorem GK{H:List Txn}{n x y:Nat}(hy:y<n):jM H n 0 x y=wrE H x y:=by simp[jM,hy]
theorem DY{H:List Txn}{b j:Nat}(hj:j<(aG H b).reads.length)(x y:Nat):sD (jM H b j) (aG H b).reads[j].b (b:Int) x y=jM H b (j+1) x y:=by
 have ht:(aG H b).reads.take (j+1)=(aG H b).reads.take j++[(aG H b).reads[j]]:=take_snoc' hj;unfold jM;rw[ht];generalize(aG H b).reads[j]=r;generalize(aG H b).reads.take j=l;rw[List.any_append];simp only[List.any_cons,List.any_nil,Bool.or_false];unfold sD;split
 ·rename_i h;simp only[orE,iO,Int.toNat_natCast];by_cases e1:y=b
  ·subst e1;by_cases e2:x=r.b.toNat
   ·have e3:r.b=(x:Int):=(by omega);have e4:x≠y:=(by omega);rw[decide_eq_true e2,decide_eq_true e3,decide_eq_true e4];simp
   ·have e3:¬r.b=(x:Int):=(by omega);simp[e2,e3]
  ·simp[e1]
 ·rename_i h;by_cases e1:y=b
  ·subst e1;by_cases e2:x=y
   ·simp[e2]
   ·have e3:¬r.b=(x:Int):=fun e=>h ⟨by omega,by omega⟩;simp[e2,e3]
  ·simp[e1]
theorem DZ{H:List Txn}(hr:aA H=true){b:Nat}(hb:b<H.length):∀r∈(aG H b).reads,r.b<(H.length:Int):=by
 rw[aH hb];intro r h;rcases(fG _ _ _).1 ((((aD H).1 hr).2 b hb).there r h)with e|⟨k,hk,e,_,_⟩<;>omega
set_option maxRecDepth 100000 in
theorem LU(A:Option Addr)(c:Nat)(H:List Txn)(hr:aA H=true)(hn:aC H)(Bh Bg base:Nat)(K:Nat→Prop)(w:World)(hT:av w K (.slice A H.length c) H)(hBh:Blk w Bh 24 #[.slice A H.length c])(hK:∀b,K b→b<base)(hB:Bh<base)(hBg:base≤Bg)(aU:dH w Bg base H.length noE)(hbw:base≤w.heap.size):
 Calls Tryz.prog 224 #[.func (.func 258) #[] #[.pointer (some ⟨Bg,0,none⟩)],.pointer (some ⟨Bh,0,none⟩)] w fun e w'=>e= .returned (.tuple #[])∧dH w' Bg base H.length (wrE H)∧w.grownBy w' (some Bg):=by
 have c0:=Blk.n0 hBh;have h32:H.length≤32:=((aD H).1 hr).1;have hfr:=hide (fun b (hb:b<H.length)=>DZ hr hb);have hrl:=hide (fun i (hi:i<H.length)=>(hn.2 _ (List.getElem_mem hi)).2);replace hr:=hide hr;replace hn:=hide hn;replace hT:=hide hT;replace aU:=hide (aU.congr fun a b _ _=>BN H a b);have hK0:Hid (∀w',w.grownBy w' (some Bg)→Agree K w w'):=hide fun w' hg=>Agree.jH hg (fun b hb=>Nat.lt_of_lt_of_le (hK b hb) hBg) (Nat.le_of_lt aU.out.lt);have hKg:Hid (∀b,K b→b<w.heap.size∧b<Bg):=hide fun b hb=>(by have:=hK b hb;omega);replace hK:=hide hK;go_enter Tryz.func224,Tryz.ntmps224;go_wp2_with fail;clear c0;go_loopw [10] (fun s10 wr=>∃b:Nat,b≤H.length∧s10= .int .i64 b∧dH wr Bg base H.length (jM H b 0)∧w.grownBy wr (some Bg)) (fun s10 _=>H.length-(intOf s10).toNat);case atStart=>exact⟨0,Nat.zero_le _,by go_num,aU.out,World.grownBy.refl _ _⟩
 case round=>
  clear aU;obtain⟨Wo,rfl⟩:∃Wo,Wo=wr:=⟨_,rfl⟩;obtain⟨b,hb,rfl,aU,hgw⟩:=hrel;have hi1:(0:Int)≤(b:Int):=Int.natCast_nonneg _;by_cases hlt:b<H.length
  ·have hi2:(b:Int)<(H.length:Int):=(by omega);have hag:=hK0.out Wo hgw;obtain⟨ba,oa,Aw,cw,Ar,cr,rfl,hKb,d0,d1,d2,_,hrs⟩:=av.at_ (av.keep hT.out hag (fun b h=>h)) hlt;have Nq:=hgw.size;have hty:=hide (aH hlt);have Rj:=hrl.out b hlt;have OL:=hide (hfr.out b hlt);have OM:=hide (fun j hj=>DY (H:=H) (b:=b) (j:=j) hj);have OO:=hide (DX H b);rw[hty.out]at OL OM OO;generalize H[b]=ty at*;obtain⟨ys,yw,yr⟩:=ty;dsimp only at*;have P7:=aU.lt;obtain⟨W1,hW1⟩:∃W1,Wo.alloc (.cells #[.int .i64 ys,.slice Aw yw.length cw,.slice Ar yr.length cr] 109)=W1:=⟨_,rfl⟩;have kY:=Blk.newEq hW1;have P8:Bg≤W1.heap.size:=(by rw[ay hW1];omega);have hgw1:w.grownBy W1 (some Bg):=(by rw[←hW1];exact aj hgw (World.grownBy_alloc _ _ _));have BM:dH W1 Bg base H.length (jM H b 0):=(by rw[←hW1];exact aU.grown (r:=none) (World.grownBy_alloc _ _ _) (fun k e=>by cases e));have y2:=Blk.n2 kY;have P9:=hide (hrs.keep (Agree.au hW1 (fun b hb=>by have:=(hKg.out b hb).1;omega)) (fun b h=>h));go_wp2_with fail;clear d0 d1 d2 aU hgw hag y2 hrs hW1;go_loopw [18] (fun s18 wq=>∃j:Nat,j≤yr.length∧s18= .int .i64 j∧dH wq Bg base H.length (jM H b j)∧W1.grownBy wq (some Bg)) (fun s18 _=>yr.length-(intOf s18).toNat);case atStart=>exact⟨0,Nat.zero_le _,by go_num,BM,World.grownBy.refl _ _⟩
   case round=>
    clear BM;obtain⟨j,hj,rfl,aU,hgq⟩:=hrel;have ha1:(0:Int)≤(j:Int):=Int.natCast_nonneg _;have LQ:=aj hgw1 hgq;by_cases hlt2:j<yr.length
    ·have ha2:(j:Int)<(yr.length:Int):=(by omega);obtain⟨br,orr,rfl,_,z0,z1⟩:=ItS.at_ (P9.out.keep (Agree.jH hgq (fun b hb=>(hKg.out b hb).2) P8) (fun b h=>h)) hlt2;have hst:=hide (OM.out j hlt2);have hfx:=OL.out _ (List.getElem_mem hlt2);generalize yr[j]=x at*;obtain⟨xa,xb⟩:=x;dsimp only at*;obtain⟨W2,hW2⟩:∃W2,wr.alloc (.cells #[.int .i64 xa,.int .i64 xb] 106)=W2:=⟨_,rfl⟩;have kX:=Blk.newEq hW2;have GJ:W1.grownBy W2 (some Bg):=(by rw[←hW2];exact aj hgq (World.grownBy_alloc _ _ _));have Fv:dH W2 Bg base H.length (jM H b j):=(by rw[←hW2];exact aU.grown (r:=none) (World.grownBy_alloc _ _ _) (fun k e=>by cases e));have x1:=Blk.n1 kX;have hsz2:base≤W2.heap.size:=(by have:=(aj hgw1 GJ).size;omega);go_wp2_with fail;clear z0 z1 x1 hW2;refine(pI H.length (by omega) _ xb (b:Int) hfx hi1 hi2 Bg base _ Fv hsz2).mono ?_;rintro e w5 ⟨rfl,qN,hg5⟩;go_wp2;go_roundw;case rel=>exact⟨j+1,by omega,by go_num,qN.congr fun x y _ _=>hst.out x y,aj GJ hg5⟩
     case measure=>simp[intOf];omega
    ·obtain rfl:j=yr.length:=(by omega);go_wp2;go_roundw;case rel=>exact⟨b+1,by omega,by go_num,aU.congr fun x y _ _=>OO.out x y,LQ⟩
     case measure=>simp[intOf];omega
  ·obtain rfl:b=H.length:=(by omega);go_wp2
   go_end0
   exact⟨rfl,aU.congr fun x y _ hy=>GK hy,hgw⟩
set_option maxRecDepth 100000 in
theorem JW(A:Option Addr)(c:Nat)(H:List Txn)(w:World)(h:av w (Old w) (.slice A H.length c) H)(hn:aC H)(hr:aA H=true):
 Calls Tryz.prog 165 #[.agg #[.slice A H.length c]] w (lZ w H.length (wrE H)):=by
 obtain⟨W0,hW0⟩:∃W0,(w.alloc (.cells #[.slice A H.length c] 24)).alloc (.cells #[.int .i64 0,.slice none 0 0] 77)=W0:=⟨_,rfl⟩;have hB:=aQ hW0;have k0:=Blk.j6 hW0;have k1:=Blk.jd hW0;have hs0:=size_two hW0;have h0:=h.below hB;have h32:H.length≤32:=((aD H).1 hr).1;have hcall:=hide (pJ 224 (enters_of Tryz.func224 (by kernel_rfl) rfl) #[.pointer (some ⟨w.heap.size,0,none⟩)] A c H (wrE H) W0 h0 hn hr (fun W Bg hbW aU hBg=>by
  have JV:Below w.heap.size w W:=hB.trans (hbW.mono (by omega));exact(LU A c H hr hn w.heap.size Bg W0.heap.size (Old w) W (av.keep h (Agree.below JV fun b h=>h) (fun b h=>h)) (k0.below hbW k0.lt) (fun b hb=>by have:b<w.heap.size:=hb;omega) (by omega) (by omega) aU hbW.size).mono fun e w' hh=>hh))
 have c0:=Blk.n0 k0;replace hs0:=hide hs0;go_enter Tryz.func165,Tryz.ntmps165;go_wp2_with fail;clear hW0 c0;refine hcall.out.mono ?_;rintro e w4 ⟨g,hg,rfl,kR,hb4⟩;have nZ:g≠w.heap.size+1:=(by have:=hs0.out;omega);have k14:=k1.below hb4 k1.lt;have hb5:=hB.trans (hb4.mono (by have:=hs0.out;omega));have j0:=Blk.n0 k14;have j1:=Blk.n1 k14;have jf:=k14.frozen 0;have jf1:=k14.frozen 1;have hgw:w.heap.size≤g:=(by have:=hs0.out;omega);clear hcall;go_wp2;have kF0:=((kR.far (p:=⟨w.heap.size+1,0,none⟩) nZ (.int .i64 H.length)).far (p:=⟨w.heap.size+1,1,none⟩) nZ (.slice (some ⟨g,0,none⟩) H.length H.length));have hF:=((hb5.setCell (p:=⟨w.heap.size+1,0,none⟩) (by simp) (.int .i64 H.length)).setCell (p:=⟨w.heap.size+1,1,none⟩) (by simp) (.slice (some ⟨g,0,none⟩) H.length H.length));exact bodyPost_ret (v:= .agg #[.int .i64 H.length,.slice (some ⟨g,0,none⟩) H.length H.length]) (by simp[results,Tryz.results165,go_sem,j0,j1]) rfl ⟨g,hgw,rfl,kF0,hF⟩
def neL(l:List (Nat×Nat)):ak:=fun x y=>decide (x≠y)&&l.contains (x,y)
theorem LV(x y:Nat):noE x y=neL [] x y:=by simp[noE,neL]
theorem JX(l:List (Nat×Nat))(a b x y:Nat):sD (neL l) (a:Int) (b:Int) x y=neL (l++[(a,b)]) x y:=by
 unfold sD;have hc:(l++[(a,b)]).contains (x,y)=(l.contains (x,y)||(decide (x=a)&&decide (y=b))):=by
  rw[Bool.eq_iff_iff];simp
 split
 ·rename_i h;simp only[orE,iO,neL,Int.toNat_natCast,hc];by_cases e1:x=a
  ·by_cases e2:y=b
   ·have:x≠y:=(by omega);simp[e1,e2,this];omega
   ·simp[e2]
  ·simp[e1]
 ·rename_i h;simp only[neL,hc];have hab:a=b:=(by omega);by_cases e1:x=a
  ·by_cases e2:y=b
   ·have:x=y:=(by omega);simp[this]
   ·simp[e2]
  ·simp[e1]
def qO(wr:List Nat)(rd:List Nat):List (Nat×Nat):=(rd.map fun a=>wr.map fun b=>(a,b)).flatten
def Nz(H:List Txn)(key:Int):List (Nat×Nat):=qO (aY H key) (xV H key (-1))
def jN(H:List Txn)(k:Nat):List (Nat×Nat):=(((bQ H).take k).map (Nz H)).flatten
theorem D5{H:List Txn}{k:Nat}(h:k<(bQ H).length):jN H (k+1)=jN H k++Nz H (bQ H)[k]:=by
 unfold jN;rw[List.take_succ_eq_append_getElem h,List.map_append,List.flatten_append];simp
theorem GL(wr:List Nat){rd:List Nat}{i:Nat}(h:i<rd.length):qO wr (rd.take (i+1))=qO wr (rd.take i)++wr.map fun b=>(rd[i],b):=by
 unfold qO;rw[List.take_succ_eq_append_getElem h,List.map_append,List.flatten_append];simp
theorem BO{wr rd:List Nat}{a b:Nat}:(a,b)∈qO wr rd↔a∈rd∧b∈wr:=by
 unfold qO;rw[List.mem_flatten];constructor
 ·rintro⟨l,hl,h⟩;obtain⟨x,hx,rfl⟩:=List.mem_map.1 hl;obtain⟨y,hy,e⟩:=List.mem_map.1 h;injection e with e1 e2
  subst e1 e2;exact⟨hx,hy⟩
 ·rintro⟨ha,hb⟩;exact⟨_,List.mem_map.2 ⟨a,ha,rfl⟩,List.mem_map.2 ⟨b,hb,rfl⟩⟩
theorem GN{H:List Txn}{x y:Nat}(hx:x<H.length)(hy:y<H.length):neL (jN H (bQ H).length) x y=j4 H x y:=by
 unfold neL jN;rw[List.take_length,Bool.eq_iff_iff,F7 hx hy,Bool.and_eq_true,decide_eq_true_iff,List.contains_iff_mem,List.mem_flatten];constructor
 ·rintro⟨h1,l,hl,h⟩;obtain⟨k,hk,rfl⟩:=List.mem_map.1 hl;obtain⟨h2,h3⟩:=BO.1 h;exact⟨h1,k,hk,h2,h3⟩
 ·rintro⟨h1,k,hk,h2,h3⟩;exact⟨h1,_,List.mem_map.2 ⟨k,hk,rfl⟩,BO.2 ⟨h2,h3⟩⟩
theorem JY{H:List Txn}(hn:aC H)(hr:aA H=true)(key src:Int):(xV H key src).length≤32000000:=by
 rw[←Br];unfold ku;rw[List.length_map];exact Nat.le_trans (List.length_filter_le _ _) (vJ hn hr)
set_option maxRecDepth 100000 in
theorem GQ(A:Option Addr)(c:Nat)(H:List Txn)(hr:aA H=true)(hn:aC H)(Bh Bg base:Nat)(K:Nat→Prop)(w:World)(hT:av w K (.slice A H.length c) H)(hBh:Blk w Bh 24 #[.slice A H.length c])(hK:∀b,K b→b<base)(hB:Bh<base)(hBg:base≤Bg)(aU:dH w Bg base H.length noE)(hbw:base≤w.heap.size):
 Calls Tryz.prog 225 #[.func (.func 258) #[] #[.pointer (some ⟨Bg,0,none⟩)],.pointer (some ⟨Bh,0,none⟩)] w fun e w'=>e= .returned (.tuple #[])∧dH w' Bg base H.length (j4 H)∧w.grownBy w' (some Bg):=by
 have c0:=Blk.n0 hBh;have h32:H.length≤32:=((aD H).1 hr).1;have hBl:Bg<w.heap.size:=aU.lt;have hkw:Hid (∀b,K b→b<w.heap.size):=hide fun b hb=>(by have:=hK b hb;omega);have hkg:Hid (∀b,K b→b<Bg):=hide fun b hb=>(by have:=hK b hb;omega);replace hr:=hide hr;replace hn:=hide hn;have hTo:=hT.fit (K':=Old w) (fun b hb=>hkw.out b hb);replace hT:=hide hT;replace aU:=hide (aU.congr fun a b _ _=>LV a b);have hT0:Hid (∀w',w.grownBy w' (some Bg)→av w' (Old w') (.slice A H.length c) H):=hide fun w' hg=>av.keep hT.out (Agree.jH hg hkg.out (Nat.le_of_lt hBl)) (fun b hb=>Nat.lt_of_lt_of_le (hkw.out b hb) hg.size);replace hK:=hide hK;go_enter Tryz.func225,Tryz.ntmps225;go_wp2_with fail;clear c0;refine(yT A c H _ hTo hn.out hr.out).mono ?_;rintro e wk ⟨vk,rfl,hKO,hbk⟩;obtain⟨Ak,ck,rfl⟩:=hKO.form;have hKS:=hide (hKO.sl (K:=fun b=>w.heap.size≤b∧b<wk.heap.size) (fun g h1 h2=>⟨h1,h2⟩));have MU:=aU.out.below hbk;have hgk:=aX hbk (r:=some Bg) (Nat.le_refl _);have PW:=jI hr.out;have hstp:=hide (fun k (hk:k<(bQ H).length)=>D5 hk);have hall:=hide (fun x y (hx:x<H.length) (hy:y<H.length)=>GN hx hy);clear hKO aU hTo;generalize hKL:bQ H=KL at*;clear hKL;go_wp2_with fail;go_loopw [12] (fun s12 wr=>∃k:Nat,k≤KL.length∧s12= .int .i64 k∧dH wr Bg base H.length (neL (jN H k))∧wk.grownBy wr (some Bg)) (fun s12 _=>KL.length-(intOf s12).toNat);case atStart=>exact⟨0,Nat.zero_le _,by go_num,MU,World.grownBy.refl _ _⟩
 case round=>
  clear MU hbk;obtain⟨Wo,rfl⟩:∃Wo,Wo=wr:=⟨_,rfl⟩;obtain⟨k,hk,rfl,aU,hgw⟩:=hrel;have hi1:(0:Int)≤(k:Int):=Int.natCast_nonneg _;have hgo:=aj hgk hgw;have Nq:=hgo.size;have PX:=hgw.size;by_cases hlt:k<KL.length
  ·have hi2:(k:Int)<(KL.length:Int):=(by omega);obtain⟨bk,ok,rfl,_,hck⟩:=(hKS.out.keep (Agree.grown hgw fun b hb=>⟨hb.2,by have:=hb.1;simp;omega⟩) (fun b h=>h)).at_ hlt;have hst:=hide (hstp.out k hlt);have hBo:=hBh.grown hgo (by simp;omega);have b0:=Blk.n0 hBo;generalize KL[k]=key at*;unfold Nz at hst;go_wp2_with fail;clear b0 hck;refine(zM A c H key (-1) _ (hT0.out _ hgo) hn.out hr.out).mono ?_;rintro e wd ⟨vd,rfl,hDO,hbd⟩;have hDm:=hide (fun a (ha:a∈xV H key (-1))=>(uY.1 ha).1);have hDl:=JY hn.out hr.out key (-1);generalize xV H key (-1)=D at*;obtain⟨Ad,cd,hv⟩:=hDO.form;rw[aF]at hv;subst hv;have hDS:=hide (hDO.sl (K:=fun b=>Wo.heap.size≤b∧b<wd.heap.size) (fun g h1 h2=>⟨h1,h2⟩));have MV:=aU.below hbd;have hgd:=aj hgo (aX hbd (r:=some Bg) (Nat.le_refl _));have hgd2:=aj hgw (aX hbd (r:=some Bg) (Nat.le_refl _));have Rk:=hbd.size;have hW0:Hid (neL (jN H k)=neL (jN H k++qO (aY H key) (D.take 0))):=hide (by simp[qO]);clear hDO hbd aU hgw hgo hBo;go_wp2_with fail;go_loopw [20] (fun s20 wr=>∃i:Nat,i≤D.length∧s20= .int .i64 i∧dH wr Bg base H.length (neL (jN H k++qO (aY H key) (D.take i)))∧wd.grownBy wr (some Bg)) (fun s20 _=>D.length-(intOf s20).toNat);case atStart=>exact⟨0,Nat.zero_le _,by go_num,by rw[←hW0.out];exact MV,World.grownBy.refl _ _⟩
   case round=>
    clear MV hW0;obtain⟨Wp,rfl⟩:∃Wp,Wp=wr:=⟨_,rfl⟩;obtain⟨i,hi,rfl,aU,hgw⟩:=hrel;have hj1:(0:Int)≤(i:Int):=Int.natCast_nonneg _;have hgo:=aj hgd hgw;by_cases hlt2:i<D.length
    ·have hj2:(i:Int)<(D.length:Int):=(by omega);obtain⟨bd,od,rfl,_,hcd⟩:=(hDS.out.keep (Agree.grown hgw fun b hb=>⟨hb.2,by have:=hb.1;simp;omega⟩) (fun b h=>h)).at_ (i:=i) (by rw[aF];exact hlt2);rw[jg hlt2]at hcd;have Qa:=hide (GL (aY H key) hlt2);have ham:=hDm.out _ (List.getElem_mem hlt2);generalize D[i]=a at*;have hBo:=hBh.grown hgo (by simp;omega);have b0:=Blk.n0 hBo;go_wp2_with fail;clear b0 hcd;refine(qK A c H key _ (hT0.out _ hgo) hn.out hr.out).mono ?_;rintro e wl ⟨vl,rfl,hLO,hbl⟩;have hLm:=hide (fun b (hb:b∈aY H key)=>(bB.1 hb).1);have hLl:=mO H key;generalize hLe:aY H key=L at*;replace hLe:=hide hLe;obtain⟨Al,cl,hv⟩:=hLO.form;rw[aF]at hv;subst hv;have hLS:=hide (hLO.sl (K:=fun b=>Wp.heap.size≤b∧b<wl.heap.size) (fun g h1 h2=>⟨h1,h2⟩));have MW:=aU.below hbl;have hgl:=aj hgw (aX hbl (r:=some Bg) (Nat.le_refl _));have Qb:=aj hgo (aX hbl (r:=some Bg) (Nat.le_refl _));have LC:=Qb.size;have Gt:=hgo.size;have hM0:Hid (neL (jN H k++qO L (D.take i))=neL (jN H k++qO L (D.take i)++(L.take 0).map fun b=>(a,b))):=hide (by simp);clear hLO hbl aU hgw hgo hBo;go_wp2_with fail;go_loopw [28] (fun s28 wr=>∃j:Nat,j≤L.length∧s28= .int .i64 j∧dH wr Bg base H.length (neL (jN H k++qO L (D.take i)++(L.take j).map fun b=>(a,b)))∧wl.grownBy wr (some Bg)) (fun s28 _=>L.length-(intOf s28).toNat);case atStart=>exact⟨0,Nat.zero_le _,by go_num,by rw[←hM0.out];exact MW,World.grownBy.refl _ _⟩
     case round=>
      clear MW hM0;obtain⟨j,hj,rfl,aU,hgw⟩:=hrel;have hjj:(0:Int)≤(j:Int):=Int.natCast_nonneg _;by_cases hlt3:j<L.length
      ·have hj3:(j:Int)<(L.length:Int):=(by omega);obtain⟨bl,ol,rfl,_,hcl⟩:=(hLS.out.keep (Agree.grown hgw fun b hb=>⟨hb.2,by have:=hb.1;simp;omega⟩) (fun b h=>h)).at_ (i:=j) (by rw[aF];exact hlt3);rw[jg hlt3]at hcl;have htk:=hide (take_snoc' hlt3);have hbm:=hLm.out _ (List.getElem_mem hlt3);generalize L[j]=b at*;have hb0:(0:Int)≤(b:Int):=Int.natCast_nonneg _;have hb1:(b:Int)<(H.length:Int):=(by omega);have ha1:(a:Int)<(H.length:Int):=(by omega);have LK:=hgw.size;have Qc:base≤wr.heap.size:=(by omega);have hM2:Hid (jN H k++qO L (D.take i)++(L.take (j+1)).map (fun b=>(a,b))=(jN H k++qO L (D.take i)++(L.take j).map fun b=>(a,b))++[(a,b)]):=hide (by rw[htk.out,List.map_append,←List.append_assoc];rfl);go_wp2_with fail;clear hcl;refine(pI H.length (by omega) _ (a:Int) (b:Int) ha1 hb0 hb1 Bg base _ aU Qc).mono ?_;rintro e w5 ⟨rfl,qN,hg5⟩;go_wp2;go_roundw;case rel=>exact⟨j+1,by omega,by go_num,by rw[hM2.out];exact qN.congr fun x y _ _=>JX _ a b x y,aj hgw hg5⟩
       case measure=>simp[intOf];omega
      ·obtain rfl:j=L.length:=(by omega);rw[List.take_length,List.append_assoc,←Qa.out]at aU;go_wp2;go_roundw;case rel=>exact⟨i+1,by omega,by go_num,by rw[hLe.out];exact aU,aj hgl hgw⟩
       case measure=>simp[intOf];omega
    ·obtain rfl:i=D.length:=(by omega);rw[List.take_length,←hst.out]at aU;go_wp2;go_roundw;case rel=>exact⟨k+1,by omega,by go_num,aU,aj hgd2 hgw⟩
     case measure=>simp[intOf];omega
  ·obtain rfl:k=KL.length:=(by omega);go_wp2
   go_end0
   exact⟨rfl,aU.congr fun x y hx hy=>hall.out x y hx hy,aj hgk hgw⟩
set_option maxRecDepth 100000 in
theorem D6(A:Option Addr)(c:Nat)(H:List Txn)(w:World)(h:av w (Old w) (.slice A H.length c) H)(hn:aC H)(hr:aA H=true):
 Calls Tryz.prog 168 #[.agg #[.slice A H.length c]] w (lZ w H.length (j4 H)):=by
 obtain⟨W0,hW0⟩:∃W0,(w.alloc (.cells #[.slice A H.length c] 24)).alloc (.cells #[.int .i64 0,.slice none 0 0] 77)=W0:=⟨_,rfl⟩;have hB:=aQ hW0;have k0:=Blk.j6 hW0;have k1:=Blk.jd hW0;have hs0:=size_two hW0;have h0:=h.below hB;have h32:H.length≤32:=((aD H).1 hr).1;have hcall:=hide (pJ 225 (enters_of Tryz.func225 (by kernel_rfl) rfl) #[.pointer (some ⟨w.heap.size,0,none⟩)] A c H (j4 H) W0 h0 hn hr (fun W Bg hbW aU hBg=>by
  have JV:Below w.heap.size w W:=hB.trans (hbW.mono (by omega));exact(GQ A c H hr hn w.heap.size Bg W0.heap.size (Old w) W (av.keep h (Agree.below JV fun b h=>h) (fun b h=>h)) (k0.below hbW k0.lt) (fun b hb=>by have:b<w.heap.size:=hb;omega) (by omega) (by omega) aU hbW.size).mono fun e w' hh=>hh))
 have c0:=Blk.n0 k0;replace hs0:=hide hs0;go_enter Tryz.func168,Tryz.ntmps168;go_wp2_with fail;clear hW0 c0;refine hcall.out.mono ?_;rintro e w4 ⟨g,hg,rfl,kR,hb4⟩;have nZ:g≠w.heap.size+1:=(by have:=hs0.out;omega);have k14:=k1.below hb4 k1.lt;have hb5:=hB.trans (hb4.mono (by have:=hs0.out;omega));have j0:=Blk.n0 k14;have j1:=Blk.n1 k14;have jf:=k14.frozen 0;have jf1:=k14.frozen 1;have hgw:w.heap.size≤g:=(by have:=hs0.out;omega);clear hcall;go_wp2;have kF0:=((kR.far (p:=⟨w.heap.size+1,0,none⟩) nZ (.int .i64 H.length)).far (p:=⟨w.heap.size+1,1,none⟩) nZ (.slice (some ⟨g,0,none⟩) H.length H.length));have hF:=((hb5.setCell (p:=⟨w.heap.size+1,0,none⟩) (by simp) (.int .i64 H.length)).setCell (p:=⟨w.heap.size+1,1,none⟩) (by simp) (.slice (some ⟨g,0,none⟩) H.length H.length));exact bodyPost_ret (v:= .agg #[.int .i64 H.length,.slice (some ⟨g,0,none⟩) H.length H.length]) (by simp[results,Tryz.results168,go_sem,j0,j1]) rfl ⟨g,hgw,rfl,kF0,hF⟩
def yU(H:List Txn)(c:Cho):ak:=fun x y=>decide (c.b=(y:Int))&&decide (x≠y)&&(aG H x).reads.any fun r=>decide (r.a=c.key)&&decide (r.b=c.a)
theorem JZ(H:List Txn)(l:List Cho):rwE H l=fun x y=>j4 H x y||l.any fun c=>yU H c x y:=rfl
def kJ(H:List Txn)(l:List Cho)(c:Cho)(t:Nat):ak:=fun x y=>rwE H l x y||(decide (x<t)&&yU H c x y)
theorem D7(H:List Txn)(l:List Cho)(c:Cho):kJ H l c 0=rwE H l:=by funext x y;simp[kJ]
theorem GR(H:List Txn){l:List Cho}{k n:Nat}(hk:k<l.length){x y:Nat}(hx:x<n):kJ H (l.take k) l[k] n x y=rwE H (l.take (k+1)) x y:=by
 unfold kJ;rw[JZ,JZ,take_snoc' hk];simp only[List.any_append,List.any_cons,List.any_nil,Bool.or_false,decide_eq_true hx,Bool.true_and,Bool.or_assoc]
theorem GU{H:List Txn}{l:List Cho}{c:Cho}{t b:Nat}(hb:c.b=b)(hne:t≠b)(hs:((aG H t).reads.any fun r=>decide (r.a=c.key)&&decide (r.b=c.a))=true):orE (kJ H l c t) (iO t b)=kJ H l c (t+1):=by
 funext x y;unfold orE kJ iO;rw[Bool.or_assoc];congr 1;by_cases e1:x=t
 ·subst e1;by_cases e2:y=b
  ·subst e2;simp[yU,hb,hne,hs]
  ·have:decide (c.b=(y:Int))=false:=(by rw[hb];simp;omega);simp[yU,e2,this]
 ·have:decide (x<t+1)=decide (x<t):=(by simp;omega);simp[e1,this]
theorem J2{H:List Txn}{l:List Cho}{c:Cho}{t b:Nat}(hb:c.b=b)(h:t=b∨((aG H t).reads.any fun r=>decide (r.a=c.key)&&decide (r.b=c.a))=false):kJ H l c t=kJ H l c (t+1):=by
 funext x y;unfold kJ;congr 1;by_cases e1:x=t
 ·subst e1;have:yU H c x y=false:=by
   unfold yU;rcases h with h|h
   ·subst h;by_cases e2:y=x
    ·subst e2;simp
    ·have:decide (c.b=(y:Int))=false:=(by rw[hb];simp;omega);simp[this]
   ·rw[h];simp
  simp[this]
 ·have:decide (x<t+1)=decide (x<t):=(by simp;omega);rw[this]
theorem LW(H:List Txn)(x y:Nat):j4 H x y=rwE H [] x y:=by simp[rwE]
set_option maxRecDepth 100000 in
theorem J3(A:Option Addr)(c:Nat)(H:List Txn)(Al:Option Addr)(cl:Nat)(l:List Cho)(w:World)(h:av w (Old w) (.slice A H.length c) H)(hn:aC H)(hl:bg w (Old w) (.slice Al l.length cl) l)(hr:dn H l=true):
 Calls Tryz.prog 99 #[.agg #[.slice A H.length c],.slice Al l.length cl] w (lZ w H.length (rwE H l)):=by
 obtain⟨W0,hW0⟩:∃W0,(w.alloc (.cells #[.slice A H.length c] 24)).alloc (.cells #[.int .i64 0,.slice none 0 0] 77)=W0:=⟨_,rfl⟩;have hB:=aQ hW0;have k0:=Blk.j6 hW0;have k1:=Blk.jd hW0;have hs0:=size_two hW0;have hrh:=bJ hr;have h32:H.length≤32:=((aD H).1 hrh).1;have hll:=pK hr;have hcn:=hide (fun x hx=>vS hr (x:=x) hx);have hrl:=hide (fun i (hi:i<H.length)=>(hn.2 _ (List.getElem_mem hi)).2);have h0:=hide (h.below hB);have hl0:=hide (hl.below hB);replace hr:=hide hr;replace hn:=hide hn;replace hl:=hide hl;replace h:=hide h;replace hrh:=hide hrh;have c0:=Blk.n0 k0;replace hs0:=hide hs0;go_enter Tryz.func99,Tryz.ntmps99;go_wp2_with fail;clear hW0 c0;refine(jL A c H Al cl l _ h0.out hn.out hl0.out (by omega)).mono ?_;rintro e w1 ⟨rfl,hb1⟩;rw[hr.out];have hs1:w.heap.size+2≤w1.heap.size:=(by have:=hb1.size;have:=hs0.out;omega);replace k0:=k0.below hb1 k0.lt;replace k1:=k1.below hb1 k1.lt;have hb2:=hB.trans (hb1.mono hB.size);have h1:=hide (h0.out.below hb1);clear hb1 hB h0 hl0 hs0;have c0:=Blk.n0 k0;go_wp2_with fail;refine(D6 A c H _ h1.out hn.out hrh.out).mono ?_;rintro e w2 ⟨g,hgs,rfl,kR,hb3⟩;replace k0:=k0.below hb3 k0.lt;replace k1:=k1.below hb3 k1.lt;replace hb2:=hb2.trans (hb3.mono hb2.size);have hs2:w1.heap.size≤w2.heap.size:=hb3.size;obtain⟨W3,hW3⟩:∃W3,w2.alloc (.cells #[.int .i64 H.length,.slice (some ⟨g,0,none⟩) H.length H.length] 77)=W3:=⟨_,rfl⟩;have k3:=Blk.newEq hW3;have hs3:=ay hW3;replace k0:=k0.au hW3;replace k1:=k1.au hW3;replace kR:=kR.au hW3;have hb5:=ah hb2 hW3 (by omega);have aU:dH W3 w2.heap.size (w.heap.size+2) H.length (rwE H (l.take 0)):=⟨g,by omega,k3,by rw[List.take_zero,←bW (fun a b _ _=>LW H a b)];exact kR⟩;have OP:=hide (fun W' (hg:W3.grownBy W' (some w2.heap.size))=>(Agree.below hb5 (K:=Old w) (fun b h=>h)).trans (Agree.grown hg fun b hb=>by have:b<w.heap.size:=hb;exact⟨by omega,by simp;omega⟩));replace hs3:=hide hs3;clear hb3 c0 k3 kR hb2 h1;go_wp2_with fail;clear hW3;go_loopw [19] (fun s19 wr=>∃k:Nat,k≤l.length∧s19= .int .i64 k∧dH wr w2.heap.size (w.heap.size+2) H.length (rwE H (l.take k))∧W3.grownBy wr (some w2.heap.size)) (fun s19 _=>l.length-(intOf s19).toNat);case atStart=>exact⟨0,Nat.zero_le _,by go_num,aU,World.grownBy.refl _ _⟩
 case round=>
  clear aU;obtain⟨Wo,rfl⟩:∃Wo,Wo=wr:=⟨_,rfl⟩;obtain⟨k,hk,rfl,aU,hgw⟩:=hrel;have hi1:(0:Int)≤(k:Int):=Int.natCast_nonneg _;by_cases hlt:k<l.length
  ·have hi2:(k:Int)<(l.length:Int):=(by omega);obtain⟨b,off,rfl,_,d0,d1,d2⟩:=(hl.out.keep (OP.out Wo hgw) (fun b h=>h)).at_ hlt;obtain⟨xa,xb,ha,hb,ha2,hb2⟩:=hcn.out _ (List.getElem_mem hlt);have hend:=hide (fun x y (hx:x<H.length)=>GR H hlt (n:=H.length) (y:=y) hx);have hzero:=hide (D7 H (l.take k) l[k]);have hyes:=hide (fun t (hne:t≠xb)=>GU (H:=H) (l:=l.take k) (t:=t) hb hne);have hno:=hide (fun t=>J2 (H:=H) (l:=l.take k) (t:=t) hb);rw[ha]at d1 hyes hno;rw[hb]at d2;generalize hx0:l[k]=x at*;obtain⟨key,ya,yb⟩:=x;dsimp only at*;clear hx0 ha hb;obtain⟨W4,hW4⟩:∃W4,Wo.alloc (.cells #[.int .i64 key,.int .i64 xa,.int .i64 xb] 102)=W4:=⟨_,rfl⟩;have kC:=Blk.newEq hW4;have hg4:W3.grownBy W4 (some w2.heap.size):=(by rw[←hW4];exact aj hgw (World.grownBy_alloc _ _ _));have Fu:dH W4 w2.heap.size (w.heap.size+2) H.length (kJ H (l.take k) ⟨key,ya,yb⟩ 0):=(by rw[hzero.out,←hW4];exact aU.grown (r:=none) (World.grownBy_alloc _ _ _) (fun k e=>by cases e));have m0:=k0.grown hg4 (by simp;omega);have c0:=Blk.n0 m0;have Rl:w2.heap.size<Wo.heap.size:=(by have:=aU.lt;exact this);go_wp2_with fail;clear d0 d1 d2 c0 hW4 aU m0;go_loopw [26] (fun s26 wr=>∃t:Nat,t≤H.length∧s26= .int .i64 t∧dH wr w2.heap.size (w.heap.size+2) H.length (kJ H (l.take k) ⟨key,ya,yb⟩ t)∧W4.grownBy wr (some w2.heap.size)) (fun s26 _=>H.length-(intOf s26).toNat);case atStart=>exact⟨0,Nat.zero_le _,by go_num,Fu,World.grownBy.refl _ _⟩
   case round=>
    clear Fu;obtain⟨t,ht,rfl,aU,hgq⟩:=hrel;have ht1:(0:Int)≤(t:Int):=Int.natCast_nonneg _;have NA:=aj hg4 hgq;by_cases hlt2:t<H.length
    ·have ht2:(t:Int)<(H.length:Int):=(by omega);have hag:=OP.out wr NA;have hTq:=av.keep h.out hag (fun b h=>h);obtain⟨bt,ot,Aw,cw,Ar,cr,rfl,hKb,e0,e1,e2,_,hrs⟩:=av.at_ hTq hlt2;have Rm:=hrl.out t hlt2;have hyt:=hide (fun(hne:t≠xb)=>hyes.out t hne);have hnt:=hide (hno.out t);rw[aH hlt2]at hyt hnt;generalize H[t]=x at*;obtain⟨ts,ws,rs⟩:=x;dsimp only at*;have kCq:=kC.grown hgq (by simp;omega);obtain⟨W5,hW5⟩:∃W5,wr.alloc (.cells #[.int .i64 ts,.slice Aw ws.length cw,.slice Ar rs.length cr] 109)=W5:=⟨_,rfl⟩;have hB5:=ah (Below.refl wr.heap.size wr) hW5 (Nat.le_refl _);have kX:=Blk.newEq hW5;have kC5:=kCq.au hW5;have hg5:W4.grownBy W5 (some w2.heap.size):=(by rw[←hW5];exact aj hgq (World.grownBy_alloc _ _ _));have qN:dH W5 w2.heap.size (w.heap.size+2) H.length (kJ H (l.take k) ⟨key,ya,yb⟩ t):=(by rw[←hW5];exact aU.grown (r:=none) (World.grownBy_alloc _ _ _) (fun k e=>by cases e));have Nu:w.heap.size≤wr.heap.size:=(by have:=NA.size;have:=hb5.size;omega);have Qd:=hide (hrs.keep (K':=Old W5) (Agree.below hB5 fun b hb=>by have:b<w.heap.size:=hb;omega) (fun b hb=>by have:b<w.heap.size:=hb;have:=hB5.size;show b<W5.heap.size;omega));have x2:=Blk.n2 kX;have y0:=Blk.n0 kC5;have y1:=Blk.n1 kC5;have y2:=Blk.n2 kC5;by_cases q1:t=xb
     ·have q1b:((t:Int) !=(xb:Int))=false:=(by simp[q1]);have q1c:(t !=xb)=false:=(by simp[q1]);have hst:=hide (hnt.out (.inl q1));have Fw:=qN;have hgZ:=hg5;clear q1 hyt hnt hrs;go_wp2;go_roundw;case rel=>exact⟨t+1,by omega,by go_num,by rw[←hst.out];exact Fw,hgZ⟩
      case measure=>simp[intOf];omega
     ·have q1b:((t:Int) !=(xb:Int))=true:=(by simp;omega);have q1c:(t !=xb)=true:=(by simp;omega);have NC:=hide (hyt.out q1);clear q1 hyt hrs;go_wp2_with fail;clear e0 e1 e2 hW5;refine(oF Ar cr rs key (xa:Int) _ Qd.out (by omega)).mono ?_;rintro e W6 ⟨rfl,hb6⟩;have Fw:=qN.below hb6;have hgZ:=aj hg5 (aX hb6 (Nat.le_refl _));have kC6:=kC5.below hb6 kC5.lt;clear x2 y0 y1 y2 qN hg5;cases hq:(rs.any fun x=>decide (x.a=key)&&decide (x.b=(xa:Int)))with
      |false=>
       have hst:=hide (hnt.out (.inr hq));clear hq hnt NC;go_wp2;go_roundw;case rel=>exact⟨t+1,by omega,by go_num,by rw[←hst.out];exact Fw,hgZ⟩
       case measure=>simp[intOf];omega
      |true=>
       have hst:=hide (NC.out hq);clear hq hnt NC;obtain⟨g',hg',nZ,hgl,kB,kR,hG⟩:=Fw.open (by omega);have b0:=Blk.n0 kB;have b1:=Blk.n1 kB;have y2:=Blk.n2 kC6;go_wp2_with fail;clear b0 b1 y2;refine(su H.length (some ⟨g',0,none⟩) H.length _ t xb hlt2 hb2 (fun b=>b=g') _ hG (fun b hb=>by subst hb;exact hgl)).mono ?_;rintro e w7 ⟨g5,P5,rfl,kR5,JQ⟩;have kB5:=kB.below JQ kB.lt;have c0:=Blk.n0 kB5;have c1:=Blk.n1 kB5;have f0:=kB5.frozen 0;have f1:=kB5.frozen 1;have hBl:=kB.lt;have P6:=(aj hg4 hgZ).size;go_wp2;go_roundw;case rel=>
        refine⟨t+1,by omega,by go_num,⟨g5,by omega,?_,?_⟩,aj hgZ (aj (aj (aX JQ (Nat.le_refl _)) (aI w2.heap.size 0 _)) (aI w2.heap.size 1 _))⟩
        ·have:=(kB5.aJ 0 (.int .i64 H.length)).aJ 1 (.slice (some ⟨g5,0,none⟩) H.length H.length);simpa using this
        ·rw[←hst.out];exact(kR5.far (p:=⟨w2.heap.size,0,none⟩) (by simp;omega) _).far (p:=⟨w2.heap.size,1,none⟩) (by simp;omega) _
       case measure=>simp[intOf];omega
    ·obtain rfl:t=H.length:=(by omega);go_wp2;go_roundw;case rel=>exact⟨k+1,by omega,by go_num,aU.congr fun x y hx _=>hend.out x y hx,NA⟩
     case measure=>simp[intOf];omega
  ·obtain rfl:k=l.length:=(by omega);rw[List.take_length]at aU;obtain⟨g',hg',nZ,hgl,kB,kR,hG⟩:=aU.open (by omega);have k14:=k1.grown hgw (by simp;omega);have hb4:=below_grown hb5 hgw hb5.size (by intro k hk;injection hk with hk;omega);have c0:=Blk.n0 kB;have c1:=Blk.n1 kB;have j0:=Blk.n0 k14;have j1:=Blk.n1 k14;have jf:=k14.frozen 0;have jf1:=k14.frozen 1;have n1:g'≠w.heap.size+1:=(by omega);go_wp2;have kF0:=((kR.far (p:=⟨w.heap.size+1,0,none⟩) n1 (.int .i64 H.length)).far (p:=⟨w.heap.size+1,1,none⟩) n1 (.slice (some ⟨g',0,none⟩) H.length H.length));have hF:=((hb4.setCell (p:=⟨w.heap.size+1,0,none⟩) (by simp) (.int .i64 H.length)).setCell (p:=⟨w.heap.size+1,1,none⟩) (by simp) (.slice (some ⟨g',0,none⟩) H.length H.length));exact bodyPost_ret (v:= .agg #[.int .i64 H.length,.slice (some ⟨g',0,none⟩) H.length H.length]) (by simp[results,Tryz.results99,go_sem,j0,j1]) rfl ⟨g',by omega,rfl,kF0,hF⟩
end Go.Proofs.YtfhnamomiaekdaaGreatDoor
namespace Go.Inq
open Go
section
variable{P:Program}{ops:Array Oper}{Q:Exit→Act→World→Prop}
def gG(ops:Array Oper)(o:Oper):List Nat:=
 (o.op.operands.toList.filterMap fun| .tmp t=>some t|_=>none)++(match o.guard with|some (j,_)=>((ops[j]?).bind (·.dst)).toList|none=>[])
def dM(ops:Array Oper):Bool:=
 Region.noSelect ops&&(List.range ops.size).all fun i=>match ops[i]? with
  |none=>true
  |some o=>(o.after.all fun e=> !Region.binds .any e||decide (e.on<i))&&
   (List.range ops.size).all fun j=>match ops[j]? with
    |none=>true
    |some oj=>match oj.dst with
     |none=>true
     |some t=>(i==j||o.dst !=some t)&&(!(gG ops o).contains t||(decide (j<i)&&aR .any ops ops.size i j)||(decide (i<j)&&aR .any ops ops.size j i)||i==j)
theorem lJ(h:dM ops=true){i:Nat}{o:Oper}(ho:ops[i]?=some o):∀e∈o.after,Region.binds .any e=true→e.on<i:=by
 intro e he hb;unfold dM at h;rw[Bool.and_eq_true,List.all_eq_true]at h;have h1:=h.2 i (List.mem_range.2 (Array.getElem?_eq_some_iff.1 ho).1);rw[ho]at h1;dsimp only at h1;rw[Bool.and_eq_true]at h1;have h2:=Array.all_eq_true_iff_forall_mem.1 h1.1 e he;rw[hb]at h2;simpa using h2
theorem jO(h:dM ops=true){i j:Nat}{o oj:Oper}(ho:ops[i]?=some o)(hj:ops[j]?=some oj){t:Nat}(ht:oj.dst=some t):
 (i=j∨o.dst≠some t)∧(t∈gG ops o→(j<i∧aR .any ops ops.size i j=true)∨(i<j∧aR .any ops ops.size j i=true)∨i=j):=by
 unfold dM at h;rw[Bool.and_eq_true,List.all_eq_true]at h;have h1:=h.2 i (List.mem_range.2 (Array.getElem?_eq_some_iff.1 ho).1);rw[ho]at h1;dsimp only at h1;rw[Bool.and_eq_true,List.all_eq_true]at h1;have h2:=h1.2 j (List.mem_range.2 (Array.getElem?_eq_some_iff.1 hj).1);rw[hj]at h2;dsimp only at h2;rw[ht]at h2;dsimp only at h2;rw[Bool.and_eq_true]at h2;refine⟨?_,fun hm=> ?_⟩
 ·have:=h2.1;rw[Bool.or_eq_true,beq_iff_eq,bne_iff_ne]at this;exact this
 ·have h3:=h2.2;have hc:(gG ops o).contains t=true:=(by simpa using hm);rw[hc]at h3;simp only[Bool.not_true,Bool.false_or,Bool.or_eq_true,Bool.and_eq_true,decide_eq_true_eq,beq_iff_eq]at h3;rcases h3 with(h3|h3)|h3
  ·exact .inl h3
  ·exact .inr (.inl h3)
  ·exact .inr (.inr h3)
structure Flo(ops:Array Oper)(a0:Act)(vs:Nat→Value)(L:Nat→Bool)(a:Act):Prop where
 defers:a.defers=a0.defers
 size:a.tmps.size=a0.tmps.size
 hit:∀j o t,ops[j]?=some o→o.dst=some t→L j=true→t<a0.tmps.size→a.tmps[t]?=some (vs j)
 miss:∀t,(∀j o,ops[j]?=some o→o.dst=some t→L j=false)→a.tmps[t]?=a0.tmps[t]?
variable{a0 a b:Act}{vs:Nat→Value}{L L':Nat→Bool}
theorem Flo.start(h:∀j,L j=false):Flo ops a0 vs L a0:=⟨rfl,rfl,(fun j _ _ _ _ hl=>absurd hl (by rw[h j];simp)),fun _ _=>rfl⟩
theorem J4(a:Act)(d:Option Tmp)(v:Value):(a.put d v).tmps.size=a.tmps.size:=by
 cases d<;>simp[Act.put]
theorem put_defers(a:Act)(d:Option Tmp)(v:Value):(a.put d v).defers=a.defers:=by
 cases d<;>simp[Act.put]
theorem J5{d:Option Tmp}{t:Nat}(h:d≠some t)(a:Act)(v:Value):(a.put d v).tmps[t]?=a.tmps[t]?:=by
 cases d with
 |none=>rfl
 |some d=>
  have:d≠t:=fun e=>h (by rw[e]);simp[Act.put,Array.getElem?_setIfInBounds_ne this]
theorem put_eq{t:Nat}(a:Act)(v:Value)(h:t<a.tmps.size):(a.put (some t) v).tmps[t]?=some v:=by
 simp[Act.put,h]
theorem Flo.put(hB:dM ops=true){i:Nat}{o:Oper}(ho:ops[i]?=some o)(h:Flo ops a0 vs L a)(hL:∀j,L' j=(L j||decide (j=i))):Flo ops a0 vs L' (a.put o.dst (vs i)):=by
 refine⟨by rw[put_defers,h.defers],by rw[J4,h.size],fun j oj t hj ht hl hs=> ?_,fun t ht=> ?_⟩
 ·by_cases hji:j=i
  ·subst hji;have:oj=o:=Option.some.inj (hj.symm.trans ho);subst this;rw[ht,put_eq _ _ (by rw[h.size];exact hs)]
  ·have h1:L j=true:=(by rw[hL]at hl;simpa[hji]using hl);have hne:o.dst≠some t:=by
    rcases(jO hB ho hj ht).1 with e|e
    ·exact absurd e.symm hji
    ·exact e
   rw[J5 hne];exact h.hit j oj t hj ht h1 hs
 ·have hne:o.dst≠some t:=fun e=>by
   have:=ht i o ho e;rw[hL]at this;simp at this
  rw[J5 hne];refine h.miss t fun j oj hj hd=> ?_;have:=ht j oj hj hd;rw[hL]at this;rw[Bool.or_eq_false_iff]at this;exact this.1
theorem Flo.agree(h:Flo ops a0 vs L a)(h':Flo ops a0 vs L' b){t:Nat}(ht:∀j o,ops[j]?=some o→o.dst=some t→L j=L' j):a.tmps[t]?=b.tmps[t]?:=by
 by_cases hs:t<a0.tmps.size
 ·by_cases hx:∃j o,ops[j]?=some o∧o.dst=some t∧L j=true
  ·obtain⟨j,o,hj,hd,hl⟩:=hx;rw[h.hit j o t hj hd hl hs,h'.hit j o t hj hd (by rw[←ht j o hj hd];exact hl) hs]
  ·have hf:∀j o,ops[j]?=some o→o.dst=some t→L j=false:=fun j o hj hd=>by
    cases hl:L j with
    |false=>rfl
    |true=>exact absurd ⟨j,o,hj,hd,hl⟩ hx
   rw[h.miss t hf,h'.miss t fun j o hj hd=>by rw[←ht j o hj hd];exact hf j o hj hd]
 ·rw[Array.getElem?_eq_none (by rw[h.size];omega),Array.getElem?_eq_none (by rw[h'.size];omega)]
theorem uO{d:Option Tmp}{u v:Value}(hs:a.tmps.size=b.tmps.size)(h:b.put d u=b.put d v):a.put d u=a.put d v:=by
 cases d with
 |none=>rfl
 |some t=>
  rcases Nat.lt_or_ge t b.tmps.size with ht|ht
  ·have h1:=put_eq b u ht;rw[h,put_eq b v ht]at h1;injection h1 with h1
   rw[h1]
  ·have:∀x:Value,a.put (some t) x=a:=fun x=>by
    unfold Act.put;dsimp only;rw[Array.setIfInBounds_eq_of_size_le (show a.tmps.size≤t by rw[hs];exact ht)]
   rw[this,this]
theorem D8 {S:World→Prop} {i:Nat} {o:Oper} {w:World} {v:Value} {K:Act→World→Prop} (ho:ops[i]?=some o) (hsel:∀cs b,o.op≠ .select cs b)
 (hr:∀t∈gG ops o,a.tmps[t]?=b.tmps[t]?) (hs:a.tmps.size=b.tmps.size) (hK:∀w',S w'→K (a.put o.dst v) w')
 (h:wpList P ops (fun e a' w'=>e= .normal∧a'=b.put o.dst v∧S w') [o] b w):wpOp P ops Q i K a w:=by
 have hw:Region.wanted o (yielded ops a.tmps)=Region.wanted o (yielded ops b.tmps):=by
  unfold Region.wanted;cases hg:o.guard with
  |none=>rfl
  |some g=>
   obtain⟨j,x⟩:=g;dsimp only;have:yielded ops a.tmps j=yielded ops b.tmps j:=by
    unfold yielded;cases hd:(ops[j]?).bind (·.dst)with
    |none=>rfl
    |some t=>
     have hm:t∈gG ops o:=by
      unfold gG;rw[hg];refine List.mem_append.2 (.inr ?_);show t∈((ops[j]?).bind (·.dst)).toList;rw[hd];simp
     simp only[Option.bind_some];rw[hr t hm]
   rw[this]
 have he:execOp a.eval o=execOp b.eval o:=by
  refine execOp_congr o hsel fun x hx=> ?_;cases x with
  |tmp t=>
   have hm:t∈gG ops o:=by
    unfold gG;refine List.mem_append.2 (.inl ?_);rw[List.mem_filterMap];exact⟨.tmp t,by simpa using hx,rfl⟩
   have:=hr t hm;simp only[Act.eval,Array.getD_eq_getD_getElem?,this]
  |_=>rfl
 unfold wpOp;rw[ho];dsimp only;unfold wpList at h;rw[hw];by_cases hwd:Region.wanted o (yielded ops b.tmps)=true
 ·rw[if_pos hwd]at h⊢;left;rcases h with h|⟨_,_,_,h,_⟩
  ·unfold Oper.wp at*;rw[he];generalize(execOp b.eval o).run P w=r at h;have key:∀u w',wpList P ops (fun e a' w'=>e= .normal∧a'=b.put o.dst v∧S w') [] (b.put o.dst u) w'→K (a.put o.dst u) w':=fun u w' h=>by
    unfold wpList at h;rw[uO hs h.2.1];exact hK w' h.2.2
   cases r with
   |halt x w'=>
    cases x<;>simp only[Oper.upon]at h⊢;exact absurd h.1 (by simp)
   |ok n w'=>
    cases n with
    |value u=>exact key u w' h
    |skip=>exact key undef w' h
    |defer d=>
     simp only[Oper.upon]at h;unfold wpList at h;have h1:=congrArg Act.defers h.2.1;rw[put_defers,put_defers]at h1;exact absurd (congrArg List.length h1) (by simp)
    |enter f args=>
     simp only[Oper.upon]at h⊢;refine Calls.mono h fun e w'' he=> ?_;cases e with
     |returned u=>exact key u w'' he
     |panicked c=>exact absurd he.1 (by simp)
     |outgrown=>
      obtain⟨_,_,h1,_⟩:=he;cases h1
    |row r args=>
     simp only[Oper.upon]at h⊢;exact Rows.mono h fun u w'' he=>key u w'' he
    |_=>simp only[Oper.upon]at h
  ·cases h
 ·rw[if_neg hwd]at h⊢;unfold wpList at h;rw[uO hs h.2.1];exact hK w h.2.2
def lacks:Nat→(Nat→Bool)→Nat
 |0,_=>0
 |n+1,f=>lacks n f+if f n then 0 else 1
theorem nR(f:Nat→Bool):∀n,lacks n f=0→∀i,i<n→f i=true
 |0,_,i,hi=>absurd hi (by omega)
 |n+1,h,i,hi=>by
  unfold lacks at h;by_cases hn:f n=true
  ·by_cases hin:i=n
   ·rw[hin];exact hn
   ·exact nR f n (by omega) i (by omega)
  ·rw[if_neg hn]at h;omega
theorem vT{f g:Nat→Bool}:∀n,(∀j,j<n→f j=g j)→lacks n f=lacks n g
 |0,_=>rfl
 |n+1,h=>by unfold lacks;rw[vT n (fun j hj=>h j (by omega)),h n (by omega)]
theorem nS{f g:Nat→Bool}{i:Nat}(hf:f i=false)(hg:∀j,g j=(f j||decide (j=i))):∀n,i<n→lacks n f=lacks n g+1
 |0,h=>absurd h (by omega)
 |n+1,h=>by
  unfold lacks;by_cases hin:i=n
  ·subst hin;have h1:lacks i f=lacks i g:=vT i fun j hj=>(by rw[hg j];simp;intro;omega);rw[h1,hf,hg i];simp
  ·have h1:=nS hf hg n (by omega);have h2:g n=f n:=(by rw[hg n];simp;intro;omega);rw[h1,h2];omega
theorem lK:∀n,lacks n (fun _=>false)=n
 |0=>rfl
 |n+1=>by unfold lacks;rw[lK n];rfl
theorem BP {S:World→Prop} (hB:dM ops=true) {ac:Nat→Act} (hac:∀i,Flo ops a0 vs (fun j=>decide (j<i)) (ac i))
 (hstep:∀i o,ops[i]?=some o→∀w,S w→wpList P ops (fun e a' w'=>e= .normal∧a'=(ac i).put o.dst (vs i)∧S w') [o] (ac i) w)
 (hend:∀w,S w→Q .normal (ac ops.size) w):
 ∀(fuel:Nat) (listed:Array Bool) (a:Act) (w:World),Closed .any ops listed→listed.size=ops.size→lacks ops.size (fun j=>listed.getD j false)=fuel→Flo ops a0 vs (fun j=>listed.getD j false) a→S w→wpAny P .any ops Q fuel listed a w:=by
 have hnone:∀(listed:Array Bool),listed.size=ops.size→Region.ready .any ops listed=[]→∀i,i<ops.size→listed.getD i false=true:=by
  intro listed hsz hr i
  induction i using Nat.strongRecOn with
  |_ i ih=>
   intro hi;cases hl:listed.getD i false with
   |true=>rfl
   |false=>
    exfalso;have ho:ops[i]?=some ops[i]:=Array.getElem?_eq_getElem hi;have hm:i∈Region.ready .any ops listed:=by
     rw[mem_ready];refine⟨?_,ops[i],ho,fun e he hb=> ?_⟩
     ·have hi2:i<listed.size:=(by omega);simp only[Array.getD_eq_getD_getElem?,Array.getElem?_eq_getElem hi2,Option.getD_some]at hl⊢;exact hl
     ·have h1:=lJ hB ho e he hb;exact ih e.on h1 (by omega)
    rw[hr]at hm;cases hm
 have hfin:∀(listed:Array Bool) (a:Act) (w:World),(∀i,i<ops.size→listed.getD i false=true)→Flo ops a0 vs (fun j=>listed.getD j false) a→S w→Q .normal a w:=by
  intro listed a w hall hf hS;have:a=ac ops.size:=by
   have h1:a.tmps=(ac ops.size).tmps:=by
    refine Array.ext_getElem? fun t=> ?_;refine hf.agree (hac ops.size) fun j o hj _=> ?_;have hjs:=(Array.getElem?_eq_some_iff.1 hj).1;rw[hall j hjs];simp[hjs]
   have h2:a.defers=(ac ops.size).defers:=(by rw[hf.defers,(hac ops.size).defers]);cases a;cases hx:ac ops.size;rw[hx]at h1 h2;simp only at h1 h2;rw[h1,h2]
  rw[this];exact hend w hS
 intro fuel
 induction fuel with
 |zero=>
  intro listed a w hcl hsz hlk hf hS;have hall:=nR _ _ hlk;refine⟨?_,hfin listed a w hall hf hS⟩;rw[List.eq_nil_iff_forall_not_mem];intro i hi;obtain⟨h1,o,ho,_⟩:=mem_ready.1 hi;have his:=(Array.getElem?_eq_some_iff.1 ho).1;have h2:=hall i his;have hi2:i<listed.size:=(by omega);simp only[Array.getD_eq_getD_getElem?,Array.getElem?_eq_getElem hi2,Option.getD_some]at h1 h2;rw[h1]at h2;cases h2
 |succ fuel ih=>
  intro listed a w hcl hsz hlk hf hS;refine⟨fun hr=>hfin listed a w (hnone listed hsz hr) hf hS,fun i hi=> ?_⟩;obtain⟨h1,o,ho,hall⟩:=mem_ready.1 hi;have his:=(Array.getElem?_eq_some_iff.1 ho).1;have hi2:i<listed.size:=(by omega);have hun:listed.getD i false=false:=by
   simp only[Array.getD_eq_getD_getElem?,Array.getElem?_eq_getElem hi2,Option.getD_some]at h1⊢;exact h1
  have hset:∀j,(listed.setIfInBounds i true).getD j false=(listed.getD j false||decide (j=i)):=fun j=>by
   by_cases hji:j=i
   ·subst hji;simp[Array.getD_eq_getD_getElem?,hi2]
   ·rw[getD_set_ne false (Ne.symm hji)];simp[hji]
  have hsel:=fun cs b=>Region.noSelect_spec (ops:=ops) (by unfold dM at hB;rw[Bool.and_eq_true]at hB;exact hB.1) i o cs b ho;refine D8 (S:=S) (b:=ac i) (v:=vs i) ho hsel (fun t ht=> ?_) (by rw[hf.size,(hac i).size]) (fun w' hS'=> ?_) (hstep i o ho w hS)
  ·refine hf.agree (hac i) fun j oj hj hd=> ?_;rcases(jO hB ho hj hd).2 ht with⟨h2,h3⟩|⟨h2,h3⟩|h2
   ·rw[hcl.ready h3 hi];simp[h2]
   ·have h4:decide (j<i)=false:=(by simp;omega);rw[h4];cases hlj:listed.getD j false with
    |false=>rfl
    |true=>
     have:=hcl.waits _ _ _ h3 hlj;rw[hun]at this;cases this
   ·subst h2;rw[hun];simp
  ·refine ih (listed.setIfInBounds i true) _ w' (hcl.aJ hi) (by rw[Array.size_setIfInBounds];exact hsz) ?_ (hf.put hB ho hset) hS';have:=nS (f:=fun j=>listed.getD j false) (g:=fun j=>(listed.setIfInBounds i true).getD j false) hun hset ops.size his;omega
def zR(P:Program)(ops:Array Oper)(S:World→Prop)(K:Act→Prop):List Oper→Act→Prop
 |[],a=>K a
 |o::os,a=>∃v,(∀w,S w→wpList P ops (fun e a' w'=>e= .normal∧a'=a.put o.dst v∧S w') [o] a w)∧zR P ops S K os (a.put o.dst v)
theorem vU{S:World→Prop}{K:Act→Prop}:∀(os:List Oper) (a:Act),zR P ops S K os a→∃(vs:Nat→Value) (ac:Nat→Act),ac 0=a∧
 (∀i o,os[i]?=some o→(∀w,S w→wpList P ops (fun e a' w'=>e= .normal∧a'=(ac i).put o.dst (vs i)∧S w') [o] (ac i) w)∧ac (i+1)=(ac i).put o.dst (vs i))∧(∀i,os.length≤i→ac i=ac os.length)∧K (ac os.length)
 |[],a,h=>⟨fun _=>undef,fun _=>a,rfl,fun i o h=>by simp at h,fun _ _=>rfl,h⟩
 |o::os,a,h=>by
  obtain⟨v,h1,h2⟩:=h;obtain⟨vs,ac,e0,hs,hl,hk⟩:=vU os _ h2;refine⟨fun i=>match i with|0=>v|i+1=>vs i,fun i=>match i with|0=>a|i+1=>ac i,rfl,fun i o' ho=> ?_,fun i hi=> ?_,hk⟩
  ·cases i with
   |zero=>
    simp only[gZ,Option.some.injEq]at ho;subst ho;exact⟨h1,e0⟩
   |succ i=>exact hs i o' (by simpa using ho)
  ·cases i with
   |zero=>simp at hi
   |succ i=>exact hl i (by simpa using hi)
theorem aW {id:Nat} {w:World} {l:List Oper} (S:World→Prop) (hm:P.follows .mixedOrders=true) (hB:dM l.toArray=true) (hS:S w.drew)
 (h:zR P l.toArray S (fun a'=>∀w',S w'→Q .normal a' w') l a):(Code.region id l.toArray true).wp P Q a w:=by
 obtain⟨vs,ac,e0,hs,hl,hk⟩:=vU _ _ h;have hsz:l.toArray.size=l.length:=(by simp);have hget:∀i:Nat,l.toArray[i]?=l[i]?:=fun i=>List.getElem?_toArray ..;have hac:∀i,Flo l.toArray a vs (fun j=>decide (j<i)) (ac i):=by
  intro i
  induction i with
  |zero=>rw[e0];exact Flo.start fun j=>by simp
  |succ i ih=>
   cases hx:l[i]? with
   |none=>
    have hle:l.length≤i:=by
     rcases Nat.lt_or_ge i l.length with h1|h1
     ·rw[List.getElem?_eq_getElem h1]at hx;cases hx
     ·exact h1
    rw[hl (i+1) (by omega),←hl i hle];refine⟨ih.defers,ih.size,fun j o t hj hd hlt hs=>ih.hit j o t hj hd ?_ hs,fun t ht=>ih.miss t fun j o hj hd=> ?_⟩
    ·have:=(Array.getElem?_eq_some_iff.1 hj).1;simp at this⊢;omega
    ·have:=ht j o hj hd;simp at this⊢;omega
   |some o=>
    rw[(hs i o hx).2];refine ih.put hB (by rw[hget];exact hx) fun j=> ?_;rw[Bool.eq_iff_iff];simp;omega
 refine wp_region_any hm ?_;refine BP (S:=S) hB hac (fun i o ho=>(hs i o (by rw[←hget];exact ho)).1) (fun w hw=>by rw[hsz];exact hk w hw) _ _ a _ (Closed.start _ _ _) (by simp) ?_ (Flo.start fun j=>getD_replicate_false _ _) hS;have:(fun j=>(Array.replicate l.toArray.size false).getD j false)=fun _=>false:=funext fun j=>getD_replicate_false _ _;rw[this,lK]
end
section
variable{P:Program}{ops:Array Oper}{Q:Exit→Act→World→Prop}{a b a0:Act}
theorem Flo.congr{vs vs':Nat→Value}{L:Nat→Bool}(h:Flo ops a0 vs L a)(hv:∀j,L j=true→vs j=vs' j):Flo ops a0 vs' L a:=
 ⟨h.defers,h.size,fun j o t hj hd hl hs=>by rw[←hv j hl];exact h.hit j o t hj hd hl hs,h.miss⟩
theorem BQ {i:Nat} {o:Oper} {w:World} {R:Value→World→Prop} {K:Act→World→Prop} (ho:ops[i]?=some o) (hsel:∀cs b,o.op≠ .select cs b)
 (hr:∀t∈gG ops o,a.tmps[t]?=b.tmps[t]?) (hs:a.tmps.size=b.tmps.size) (hK:∀v w',R v w'→K (a.put o.dst v) w')
 (h:wpList P ops (fun e a' w'=>e= .normal∧∃v,a'=b.put o.dst v∧R v w') [o] b w):wpOp P ops Q i K a w:=by
 have hw:Region.wanted o (yielded ops a.tmps)=Region.wanted o (yielded ops b.tmps):=by
  unfold Region.wanted;cases hg:o.guard with
  |none=>rfl
  |some g=>
   obtain⟨j,x⟩:=g;dsimp only;have:yielded ops a.tmps j=yielded ops b.tmps j:=by
    unfold yielded;cases hd:(ops[j]?).bind (·.dst)with
    |none=>rfl
    |some t=>
     have hm:t∈gG ops o:=by
      unfold gG;rw[hg];refine List.mem_append.2 (.inr ?_);show t∈((ops[j]?).bind (·.dst)).toList;rw[hd];simp
     simp only[Option.bind_some];rw[hr t hm]
   rw[this]
 have he:execOp a.eval o=execOp b.eval o:=by
  refine execOp_congr o hsel fun x hx=> ?_;cases x with
  |tmp t=>
   have hm:t∈gG ops o:=by
    unfold gG;refine List.mem_append.2 (.inl ?_);rw[List.mem_filterMap];exact⟨.tmp t,by simpa using hx,rfl⟩
   have:=hr t hm;simp only[Act.eval,Array.getD_eq_getD_getElem?,this]
  |_=>rfl
 unfold wpOp;rw[ho];dsimp only;unfold wpList at h;rw[hw];by_cases hwd:Region.wanted o (yielded ops b.tmps)=true
 ·rw[if_pos hwd]at h⊢;left;rcases h with h|⟨_,_,_,h,_⟩
  ·unfold Oper.wp at*;rw[he];generalize(execOp b.eval o).run P w=r at h;have key:∀u w',wpList P ops (fun e a' w'=>e= .normal∧∃v,a'=b.put o.dst v∧R v w') [] (b.put o.dst u) w'→K (a.put o.dst u) w':=fun u w' h=>by
    unfold wpList at h;obtain⟨_,v,h1,h2⟩:=h;rw[uO hs h1];exact hK v w' h2
   cases r with
   |halt x w'=>
    cases x<;>simp only[Oper.upon]at h⊢;exact absurd h.1 (by simp)
   |ok n w'=>
    cases n with
    |value u=>exact key u w' h
    |skip=>exact key undef w' h
    |defer d=>
     simp only[Oper.upon]at h;unfold wpList at h;obtain⟨_,v,h1,_⟩:=h;have h1:=congrArg Act.defers h1;rw[put_defers,put_defers]at h1;exact absurd (congrArg List.length h1) (by simp)
    |enter f args=>
     simp only[Oper.upon]at h⊢;refine Calls.mono h fun e w'' he=> ?_;cases e with
     |returned u=>exact key u w'' he
     |panicked c=>exact absurd he.1 (by simp)
     |outgrown=>
      obtain⟨_,_,h1,_⟩:=he;cases h1
    |row r args=>
     simp only[Oper.upon]at h⊢;exact Rows.mono h fun u w'' he=>key u w'' he
    |_=>simp only[Oper.upon]at h
  ·cases h
 ·rw[if_neg hwd]at h⊢;unfold wpList at h;obtain⟨_,v,h1,h2⟩:=h;rw[uO hs h1];exact hK v w h2
def acV(ops:Array Oper)(a0:Act)(vs:Nat→Value):Nat→Act
 |0=>a0
 |i+1=>match ops[i]? with
  |some o=>(acV ops a0 vs i).put o.dst (vs i)
  |none=>acV ops a0 vs i
theorem qP(hB:dM ops=true)(vs:Nat→Value):∀i,Flo ops a0 vs (fun j=>decide (j<i)) (acV ops a0 vs i)
 |0=>Flo.start fun j=>by simp
 |i+1=>by
  unfold acV;have ih:=qP hB vs i;cases hx:ops[i]? with
  |none=>
   have hle:ops.size≤i:=by
    rcases Nat.lt_or_ge i ops.size with h1|h1
    ·rw[Array.getElem?_eq_getElem h1]at hx;cases hx
    ·exact h1
   dsimp only;refine⟨ih.defers,ih.size,fun j o t hj hd hlt hs=>ih.hit j o t hj hd ?_ hs,fun t ht=>ih.miss t fun j o hj hd=> ?_⟩
   ·have:=(Array.getElem?_eq_some_iff.1 hj).1;simp at this⊢;omega
   ·have:=ht j o hj hd;simp at this⊢;omega
  |some o=>
   dsimp only;refine ih.put hB hx fun j=> ?_;rw[Bool.eq_iff_iff];simp;omega
def dI(vs:Nat→Value)(i:Nat)(v:Value):Nat→Value:=fun j=>if j=i then v else vs j
theorem GX {Rs:Nat→(Nat→Value)→World→Prop} {S:World→Prop} {St:Nat→World→World→Prop} (hB:dM ops=true) (dp:Nat→List Nat) (hdp:∀i j,j∈dp i→aR .any ops ops.size i j=true)
 (kl:Nat→List Nat) (hkl:∀i j k,i<ops.size→k<ops.size→j∈kl i→j∈dp k→k=i∨aR .any ops ops.size i k=true)
 (hcg:∀j vs vs' w,(∀k,k=j∨k∈dp j→vs k=vs' k)→Rs j vs w→Rs j vs' w) (hR:∀i j vs w w',j≠i→j∉kl i→Rs j vs w→St i w w'→Rs j vs w')
 (hstep:∀i o,ops[i]?=some o→∀(vs:Nat→Value) w,S w→(∀j∈dp i,Rs j vs w)→wpList P ops (fun e a' w'=>e= .normal∧∃v,a'=(acV ops a0 vs i).put o.dst v∧Rs i (dI vs i v) w'∧S w'∧St i w w') [o] (acV ops a0 vs i) w)
 (hend:∀(vs:Nat→Value) w,S w→(∀j,j<ops.size→(∀i,i<ops.size→j∉kl i)→Rs j vs w)→Q .normal (acV ops a0 vs ops.size) w):
 ∀(fuel:Nat) (listed:Array Bool) (a:Act) (w:World) (vs:Nat→Value),Closed .any ops listed→listed.size=ops.size→lacks ops.size (fun j=>listed.getD j false)=fuel→Flo ops a0 vs (fun j=>listed.getD j false) a→S w→
  (∀j,listed.getD j false=true→(∀i,listed.getD i false=true→j∉kl i)→Rs j vs w)→wpAny P .any ops Q fuel listed a w:=by
 have hnone:∀(listed:Array Bool),listed.size=ops.size→Region.ready .any ops listed=[]→∀i,i<ops.size→listed.getD i false=true:=by
  intro listed hsz hr i
  induction i using Nat.strongRecOn with
  |_ i ih=>
   intro hi;cases hl:listed.getD i false with
   |true=>rfl
   |false=>
    exfalso;have ho:ops[i]?=some ops[i]:=Array.getElem?_eq_getElem hi;have hm:i∈Region.ready .any ops listed:=by
     rw[mem_ready];refine⟨?_,ops[i],ho,fun e he hb=> ?_⟩
     ·have hi2:i<listed.size:=(by omega);simp only[Array.getD_eq_getD_getElem?,Array.getElem?_eq_getElem hi2,Option.getD_some]at hl⊢;exact hl
     ·have h1:=lJ hB ho e he hb;exact ih e.on h1 (by omega)
    rw[hr]at hm;cases hm
 have hfin:∀(listed:Array Bool) (a:Act) (w:World) (vs:Nat→Value),listed.size=ops.size→(∀i,i<ops.size→listed.getD i false=true)→Flo ops a0 vs (fun j=>listed.getD j false) a→S w→(∀j,listed.getD j false=true→(∀i,listed.getD i false=true→j∉kl i)→Rs j vs w)→Q .normal a w:=by
  intro listed a w vs Qe hall hf hS hRs;have hac:=qP (a0:=a0) hB vs ops.size;have:a=acV ops a0 vs ops.size:=by
   have h1:a.tmps=(acV ops a0 vs ops.size).tmps:=by
    refine Array.ext_getElem? fun t=> ?_;refine hf.agree hac fun j o hj _=> ?_;have hjs:=(Array.getElem?_eq_some_iff.1 hj).1;rw[hall j hjs];simp[hjs]
   have h2:a.defers=(acV ops a0 vs ops.size).defers:=(by rw[hf.defers,hac.defers]);cases a;cases hx:acV ops a0 vs ops.size;rw[hx]at h1 h2;simp only at h1 h2;rw[h1,h2]
  rw[this];refine hend vs w hS fun j hj hk=>hRs j (hall j hj) fun i hi=>hk i ?_;rcases Nat.lt_or_ge i ops.size with h|h
  ·exact h
  ·rw[Array.getD_eq_getD_getElem?,Array.getElem?_eq_none (by omega)]at hi;cases hi
 intro fuel
 induction fuel with
 |zero=>
  intro listed a w vs hcl hsz hlk hf hS hRs;have hall:=nR _ _ hlk;refine⟨?_,hfin listed a w vs hsz hall hf hS hRs⟩;rw[List.eq_nil_iff_forall_not_mem];intro i hi;obtain⟨h1,o,ho,_⟩:=mem_ready.1 hi;have his:=(Array.getElem?_eq_some_iff.1 ho).1;have h2:=hall i his;have hi2:i<listed.size:=(by omega);simp only[Array.getD_eq_getD_getElem?,Array.getElem?_eq_getElem hi2,Option.getD_some]at h1 h2;rw[h1]at h2;cases h2
 |succ fuel ih=>
  intro listed a w vs hcl hsz hlk hf hS hRs;refine⟨fun hr=>hfin listed a w vs hsz (hnone listed hsz hr) hf hS hRs,fun i hi=> ?_⟩;obtain⟨h1,o,ho,hall⟩:=mem_ready.1 hi;have his:=(Array.getElem?_eq_some_iff.1 ho).1;have hi2:i<listed.size:=(by omega);have hun:listed.getD i false=false:=by
   simp only[Array.getD_eq_getD_getElem?,Array.getElem?_eq_getElem hi2,Option.getD_some]at h1⊢;exact h1
  have hset:∀j,(listed.setIfInBounds i true).getD j false=(listed.getD j false||decide (j=i)):=fun j=>by
   by_cases hji:j=i
   ·subst hji;simp[Array.getD_eq_getD_getElem?,hi2]
   ·rw[getD_set_ne false (Ne.symm hji)];simp[hji]
  have hsel:=fun cs b=>Region.noSelect_spec (ops:=ops) (by unfold dM at hB;rw[Bool.and_eq_true]at hB;exact hB.1) i o cs b ho;have hac:=qP (a0:=a0) hB vs i;refine BQ (b:=acV ops a0 vs i) (R:=fun v w'=>Rs i (dI vs i v) w'∧S w'∧St i w w') ho hsel (fun t ht=> ?_) (by rw[hf.size,hac.size]) (fun v w' hS'=> ?_) (hstep i o ho vs w hS fun j hj=>hRs j (hcl.ready (hdp i j hj) hi) fun i' hi' hk=>by
   have Qf:i'<ops.size:=by
    rcases Nat.lt_or_ge i' ops.size with h|h
    ·exact h
    ·rw[Array.getD_eq_getD_getElem?,Array.getElem?_eq_none (by omega)]at hi';cases hi'
   rcases hkl i' j i Qf his hk hj with e|e
   ·subst e;rw[hun]at hi';cases hi'
   ·have:=hcl.waits _ _ _ e hi';rw[hun]at this;cases this)
  ·refine hf.agree hac fun j oj hj hd=> ?_;rcases(jO hB ho hj hd).2 ht with⟨h2,h3⟩|⟨h2,h3⟩|h2
   ·rw[hcl.ready h3 hi];simp[h2]
   ·have h4:decide (j<i)=false:=(by simp;omega);rw[h4];cases hlj:listed.getD j false with
    |false=>rfl
    |true=>
     have:=hcl.waits _ _ _ h3 hlj;rw[hun]at this;cases this
   ·subst h2;rw[hun];simp
  ·obtain⟨hv,hS2,hst⟩:=hS';have hf2:Flo ops a0 (dI vs i v) (fun j=>listed.getD j false) a:=hf.congr fun j hj=>by
    unfold dI;rw[if_neg];rintro rfl;rw[hun]at hj;cases hj
   have hput:=hf2.put hB ho hset;have hvi:dI vs i v i=v:=(by simp[dI]);rw[hvi]at hput;refine ih (listed.setIfInBounds i true) _ w' (dI vs i v) (hcl.aJ hi) (by rw[Array.size_setIfInBounds];exact hsz) ?_ hput hS2 fun j hj hkj=> ?_
   ·have:=nS (f:=fun j=>listed.getD j false) (g:=fun j=>(listed.setIfInBounds i true).getD j false) hun hset ops.size his;omega
   ·rw[hset]at hj;by_cases hji:j=i
    ·subst hji;exact hv
    ·have hjl:listed.getD j false=true:=(by simpa[hji]using hj);refine hcg j vs _ _ (fun k hk=> ?_) (hR i j _ _ _ hji (hkj i (by rw[hset];simp)) (hRs j hjl fun i' hi'=>hkj i' (by rw[hset,hi'];rfl)) hst);unfold dI;rw[if_neg];rintro rfl;rcases hk with e|hk
     ·exact hji e.symm
     ·have:=hcl.waits _ _ _ (hdp j k hk) hjl;rw[hun]at this;cases this
def pO(R:Value→World→Prop)(a:Act)(d:Option Tmp):Exit→Act→World→Prop:=fun e a' w'=>e= .normal∧∃v,a'=a.put d v∧R v w'
theorem jW {id:Nat} {w:World} {l:List Oper} (Rs:Nat→(Nat→Value)→World→Prop) (S:World→Prop) (St:Nat→World→World→Prop) (dp:Nat→List Nat) (hm:P.follows .mixedOrders=true) (hB:dM l.toArray=true)
 (hdp:((List.range l.length).all fun i=>(dp i).all fun j=>aR .any l.toArray l.length i j)=true) (ND:∀i,l.length≤i→dp i=[])
 (kl:Nat→List Nat) (hkl:((List.range l.length).all fun i=>(kl i).all fun j=>(List.range l.length).all fun k=> !(dp k).contains j||k==i||aR .any l.toArray l.length i k)=true)
 (hcg:∀j vs vs' w,(∀k,k=j∨k∈dp j→vs k=vs' k)→Rs j vs w→Rs j vs' w) (hR:∀i j vs w w',j≠i→j∉kl i→Rs j vs w→St i w w'→Rs j vs w') (hS:S w.drew)
 (hstep:∀i o,l[i]?=some o→∀(vs:Nat→Value) w,S w→(∀j∈dp i,Rs j vs w)→wpList P l.toArray (pO (fun v w'=>Rs i (dI vs i v) w'∧S w'∧St i w w') (acV l.toArray a vs i) o.dst) [o] (acV l.toArray a vs i) w)
 (hend:∀(vs:Nat→Value) w,S w→(∀j,j<l.length→(∀i,i<l.length→j∉kl i)→Rs j vs w)→Q .normal (acV l.toArray a vs l.length) w):(Code.region id l.toArray true).wp P Q a w:=by
 have hsz:l.toArray.size=l.length:=(by simp);have hget:∀i:Nat,l.toArray[i]?=l[i]?:=fun i=>List.getElem?_toArray ..;refine wp_region_any hm ?_;refine GX (Rs:=Rs) (S:=S) (St:=St) hB dp (fun i j hj=> ?_) kl (fun i j k hi hk hj hd=> ?_) hcg hR (fun i o ho=>hstep i o (by rw[←hget];exact ho)) (fun vs w h1 h2=>by rw[hsz];exact hend vs w h1 (by rw[←hsz];exact h2)) _ _ a _ (fun _=>undef) (Closed.start _ _ _) (by simp) ?_ (Flo.start fun j=>getD_replicate_false _ _) hS (fun j hj _=>by rw[getD_replicate_false]at hj;cases hj)
 ·rw[hsz];rcases Nat.lt_or_ge i l.length with h|h
  ·exact List.all_eq_true.1 (List.all_eq_true.1 hdp i (List.mem_range.2 h)) j hj
  ·rw[ND i h]at hj;cases hj
 ·rw[hsz]at hi hk⊢;have h1:=List.all_eq_true.1 (List.all_eq_true.1 (List.all_eq_true.1 hkl i (List.mem_range.2 hi)) j hj) k (List.mem_range.2 hk);rw[Bool.or_eq_true,Bool.or_eq_true,Bool.not_eq_true',beq_iff_eq]at h1;rcases h1 with(h1|h1)|h1
  ·rw[List.contains_iff_mem.2 hd]at h1;cases h1
  ·exact .inl h1
  ·exact .inr h1
 ·have:(fun j=>(Array.replicate l.toArray.size false).getD j false)=fun _=>false:=funext fun j=>getD_replicate_false _ _;rw[this,lK]
end
end Go.Inq
namespace Go.Proofs.YtfhnamomiaekdaaGreatDoor
open Go.RowKit Go.Inq
set_option maxHeartbeats 4000000
attribute [local go_sem↓] Go.wp_at_zero Go.wp_at_succ
def GV(base n:Nat)(E:ak)(v:Value)(W:World):Prop:=∃g,base≤g∧v= .agg #[.int .i64 n,.slice (some ⟨g,0,none⟩) n n]∧Blk W g 172 (bn n E)
theorem GV.below{base n:Nat}{E:ak}{v:Value}{W W':World}(h:GV base n E v W)(hb:Below W.heap.size W W'):GV base n E v W':=by
 obtain⟨g,h1,h2,h3⟩:=h;exact⟨g,h1,h2,h3.below hb h3.lt⟩
def jP(b:Nat)(W W':World):Prop:=
 (W'.os=W.os∧W'.tape=W.tape∧W'.output=W.output∧W.heap.size≤W'.heap.size)∧∀k,k<W.heap.size→W'.heap[k]?=W.heap[k]?∨(b≤k∧∃cs cs',W.heap[k]?=some (.cells cs 77 (0,0))∧W'.heap[k]?=some (.cells cs' 77 (0,0))∧cs'.size=2)
theorem jP.of_below{b:Nat}{W W':World}(h:Below W.heap.size W W'):jP b W W':=⟨⟨h.os,h.tape,h.output,h.size⟩,fun k hk=> .inl (h.block k hk)⟩
theorem jP.blk{b g:Nat}{t:TypeId}{cs:Array Value}{W W':World}(h:jP b W W')(hk:Blk W g t cs)(ht:t≠77):Blk W' g t cs:=by
 rcases h.2 g hk.lt with e|⟨_,cs1,_,e,_⟩
 ·exact e.trans hk
 ·rw[show W.heap[g]?=_ from hk]at e;injection e with e
  injection e with _ e
  exact absurd e ht
theorem jP.below{b:Nat}{W W':World}(h:jP b W W'):Below b W W'∨W.heap.size<b:=by
 rcases Nat.lt_or_ge W.heap.size b with g|g
 ·exact .inr g
 ·exact .inl ⟨h.1.1,h.1.2.1,h.1.2.2.1,h.1.2.2.2,fun k hk=>by
   rcases h.2 k (by omega)with e|⟨e,_⟩
   ·exact e
   ·omega⟩
theorem GV.var{base n b:Nat}{E:ak}{v:Value}{W W':World}(h:GV base n E v W)(hb:jP b W W'):GV base n E v W':=by
 obtain⟨g,h1,h2,h3⟩:=h;exact⟨g,h1,h2,hb.blk h3 (by decide)⟩
def D9(b:Nat)(v:Value)(W:World):Prop:=∃g,b≤g∧v= .pointer (some ⟨g,0,none⟩)∧∃x y,Blk W g 77 #[x,y]
def jQ(H:List Txn)(A:Option Addr)(c base:Nat):Nat→(Nat→Value)→World→Prop
 |0,vs,_=>vs 0= .agg #[.slice A H.length c]
 |1,vs,W=>GV base H.length (soE H) (vs 1) W
 |2,vs,_=>vs 2= .agg #[.slice A H.length c]
 |3,vs,W=>GV base H.length (wrE H) (vs 3) W
 |4,vs,W=>∃u,vs 4= .tuple #[u,.int .i64 0]∧GV base H.length (bG H) u W
 |5,vs,W=>∃u,vs 5= .tuple #[u,.int .i64 0]∧GV base H.length (bG H) u W
 |6,vs,W=>GV base H.length (bG H) (vs 6) W
 |7,vs,_=>vs 7= .int .i64 0
 |8,vs,W=>D9 (base+2) (vs 8) W
 |9,vs,W=>∃g x y,vs 8= .pointer (some ⟨g,0,none⟩)∧base+2≤g∧vs 6= .agg #[x,y]∧Blk W g 77 #[x,y]
 |_,_,_=>True
def jm:Nat→List Nat
 |1=>[0]
 |3=>[2]
 |4=>[1,3]
 |5=>[4]
 |6=>[5]
 |7=>[5]
 |9=>[8,6]
 |10=>[7]
 |_=>[]
theorem LX{H:List Txn}{A:Option Addr}{c base:Nat}:∀j (vs vs':Nat→Value) w,(∀k,k=j∨k∈jm j→vs k=vs' k)→jQ H A c base j vs w→jQ H A c base j vs' w:=by
 intro j vs vs' w hk h
 match j,h with
 |0,h|1,h|2,h|3,h|4,h|5,h|6,h|7,h|8,h=>
  simp only[jQ]at h⊢;rw[←hk _ (.inl rfl)];exact h
 |9,h=>
  simp only[jQ]at h⊢;rw[←hk 8 (.inr (by simp[jm])),←hk 6 (.inr (by simp[jm]))];exact h
 |n+10,_=>trivial
def pQ(base:Nat)(i:Nat)(W W':World):Prop:=if i=9 then jP (base+2) W W' else Below W.heap.size W W'
theorem pQ.var{base i:Nat}{W W':World}(h:pQ base i W W'):jP (base+2) W W':=by
 unfold pQ at h;split at h
 ·exact h
 ·exact jP.of_below h
theorem D9.var{b b':Nat}{v:Value}{W W':World}(h:D9 b v W)(hs:jP b' W W'):D9 b v W':=by
 obtain⟨g,h1,h2,x,y,h3⟩:=h;rcases hs.2 g h3.lt with e|⟨_,cs,cs',_,e2,e3⟩
 ·exact⟨g,h1,h2,x,y,e.trans h3⟩
 ·refine⟨g,h1,h2,cs'[0]'(by omega),cs'[1]'(by omega),?_⟩;have:cs'=#[cs'[0]'(by omega),cs'[1]'(by omega)]:=by
   refine Array.ext (by simp[e3]) fun i h1 h2=> ?_;simp at h2
   match i,h2 with
   |0,_=>rfl
   |1,_=>rfl
  unfold Blk;rw[←this];exact e2
theorem GY{H:List Txn}{A:Option Addr}{c base:Nat}:∀i j (vs:Nat→Value) w w',j≠i→j∉(fun _=>[]:Nat→List Nat) i→jQ H A c base j vs w→pQ base i w w'→jQ H A c base j vs w':=by
 intro i j vs w w' hne _ h hs;have hv:=hs.var
 match j,h with
 |0,h|2,h|7,h=>exact h
 |1,h|3,h|6,h=>
  simp only[jQ]at h⊢;exact h.var hv
 |4,h|5,h=>
  simp only[jQ]at h⊢;obtain⟨u,h1,h2⟩:=h;exact⟨u,h1,h2.var hv⟩
 |8,h=>
  simp only[jQ]at h⊢;exact D9.var h hv
 |9,h=>
  unfold pQ at hs;rw[if_neg (fun e=>hne e.symm)]at hs;simp only[jQ]at h⊢;obtain⟨g,x,y,h1,h2,h3,h4⟩:=h;exact⟨g,x,y,h1,h2,h3,h4.below hs h4.lt⟩
 |n+10,_=>trivial
theorem GZ:∀i,11≤i→jm i=[]:=by
 intro i hi
 match i,hi with
 |n+11,_=>rfl
set_option maxRecDepth 100000 in
theorem Ea(A:Option Addr)(c:Nat)(H:List Txn)(w:World)(h:av w (Old w) (.slice A H.length c) H)(hn:aC H)(hr:aA H=true):
 Calls Tryz.prog 97 #[.agg #[.slice A H.length c]] w (lZ w H.length (bG H)):=by
 obtain⟨W0,hW0⟩:∃W0,(w.alloc (.cells #[.slice A H.length c] 24)).alloc (.cells #[.int .i64 0,.slice none 0 0] 77)=W0:=⟨_,rfl⟩;have hB:=aQ hW0;have k0:=Blk.j6 hW0;have k1:=Blk.jd hW0;have h32:H.length≤32:=((aD H).1 hr).1;go_enter Tryz.func97,Tryz.ntmps97;go_wp2_with fail;clear hW0;refine jW (jQ H A c w.heap.size) (fun W=>Below w.heap.size w W∧Blk W w.heap.size 24 #[.slice A H.length c]∧Blk W (w.heap.size+1) 77 #[.int .i64 0,.slice none 0 0]) (pQ w.heap.size) jm (by kernel_rfl) (by kernel_rfl) (by kernel_rfl) GZ (fun _=>[]) (by kernel_rfl) LX GY ⟨hB.drew,k0,k1⟩ ?hstep ?hend;case hstep=>
  intro i o ho vs W hS hd;obtain⟨hb,m0,m1⟩:=hS;have hT:=h.below hb
  match i,ho with
  |0,ho=>
   simp only[gZ,gS,Option.some.injEq]at ho;subst ho;simp only[acV,gA,gZ,gS,Act.put,sA,sZ,sS];have c0:=Blk.n0 m0;go_wp2;exact⟨rfl,.agg #[.slice A H.length c],rfl,rfl,⟨hb,m0,m1⟩,Below.refl _ _⟩
  |1,ho=>
   have d0:=hd 0 (by simp[jm]);simp only[jQ]at d0;simp only[gZ,gS,Option.some.injEq]at ho;subst ho;simp only[acV,gA,gZ,gS,Act.put,sA,sZ,sS];rw[d0];go_wp2_with fail;refine(JU A c H _ hT hn hr).mono ?_;rintro e W2 ⟨g,hg,rfl,kR,hb2⟩;go_wp2;exact⟨rfl,_,rfl,⟨g,Nat.le_trans hb.size hg,rfl,kR⟩,⟨hb.trans (hb2.mono hb.size),m0.below hb2 m0.lt,m1.below hb2 m1.lt⟩,hb2⟩
  |2,ho=>
   simp only[gZ,gS,Option.some.injEq]at ho;subst ho;simp only[acV,gA,gZ,gS,Act.put,sA,sZ,sS];have c0:=Blk.n0 m0;go_wp2;exact⟨rfl,.agg #[.slice A H.length c],rfl,rfl,⟨hb,m0,m1⟩,Below.refl _ _⟩
  |3,ho=>
   have d0:=hd 2 (by simp[jm]);simp only[jQ]at d0;simp only[gZ,gS,Option.some.injEq]at ho;subst ho;simp only[acV,gA,gZ,gS,Act.put,sA,sZ,sS];rw[d0];go_wp2_with fail;refine(JW A c H _ hT hn hr).mono ?_;rintro e W2 ⟨g,hg,rfl,kR,hb2⟩;go_wp2;exact⟨rfl,_,rfl,⟨g,Nat.le_trans hb.size hg,rfl,kR⟩,⟨hb.trans (hb2.mono hb.size),m0.below hb2 m0.lt,m1.below hb2 m1.lt⟩,hb2⟩
  |4,ho=>
   obtain⟨g1,hg1,d1,q1⟩:=hd 1 (by simp[jm]);obtain⟨g3,hg3,d3,q3⟩:=hd 3 (by simp[jm]);simp only[gZ,gS,Option.some.injEq]at ho;subst ho;simp only[acV,gA,gZ,gS,Act.put,sA,sZ,sS];rw[d1,d3];go_wp2_with fail;refine(tN H.length _ _ _ _ (soE H) (wrE H) (Old W) _ (GrS.bE q1 q1.lt (by omega)) (GrS.bE q3 q3.lt (by omega)) (fun b hb=>hb)).mono ?_;rintro e W2 ⟨g,hg,rfl,kR,hb2⟩;go_wp2;exact⟨rfl,_,rfl,⟨_,rfl,g,Nat.le_trans hb.size hg,rfl,kR⟩,⟨hb.trans (hb2.mono hb.size),m0.below hb2 m0.lt,m1.below hb2 m1.lt⟩,hb2⟩
  |5,ho=>
   obtain⟨u,d4,q4⟩:=hd 4 (by simp[jm]);simp only[gZ,gS,Option.some.injEq]at ho;subst ho;simp only[acV,gA,gZ,gS,Act.put,sA,sZ,sS];rw[d4];go_wp2;exact⟨rfl,_,rfl,⟨_,rfl,q4⟩,⟨hb,m0,m1⟩,Below.refl _ _⟩
  |6,ho=>
   obtain⟨u,d5,q5⟩:=hd 5 (by simp[jm]);simp only[gZ,gS,Option.some.injEq]at ho;subst ho;simp only[acV,gA,gZ,gS,Act.put,sA,sZ,sS];rw[d5];go_wp2;exact⟨rfl,_,rfl,q5,⟨hb,m0,m1⟩,Below.refl _ _⟩
  |7,ho=>
   obtain⟨u,d5,q5⟩:=hd 5 (by simp[jm]);simp only[gZ,gS,Option.some.injEq]at ho;subst ho;simp only[acV,gA,gZ,gS,Act.put,sA,sZ,sS];rw[d5];go_wp2;exact⟨rfl,_,rfl,rfl,⟨hb,m0,m1⟩,Below.refl _ _⟩
  |8,ho=>
   simp only[gZ,gS,Option.some.injEq]at ho;subst ho;simp only[acV,gA,gZ,gS,Act.put,sA,sZ,sS];go_wp2;have hsz:=m1.lt;exact⟨rfl,_,rfl,⟨W.heap.size,by omega,rfl,_,_,Blk.new _ _ _⟩,⟨hb.alloc hb.size _,m0.alloc _,m1.alloc _⟩,(Below.refl _ _).alloc (Nat.le_refl _) _⟩
  |9,ho=>
   obtain⟨g,hg,d8,x,y,q8⟩:=hd 8 (by simp[jm]);obtain⟨g6,hg6,d6,q6⟩:=hd 6 (by simp[jm]);simp only[gZ,gS,Option.some.injEq]at ho;subst ho;simp only[acV,gA,gZ,gS,Act.put,sA,sZ,sS];rw[d8,d6];have c0:=Blk.n0 q8;have c1:=Blk.n1 q8;have f0:=q8.frozen 0;have f1:=q8.frozen 1;go_wp2;have hq:=(q8.aJ 0 (.int .i64 H.length)).aJ 1 (.slice (some ⟨g6,0,none⟩) H.length H.length);have n1:w.heap.size≠g:=(by omega);have n2:w.heap.size+1≠g:=(by omega);refine⟨rfl,undef,rfl,⟨g,_,_,(show dI vs 9 undef 8=_ from d8),hg,(show dI vs 9 undef 6=_ from d6),by simpa using hq⟩,⟨(hb.setCell (p:=⟨g,0,none⟩) (by simp;omega) _).setCell (p:=⟨g,1,none⟩) (by simp;omega) _,(m0.far n1 _).far n1 _,(m1.far n2 _).far n2 _⟩,?_⟩;unfold pQ;rw[if_pos rfl];refine⟨⟨rfl,rfl,rfl,by simp⟩,fun k hk=> ?_⟩;by_cases e:k=g
   ·subst e;exact .inr ⟨hg,_,_,q8,hq,by simp⟩
   ·exact .inl ((Below.heap_setCell _ ⟨g,1,none⟩ _ k e).trans (Below.heap_setCell _ ⟨g,0,none⟩ _ k e))
  |10,ho=>
   have d7:=hd 7 (by simp[jm]);simp only[jQ]at d7;simp only[gZ,gS,Option.some.injEq]at ho;subst ho;simp only[acV,gA,gZ,gS,Act.put,sA,sZ,sS];rw[d7];go_wp2;exact⟨rfl,_,rfl,trivial,⟨hb,m0,m1⟩,Below.refl _ _⟩
  |n+11,ho=>simp at ho
 case hend=>
  rintro vs W ⟨hb,m0,m1⟩ hd;obtain⟨g,x,y,d8,hg,d6,q9⟩:=hd 9 (by simp) (by simp);obtain⟨g6,hg6,d6',q6⟩:=hd 6 (by simp) (by simp);rw[d6]at d6';injection d6' with d6'
  simp only[Array.mk.injEq,List.cons.injEq,and_true]at d6';obtain⟨rfl,rfl⟩:=d6';clear hd;simp only[acV,gA,gZ,gS,Act.put,sA,sZ,sS,List.length_cons,List.length_nil,Nat.reduceAdd];rw[d8,d6];have c0:=Blk.n0 q9;have c1:=Blk.n1 q9;have j0:=Blk.n0 m1;have j1:=Blk.n1 m1;have jf:=m1.frozen 0;have jf1:=m1.frozen 1;have hne:g6≠w.heap.size+1:=by
   rintro rfl;have:=m1.symm.trans q6;simp at this
  go_wp2;have kF0:=((q6.far (p:=⟨w.heap.size+1,0,none⟩) hne (.int .i64 H.length)).far (p:=⟨w.heap.size+1,1,none⟩) hne (.slice (some ⟨g6,0,none⟩) H.length H.length));have hF:=((hb.setCell (p:=⟨w.heap.size+1,0,none⟩) (by simp) (.int .i64 H.length)).setCell (p:=⟨w.heap.size+1,1,none⟩) (by simp) (.slice (some ⟨g6,0,none⟩) H.length H.length));exact bodyPost_ret (v:= .agg #[.int .i64 H.length,.slice (some ⟨g6,0,none⟩) H.length H.length]) (by simp[results,Tryz.results97,go_sem,j0,j1]) rfl ⟨g6,hg6,rfl,kF0,hF⟩
end Go.Proofs.YtfhnamomiaekdaaGreatDoor
