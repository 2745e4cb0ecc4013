/-
  Walks: layer 17: edges laid into a graph.
-/
import Derived.Maps.OwnIn
import Derived.Test.YtfhnamomiaekdaaGreatDoorP14
import Derived.Test.YtfhnamomiaekdaaGreatDoorP05
import Derived.Test.YtfhnamomiaekdaaGreatDoorP02
import Derived.Test.YtfhnamomiaekdaaGreatDoorP06
import Derived.Test.YtfhnamomiaekdaaGreatDoorP07
import Derived.Test.YtfhnamomiaekdaaGreatDoorP11
set_option linter.unusedVariables false
set_option linter.unusedSimpArgs false
namespace Go.Proofs.YtfhnamomiaekdaaGreatDoor
open Go.RowKit Go.Inq
set_option maxHeartbeats 4000000
attribute [local go_sem↓] Go.wp_at_zero Go.wp_at_succ
def dG(W:World)(Bg base n:Nat)(E:au):Prop:=
 ∃g,base≤g∧Blk W Bg 77 #[.int .i64 n,.slice (some ⟨g,0,none⟩) n n]∧Blk W g 172 (bF n E)
theorem dG.congr{W:World}{Bg base n:Nat}{E F:au}(h:dG W Bg base n E)(hE:∀a b,a<n→b<n→E a b=F a b):dG W Bg base n F:=by
 obtain⟨g,h1,h2,h3⟩:=h;exact⟨g,h1,h2,by rw[←cu hE];exact h3⟩
theorem dG.grown{W W':World}{Bg base n:Nat}{E:au}{r:Option Nat}(h:dG W Bg base n E)(hg:W.grownBy W' r)(hr:∀k,r=some k→k≠Bg∧k<base):dG W' Bg base n E:=by
 obtain⟨g,h1,h2,h3⟩:=h;exact⟨g,h1,h2.grown hg (fun e=>(hr Bg e.symm).1 rfl),h3.grown hg (fun e=>by have:=(hr g e.symm).2;omega)⟩
theorem dG.below{W W':World}{Bg base n:Nat}{E:au}(h:dG W Bg base n E)(hb:Below W.heap.size W W'):dG W' Bg base n E:=h.grown (r:=none) (bC hb (Nat.le_refl _)) (fun k e=>by cases e)
theorem dG.lt{W:World}{Bg base n:Nat}{E:au}(h:dG W Bg base n E):Bg<W.heap.size:=by
 obtain⟨g,h1,h2,h3⟩:=h;exact h2.lt
def ru(E:au)(a b:Int):au:=if 0≤a∧a≠b then orE E (iQ a.toNat b.toNat)else E
set_option maxRecDepth 100000 in
theorem oN(n:Nat)(hn:n≤64)(E:au)(a b:Int)(ha:a<n)(hb0:0≤b)(hb:b<n)(Bg base:Nat)(w:World)(h:dG w Bg base n E)(hbase:base≤w.heap.size):
 Calls Tryz.prog 258 #[.int .i64 a,.int .i64 b,.pointer (some ⟨Bg,0,none⟩)] w fun e w'=>e= .returned (.tuple #[])∧dG w' Bg base n (ru E a b)∧w.grownBy w' (some Bg):=by
 by_cases h0:0≤a
 ·by_cases hne:a=b
  ·have hE:ru E a b=E:=(by unfold ru;rw[if_neg (by omega)]);rw[hE];have h0b:decide (a≥0)=true:=(by simpa using h0);have h1b:(a !=b)=false:=(by simpa using hne);clear hne hE;go_enter Tryz.func258,Tryz.ntmps258;go_wp2
   go_end0
   exact⟨rfl,h,World.grownBy.refl _ _⟩
  ·have hE:ru E a b=orE E (iQ a.toNat b.toNat):=(by unfold ru;rw[if_pos ⟨h0,hne⟩]);rw[hE];obtain⟨x,rfl⟩:∃x:Nat,a=x:=⟨a.toNat,by omega⟩;obtain⟨y,rfl⟩:∃y:Nat,b=y:=⟨b.toNat,by omega⟩;simp only[Int.toNat_natCast];have h0b:decide ((x:Int)≥0)=true:=(by simp);have h1b:((x:Int) !=(y:Int))=true:=(by simpa using hne);have h1c:(x !=y)=true:=(by simp;omega);have hx:x<n:=(by omega);have hy:y<n:=(by omega);obtain⟨g,hg,k0,kR⟩:=h;have nX:g≠Bg:=by
    rintro rfl;have:=k0.symm.trans kR;simp at this
   clear hne hE h0;have c0:=Blk.n0 k0;have c1:=Blk.n1 k0;have hG:GrS w (fun b=>b=g) n (some ⟨g,0,none⟩) n E:=GrS.bW kR rfl hn;have hgl:=kR.lt;go_enter Tryz.func258,Tryz.ntmps258;go_wp2_with fail;refine(qZ n (some ⟨g,0,none⟩) n E x y hx hy (fun b=>b=g) _ hG (fun b hb=>by subst hb;exact hgl)).mono ?_;rintro e w1 ⟨g',hgs,rfl,kR',hb1⟩;clear c0 c1;have k1:=k0.below hb1 k0.lt;have c0:=Blk.n0 k1;have c1:=Blk.n1 k1;have f0:=k1.frozen 0;have f1:=k1.frozen 1;have hBl:=k0.lt;go_wp2
   go_end0
   refine⟨rfl,⟨g',by omega,?_,?_⟩,aj (aj (bC hb1 (Nat.le_refl _)) (bI Bg 0 _)) (bI Bg 1 _)⟩
   ·have:=(k1.aK 0 (.int .i64 n)).aK 1 (.slice (some ⟨g',0,none⟩) n n);simpa using this
   ·exact(kR'.far (p:=⟨Bg,0,none⟩) (by simp;omega) _).far (p:=⟨Bg,1,none⟩) (by simp;omega) _
 ·have hE:ru E a b=E:=(by unfold ru;rw[if_neg (by omega)]);rw[hE];have h0b:decide (a≥0)=false:=(by simpa using h0);clear h0 hE;go_enter Tryz.func258,Tryz.ntmps258;go_wp2
  go_end0
  exact⟨rfl,h,World.grownBy.refl _ _⟩
def lW(w:World)(n:Nat)(E:au)(e:Ending)(w':World):Prop:=
 ∃g,w.heap.size≤g∧e= .returned (.agg #[.int .i64 n,.slice (some ⟨g,0,none⟩) n n])∧Blk w' g 172 (bF n E)∧Below w.heap.size w w'
theorem lW.congr{w w':World}{n:Nat}{E F:au}{e:Ending}(h:lW w n E e w')(hE:∀a b,a<n→b<n→E a b=F a b):lW w n F e w':=by
 unfold lW at h⊢;rw[←cu hE];exact h
set_option maxRecDepth 100000 in
theorem oO (f:Nat) (hf:∀args w,(callFunc f args).run Tryz.prog w= .ok (.enter f args) w) (lb:Array Value) (A:Option Addr) (c:Nat) (H:List Txn) (E:au) (w:World) (h:aA w (Old w) (.slice A H.length c) H) (hn:aG H) (hr:ay H=true)
 (MC:∀(W:World) (Bg:Nat),Below w.heap.size w W→dG W Bg w.heap.size H.length noE→w.heap.size<Bg→
  Calls Tryz.prog f (#[.func (.func 258) #[] #[.pointer (some ⟨Bg,0,none⟩)]]++lb) W fun e W'=>e= .returned (.tuple #[])∧dG W' Bg w.heap.size H.length E∧W.grownBy W' (some Bg)):
 Calls Tryz.prog 222 #[.agg #[.slice A H.length c],.func (.func f) #[] lb] w (lW w H.length E):=by
 obtain⟨W0,hW0⟩:∃W0,(w.alloc (.cells #[.slice A H.length c] 24)).alloc (.cells #[.int .i64 0,.slice none 0 0] 77)=W0:=⟨_,rfl⟩;have hB:=aN hW0;have k0:=Blk.jg hW0;have k1:=Blk.iB hW0;have h0:=hide (h.below hB);have h32:H.length≤32:=((aC H).1 hr).1;have hs0:=size_two hW0;replace hn:=hide hn;replace hr:=hide hr;replace MC:=hide MC;clear h;have c0:=Blk.n0 k0;replace hs0:=hide hs0;go_enter Tryz.func222,Tryz.ntmps222;go_wp2_with fail;clear hW0 c0;refine(dn A c H _ h0.out hn.out).mono ?_;rintro e w1 ⟨rfl,hb1⟩;rw[hr.out];have hs1:w.heap.size+2≤w1.heap.size:=(by have:=hb1.size;have:=hs0.out;omega);replace k0:=k0.below hb1 k0.lt;replace k1:=k1.below hb1 k1.lt;have hb2:=hB.trans (hb1.mono hB.size);clear hb1 hB h0 hs0;have c0:=Blk.n0 k0;go_wp2_with fail;refine(iZ H.length (by omega) _).mono ?_;rintro e w2 ⟨g,hgs,rfl,kR,hb3⟩;replace k1:=k1.below hb3 k1.lt;replace hb2:=hb2.trans (hb3.mono hb2.size);have hs2:w1.heap.size≤w2.heap.size:=hb3.size;obtain⟨W3,hW3⟩:∃W3,w2.alloc (.cells #[.int .i64 H.length,.slice (some ⟨g,0,none⟩) H.length H.length] 77)=W3:=⟨_,rfl⟩;have k3:=Blk.newEq hW3;have hs3:=aD hW3;replace k1:=k1.av hW3;replace kR:=kR.av hW3;have hb5:=ah hb2 hW3 (by omega);have aV:dG W3 w2.heap.size w.heap.size H.length noE:=⟨g,by omega,k3,kR⟩;have hcall:=hide (MC.out W3 w2.heap.size hb5 aV (by omega));replace hs3:=hide hs3;clear hb3 c0 k0 k3 kR hb2 aV;go_wp2_with fail;refine hcall.out.mono ?_;rintro e w4 ⟨rfl,⟨g',hg',kB,kR⟩,hg4⟩;have nX:g'≠w.heap.size+1:=by
  rintro rfl;have:=(k1.grown hg4 (by simp;omega)).symm.trans kR;simp at this
 have k14:=k1.grown hg4 (by simp;omega);have hb4:=below_grown hb5 hg4 hb5.size (by intro k hk;injection hk with hk;omega);have c0:=Blk.n0 kB;have c1:=Blk.n1 kB;have j0:=Blk.n0 k14;have j1:=Blk.n1 k14;have jf:=k14.frozen 0;have jf1:=k14.frozen 1;clear hcall hW3;go_wp2;have kF0:=((kR.far (p:=⟨w.heap.size+1,0,none⟩) nX (.int .i64 H.length)).far (p:=⟨w.heap.size+1,1,none⟩) nX (.slice (some ⟨g',0,none⟩) H.length H.length));have hF:=((hb4.setCell (p:=⟨w.heap.size+1,0,none⟩) (by simp) (.int .i64 H.length)).setCell (p:=⟨w.heap.size+1,1,none⟩) (by simp) (.slice (some ⟨g',0,none⟩) H.length H.length));exact bodyPost_ret (v:= .agg #[.int .i64 H.length,.slice (some ⟨g',0,none⟩) H.length H.length]) (by simp[results,Tryz.results222,go_sem,j0,j1]) rfl ⟨g',hg',rfl,kF0,hF⟩
def iG(H:List Txn)(b a:Nat):au:=fun x y=>soE H x y&&(decide (y<b)||(decide (y=b)&&decide (x<a)))
theorem Az(H:List Txn)(x y:Nat):noE x y=iG H 0 0 x y:=by simp[noE,iG]
theorem Dr(H:List Txn)(b x y:Nat):iG H b b x y=iG H (b+1) 0 x y:=by
 unfold iG soE;rw[Bool.eq_iff_iff];simp;omega
theorem Gg{H:List Txn}{n x y:Nat}(hy:y<n):iG H n 0 x y=soE H x y:=by simp[iG,hy]
theorem Gh{H:List Txn}{b a:Nat}(hab:a<b)(hs:(aF H a).dH=(aF H b).dH)(x y:Nat):ru (iG H b a) (a:Int) (b:Int) x y=iG H b (a+1) x y:=by
 unfold ru;rw[if_pos ⟨by omega,by omega⟩];simp only[Int.toNat_natCast,orE,iQ,iG];by_cases e1:y=b
 ·by_cases e2:x=a
  ·subst e1 e2;simp[soE,hab,hs]
  ·have:decide (x<a+1)=decide (x<a):=(by simp;omega);simp[e2,this]
 ·simp[e1]
theorem Ju{H:List Txn}{b a:Nat}(hs:(aF H a).dH≠(aF H b).dH)(x y:Nat):iG H b a x y=iG H b (a+1) x y:=by
 unfold iG;by_cases e1:y=b
 ·by_cases e2:x=a
  ·subst e1 e2;simp[soE,hs]
  ·have:decide (x<a+1)=decide (x<a):=(by simp;omega);simp[this]
 ·simp[e1]
set_option maxRecDepth 100000 in
theorem K7(A:Option Addr)(c:Nat)(H:List Txn)(h32:H.length≤32)(Bh Bg base:Nat)(K:Nat→Prop)(w:World)(hT:aA w K (.slice A H.length c) H)(hBh:Blk w Bh 24 #[.slice A H.length c])(hK:∀b,K b→b<base)(hB:Bh<base)(hBg:base≤Bg)(aV:dG w Bg base H.length noE)(hbw:base≤w.heap.size):
 Calls Tryz.prog 223 #[.func (.func 258) #[] #[.pointer (some ⟨Bg,0,none⟩)],.pointer (some ⟨Bh,0,none⟩)] w fun e w'=>e= .returned (.tuple #[])∧dG w' Bg base H.length (soE H)∧w.grownBy w' (some Bg):=by
 have c0:=Blk.n0 hBh;replace hT:=hide hT;replace aV:=hide (aV.congr fun a b _ _=>Az H a b);have hK0:Hid (∀w',w.grownBy w' (some Bg)→Agree K w w'):=hide fun w' hg=>Agree.jH hg (fun b hb=>Nat.lt_of_lt_of_le (hK b hb) hBg) (Nat.le_of_lt aV.out.lt);replace hK:=hide hK;go_enter Tryz.func223,Tryz.ntmps223;go_wp2_with fail;clear c0;go_loopw [10] (fun s10 wr=>∃b:Nat,b≤H.length∧s10= .int .i64 b∧dG wr Bg base H.length (iG H b 0)∧w.grownBy wr (some Bg)) (fun s10 _=>H.length-(intOf s10).toNat);case atStart=>exact⟨0,Nat.zero_le _,by go_num,aV.out,World.grownBy.refl _ _⟩
 case round=>
  clear aV;obtain⟨Wo,rfl⟩:∃Wo,Wo=wr:=⟨_,rfl⟩;obtain⟨b,hb,rfl,aV,hgw⟩:=hrel;have hi1:(0:Int)≤(b:Int):=Int.natCast_nonneg _;by_cases hlt:b<H.length
  ·have hi2:(b:Int)<(H.length:Int):=(by omega);have hag:=hK0.out Wo hgw;obtain⟨ba,oa,Aw,cw,Ar,cr,rfl,hKb,d0,d1,d2,_,_⟩:=aA.at_ (aA.keep hT.out hag (fun b h=>h)) hlt;have hBo:=hBh.grown hgw (by simp;omega);have KT:=hgw.size;have hty:=hide (aH hlt);generalize ME:H[b]=ty at*;obtain⟨ys,yw,yr⟩:=ty;dsimp only at*;clear ME;have Pn:=aV.lt;have LV:Hid ((aF H b).dH=ys):=hide (by rw[hty.out]);obtain⟨W1,hW1⟩:∃W1,Wo.alloc (.cells #[.int .i64 ys,.slice Aw yw.length cw,.slice Ar yr.length cr] 109)=W1:=⟨_,rfl⟩;have kY:=Blk.newEq hW1;have hs1:=aD hW1;have hgw1:w.grownBy W1 (some Bg):=(by rw[←hW1];exact aj hgw (World.grownBy_alloc _ _ _));have AA:dG W1 Bg base H.length (iG H b 0):=(by rw[←hW1];exact aV.grown (r:=none) (World.grownBy_alloc _ _ _) (fun k e=>by cases e));have hB1:=hBo.av hW1;have b0:=Blk.n0 hB1;have hHc:H.length≤c:=by
    obtain⟨_,_,e,h2⟩:=SlR.len hT.out;injection e with e1 e2 e3
    omega
   have hbc:b≤c:=(by omega);have hbc2:(b:Int)≤(c:Int):=(by omega);go_wp2_with fail;clear d0 d1 d2 b0 aV hgw hBo hag hW1;go_loopw [20] (fun s20 wq=>∃a:Nat,a≤b∧s20= .int .i64 a∧dG wq Bg base H.length (iG H b a)∧W1.grownBy wq (some Bg)) (fun s20 _=>b-(intOf s20).toNat);case atStart=>exact⟨0,Nat.zero_le _,by go_num,AA,World.grownBy.refl _ _⟩
   case round=>
    clear AA;obtain⟨a,ha,rfl,aV,hgq⟩:=hrel;have ha1:(0:Int)≤(a:Int):=Int.natCast_nonneg _;have K8:=aj hgw1 hgq;by_cases hlt2:a<b
    ·have ha2:(a:Int)<(b:Int):=(by omega);have ha3:(a:Int)<(H.length:Int):=(by omega);have hag:=hK0.out _ K8;obtain⟨_,_,Aw',cw',Ar',cr',e,_,d0,d1,d2,_,_⟩:=aA.at_ (i:=a) (aA.keep hT.out hag (fun b h=>h)) (by omega);injection e with e
     injection e with e1 e2
     subst e1 e2;have htx:=hide (aH (H:=H) (t:=a) (by omega));generalize ME:H[a]=tx at*;obtain⟨xs,xw,xr⟩:=tx;dsimp only at*;clear ME;have hsx:Hid ((aF H a).dH=xs):=hide (by rw[htx.out]);have kYq:=kY.grown hgq (by simp;omega);obtain⟨W2,hW2⟩:∃W2,wr.alloc (.cells #[.int .i64 xs,.slice Aw' xw.length cw',.slice Ar' xr.length cr'] 109)=W2:=⟨_,rfl⟩;have kX:=Blk.newEq hW2;have kY2:=kYq.av hW2;have Gi:W1.grownBy W2 (some Bg):=(by rw[←hW2];exact aj hgq (World.grownBy_alloc _ _ _));have EZ:dG W2 Bg base H.length (iG H b a):=(by rw[←hW2];exact aV.grown (r:=none) (World.grownBy_alloc _ _ _) (fun k e=>by cases e));have x0:=Blk.n0 kX;have y0:=Blk.n0 kY2;have hsz2:base≤W2.heap.size:=(by have:=(aj hgw1 Gi).size;omega);by_cases hs:xs=ys
     ·have hsb:(xs==ys)=true:=(by simpa using hs);have hst:=hide (fun x y=>Gh (H:=H) (b:=b) (a:=a) hlt2 (by rw[hsx.out,LV.out];exact hs) x y);clear hs;go_wp2_with fail;clear d0 d1 d2 x0 y0 hW2;refine(oN H.length (by omega) _ (a:Int) (b:Int) ha3 hi1 hi2 Bg base _ EZ hsz2).mono ?_;rintro e w5 ⟨rfl,qd,hg5⟩;go_wp2;go_roundw;case rel=>exact⟨a+1,by omega,by go_num,qd.congr fun x y _ _=>hst.out x y,aj Gi hg5⟩
      case measure=>simp[intOf];omega
     ·have hsb:(xs==ys)=false:=(by simpa using hs);have hst:=hide (fun x y=>Ju (H:=H) (b:=b) (a:=a) (by rw[hsx.out,LV.out];exact hs) x y);clear hs;go_wp2;go_roundw;case rel=>exact⟨a+1,by omega,by go_num,EZ.congr fun x y _ _=>hst.out x y,Gi⟩
      case measure=>simp[intOf];omega
    ·obtain rfl:a=b:=(by omega);go_wp2;go_roundw;case rel=>exact⟨a+1,by omega,by go_num,aV.congr fun x y _ _=>Dr H a x y,K8⟩
     case measure=>simp[intOf];omega
  ·obtain rfl:b=H.length:=(by omega);go_wp2
   go_end0
   exact⟨rfl,aV.congr fun x y _ hy=>Gg hy,hgw⟩
set_option maxRecDepth 100000 in
theorem Jv(A:Option Addr)(c:Nat)(H:List Txn)(w:World)(h:aA w (Old w) (.slice A H.length c) H)(hn:aG H)(hr:ay H=true):
 Calls Tryz.prog 164 #[.agg #[.slice A H.length c]] w (lW w H.length (soE H)):=by
 obtain⟨W0,hW0⟩:∃W0,(w.alloc (.cells #[.slice A H.length c] 24)).alloc (.cells #[.int .i64 0,.slice none 0 0] 77)=W0:=⟨_,rfl⟩;have hB:=aN hW0;have k0:=Blk.jg hW0;have k1:=Blk.iB hW0;have hs0:=size_two hW0;have h0:=h.below hB;have h32:H.length≤32:=((aC H).1 hr).1;have hcall:=hide (oO 223 (enters_of Tryz.func223 (by kernel_rfl) rfl) #[.pointer (some ⟨w.heap.size,0,none⟩)] A c H (soE H) W0 h0 hn hr (fun W Bg hbW aV hBg=>by
  have Jw:Below w.heap.size w W:=hB.trans (hbW.mono (by omega));exact(K7 A c H h32 w.heap.size Bg W0.heap.size (Old w) W (aA.keep h (Agree.below Jw fun b h=>h) (fun b h=>h)) (k0.below hbW k0.lt) (fun b hb=>by have:b<w.heap.size:=hb;omega) (by omega) (by omega) aV hbW.size).mono fun e w' hh=>hh))
 have c0:=Blk.n0 k0;replace hs0:=hide hs0;go_enter Tryz.func164,Tryz.ntmps164;go_wp2_with fail;clear hW0 c0;refine hcall.out.mono ?_;rintro e w4 ⟨g,hg,rfl,kR,hb4⟩;have nX:g≠w.heap.size+1:=(by have:=hs0.out;omega);have k14:=k1.below hb4 k1.lt;have hb5:=hB.trans (hb4.mono (by have:=hs0.out;omega));have j0:=Blk.n0 k14;have j1:=Blk.n1 k14;have jf:=k14.frozen 0;have jf1:=k14.frozen 1;have hgw:w.heap.size≤g:=(by have:=hs0.out;omega);clear hcall;go_wp2;have kF0:=((kR.far (p:=⟨w.heap.size+1,0,none⟩) nX (.int .i64 H.length)).far (p:=⟨w.heap.size+1,1,none⟩) nX (.slice (some ⟨g,0,none⟩) H.length H.length));have hF:=((hb5.setCell (p:=⟨w.heap.size+1,0,none⟩) (by simp) (.int .i64 H.length)).setCell (p:=⟨w.heap.size+1,1,none⟩) (by simp) (.slice (some ⟨g,0,none⟩) H.length H.length));exact bodyPost_ret (v:= .agg #[.int .i64 H.length,.slice (some ⟨g,0,none⟩) H.length H.length]) (by simp[results,Tryz.results164,go_sem,j0,j1]) rfl ⟨g,hgw,rfl,kF0,hF⟩
def jL(H:List Txn)(b j:Nat):au:=fun x y=>(decide (y<b)&&wrE H x y)||(decide (y=b)&&decide (x≠y)&&((aF H b).reads.take j).any fun r=>decide (r.b=(x:Int)))
theorem AB(H:List Txn)(x y:Nat):noE x y=jL H 0 0 x y:=by simp[noE,jL]
theorem Dt(H:List Txn)(b x y:Nat):jL H b (aF H b).reads.length x y=jL H (b+1) 0 x y:=by
 unfold jL;rw[List.take_length];by_cases e:y=b
 ·subst e;simp[wrE]
 ·have:decide (y<b+1)=decide (y<b):=(by simp;omega);simp[e,this]
theorem Gj{H:List Txn}{n x y:Nat}(hy:y<n):jL H n 0 x y=wrE H x y:=by simp[jL,hy]
theorem Du{H:List Txn}{b j:Nat}(hj:j<(aF H b).reads.length)(x y:Nat):ru (jL H b j) (aF H b).reads[j].b (b:Int) x y=jL H b (j+1) x y:=by
 have ht:(aF H b).reads.take (j+1)=(aF H b).reads.take j++[(aF H b).reads[j]]:=take_snoc' hj;unfold jL;rw[ht];generalize(aF H b).reads[j]=r;generalize(aF H b).reads.take j=l;rw[List.any_append];simp only[List.any_cons,List.any_nil,Bool.or_false];unfold ru;split
 ·rename_i h;simp only[orE,iQ,Int.toNat_natCast];by_cases e1:y=b
  ·subst e1;by_cases e2:x=r.b.toNat
   ·have e3:r.b=(x:Int):=(by omega);have e4:x≠y:=(by omega);rw[decide_eq_true e2,decide_eq_true e3,decide_eq_true e4];simp
   ·have e3:¬r.b=(x:Int):=(by omega);simp[e2,e3]
  ·simp[e1]
 ·rename_i h;by_cases e1:y=b
  ·subst e1;by_cases e2:x=y
   ·simp[e2]
   ·have e3:¬r.b=(x:Int):=fun e=>h ⟨by omega,by omega⟩;simp[e2,e3]
  ·simp[e1]
theorem Dv{H:List Txn}(hr:ay H=true){b:Nat}(hb:b<H.length):∀r∈(aF H b).reads,r.b<(H.length:Int):=by
 rw[aH hb];intro r h;rcases(gV _ _ _).1 ((((aC H).1 hr).2 b hb).there r h)with e|⟨k,hk,e,_,_⟩<;>omega
set_option maxRecDepth 100000 in
theorem K9(A:Option Addr)(c:Nat)(H:List Txn)(hr:ay H=true)(hn:aG H)(Bh Bg base:Nat)(K:Nat→Prop)(w:World)(hT:aA w K (.slice A H.length c) H)(hBh:Blk w Bh 24 #[.slice A H.length c])(hK:∀b,K b→b<base)(hB:Bh<base)(hBg:base≤Bg)(aV:dG w Bg base H.length noE)(hbw:base≤w.heap.size):
 Calls Tryz.prog 224 #[.func (.func 258) #[] #[.pointer (some ⟨Bg,0,none⟩)],.pointer (some ⟨Bh,0,none⟩)] w fun e w'=>e= .returned (.tuple #[])∧dG w' Bg base H.length (wrE H)∧w.grownBy w' (some Bg):=by
 have c0:=Blk.n0 hBh;have h32:H.length≤32:=((aC H).1 hr).1;have hfr:=hide (fun b (hb:b<H.length)=>Dv hr hb);have hrl:=hide (fun i (hi:i<H.length)=>(hn.2 _ (List.getElem_mem hi)).2);replace hr:=hide hr;replace hn:=hide hn;replace hT:=hide hT;replace aV:=hide (aV.congr fun a b _ _=>AB H a b);have hK0:Hid (∀w',w.grownBy w' (some Bg)→Agree K w w'):=hide fun w' hg=>Agree.jH hg (fun b hb=>Nat.lt_of_lt_of_le (hK b hb) hBg) (Nat.le_of_lt aV.out.lt);have hKg:Hid (∀b,K b→b<w.heap.size∧b<Bg):=hide fun b hb=>(by have:=hK b hb;omega);replace hK:=hide hK;go_enter Tryz.func224,Tryz.ntmps224;go_wp2_with fail;clear c0;go_loopw [10] (fun s10 wr=>∃b:Nat,b≤H.length∧s10= .int .i64 b∧dG wr Bg base H.length (jL H b 0)∧w.grownBy wr (some Bg)) (fun s10 _=>H.length-(intOf s10).toNat);case atStart=>exact⟨0,Nat.zero_le _,by go_num,aV.out,World.grownBy.refl _ _⟩
 case round=>
  clear aV;obtain⟨Wo,rfl⟩:∃Wo,Wo=wr:=⟨_,rfl⟩;obtain⟨b,hb,rfl,aV,hgw⟩:=hrel;have hi1:(0:Int)≤(b:Int):=Int.natCast_nonneg _;by_cases hlt:b<H.length
  ·have hi2:(b:Int)<(H.length:Int):=(by omega);have hag:=hK0.out Wo hgw;obtain⟨ba,oa,Aw,cw,Ar,cr,rfl,hKb,d0,d1,d2,_,hrs⟩:=aA.at_ (aA.keep hT.out hag (fun b h=>h)) hlt;have KT:=hgw.size;have hty:=hide (aH hlt);have QN:=hrl.out b hlt;have NQ:=hide (hfr.out b hlt);have NR:=hide (fun j hj=>Du (H:=H) (b:=b) (j:=j) hj);have NS:=hide (Dt H b);rw[hty.out]at NQ NR NS;generalize H[b]=ty at*;obtain⟨ys,yw,yr⟩:=ty;dsimp only at*;have Pn:=aV.lt;obtain⟨W1,hW1⟩:∃W1,Wo.alloc (.cells #[.int .i64 ys,.slice Aw yw.length cw,.slice Ar yr.length cr] 109)=W1:=⟨_,rfl⟩;have kY:=Blk.newEq hW1;have Po:Bg≤W1.heap.size:=(by rw[aD hW1];omega);have hgw1:w.grownBy W1 (some Bg):=(by rw[←hW1];exact aj hgw (World.grownBy_alloc _ _ _));have AA:dG W1 Bg base H.length (jL H b 0):=(by rw[←hW1];exact aV.grown (r:=none) (World.grownBy_alloc _ _ _) (fun k e=>by cases e));have y2:=Blk.n2 kY;have Pp:=hide (hrs.keep (Agree.av hW1 (fun b hb=>by have:=(hKg.out b hb).1;omega)) (fun b h=>h));go_wp2_with fail;clear d0 d1 d2 aV hgw hag y2 hrs hW1;go_loopw [18] (fun s18 wq=>∃j:Nat,j≤yr.length∧s18= .int .i64 j∧dG wq Bg base H.length (jL H b j)∧W1.grownBy wq (some Bg)) (fun s18 _=>yr.length-(intOf s18).toNat);case atStart=>exact⟨0,Nat.zero_le _,by go_num,AA,World.grownBy.refl _ _⟩
   case round=>
    clear AA;obtain⟨j,hj,rfl,aV,hgq⟩:=hrel;have ha1:(0:Int)≤(j:Int):=Int.natCast_nonneg _;have K8:=aj hgw1 hgq;by_cases hlt2:j<yr.length
    ·have ha2:(j:Int)<(yr.length:Int):=(by omega);obtain⟨br,orr,rfl,_,z0,z1⟩:=ItS.at_ (Pp.out.keep (Agree.jH hgq (fun b hb=>(hKg.out b hb).2) Po) (fun b h=>h)) hlt2;have hst:=hide (NR.out j hlt2);have hfx:=NQ.out _ (List.getElem_mem hlt2);generalize yr[j]=x at*;obtain⟨xa,xb⟩:=x;dsimp only at*;obtain⟨W2,hW2⟩:∃W2,wr.alloc (.cells #[.int .i64 xa,.int .i64 xb] 106)=W2:=⟨_,rfl⟩;have kX:=Blk.newEq hW2;have Gi:W1.grownBy W2 (some Bg):=(by rw[←hW2];exact aj hgq (World.grownBy_alloc _ _ _));have EZ:dG W2 Bg base H.length (jL H b j):=(by rw[←hW2];exact aV.grown (r:=none) (World.grownBy_alloc _ _ _) (fun k e=>by cases e));have x1:=Blk.n1 kX;have hsz2:base≤W2.heap.size:=(by have:=(aj hgw1 Gi).size;omega);go_wp2_with fail;clear z0 z1 x1 hW2;refine(oN H.length (by omega) _ xb (b:Int) hfx hi1 hi2 Bg base _ EZ hsz2).mono ?_;rintro e w5 ⟨rfl,qd,hg5⟩;go_wp2;go_roundw;case rel=>exact⟨j+1,by omega,by go_num,qd.congr fun x y _ _=>hst.out x y,aj Gi hg5⟩
     case measure=>simp[intOf];omega
    ·obtain rfl:j=yr.length:=(by omega);go_wp2;go_roundw;case rel=>exact⟨b+1,by omega,by go_num,aV.congr fun x y _ _=>NS.out x y,K8⟩
     case measure=>simp[intOf];omega
  ·obtain rfl:b=H.length:=(by omega);go_wp2
   go_end0
   exact⟨rfl,aV.congr fun x y _ hy=>Gj hy,hgw⟩
set_option maxRecDepth 100000 in
theorem Jy(A:Option Addr)(c:Nat)(H:List Txn)(w:World)(h:aA w (Old w) (.slice A H.length c) H)(hn:aG H)(hr:ay H=true):
 Calls Tryz.prog 165 #[.agg #[.slice A H.length c]] w (lW w H.length (wrE H)):=by
 obtain⟨W0,hW0⟩:∃W0,(w.alloc (.cells #[.slice A H.length c] 24)).alloc (.cells #[.int .i64 0,.slice none 0 0] 77)=W0:=⟨_,rfl⟩;have hB:=aN hW0;have k0:=Blk.jg hW0;have k1:=Blk.iB hW0;have hs0:=size_two hW0;have h0:=h.below hB;have h32:H.length≤32:=((aC H).1 hr).1;have hcall:=hide (oO 224 (enters_of Tryz.func224 (by kernel_rfl) rfl) #[.pointer (some ⟨w.heap.size,0,none⟩)] A c H (wrE H) W0 h0 hn hr (fun W Bg hbW aV hBg=>by
  have Jw:Below w.heap.size w W:=hB.trans (hbW.mono (by omega));exact(K9 A c H hr hn w.heap.size Bg W0.heap.size (Old w) W (aA.keep h (Agree.below Jw fun b h=>h) (fun b h=>h)) (k0.below hbW k0.lt) (fun b hb=>by have:b<w.heap.size:=hb;omega) (by omega) (by omega) aV hbW.size).mono fun e w' hh=>hh))
 have c0:=Blk.n0 k0;replace hs0:=hide hs0;go_enter Tryz.func165,Tryz.ntmps165;go_wp2_with fail;clear hW0 c0;refine hcall.out.mono ?_;rintro e w4 ⟨g,hg,rfl,kR,hb4⟩;have nX:g≠w.heap.size+1:=(by have:=hs0.out;omega);have k14:=k1.below hb4 k1.lt;have hb5:=hB.trans (hb4.mono (by have:=hs0.out;omega));have j0:=Blk.n0 k14;have j1:=Blk.n1 k14;have jf:=k14.frozen 0;have jf1:=k14.frozen 1;have hgw:w.heap.size≤g:=(by have:=hs0.out;omega);clear hcall;go_wp2;have kF0:=((kR.far (p:=⟨w.heap.size+1,0,none⟩) nX (.int .i64 H.length)).far (p:=⟨w.heap.size+1,1,none⟩) nX (.slice (some ⟨g,0,none⟩) H.length H.length));have hF:=((hb5.setCell (p:=⟨w.heap.size+1,0,none⟩) (by simp) (.int .i64 H.length)).setCell (p:=⟨w.heap.size+1,1,none⟩) (by simp) (.slice (some ⟨g,0,none⟩) H.length H.length));exact bodyPost_ret (v:= .agg #[.int .i64 H.length,.slice (some ⟨g,0,none⟩) H.length H.length]) (by simp[results,Tryz.results165,go_sem,j0,j1]) rfl ⟨g,hgw,rfl,kF0,hF⟩
end Go.Proofs.YtfhnamomiaekdaaGreatDoor
namespace Go.Proofs.YtfhnamomiaekdaaGreatDoor
open Go.RowKit Go.Inq Go.Shelf
set_option maxHeartbeats 4000000
attribute [local go_sem] Oper.semAt_some
attribute [local go_sem↓] Go.wp_at_zero Go.wp_at_succ
def qg(k:Nat)(l:List It):List (Nat×It):=l.map fun r=>(k,r)
def bQ(H:List Txn)(k:Nat):List (Nat×It):=((List.range k).map fun t=>qg t (aF H t).reads).flatten
def gK(H:List Txn):List (Nat×It):=bQ H H.length
theorem lG(H:List Txn)(k:Nat):bQ H (k+1)=bQ H k++qg k (aF H k).reads:=by
 unfold bQ;rw[List.range_succ,List.map_append,List.flatten_append];simp
theorem AJ{H:List Txn}{k:Nat}(h:k≤H.length):bQ H k<+:gK H:=by
 unfold gK bQ;obtain⟨m,hm⟩:=Nat.le.dest h;rw[←hm,List.range_add,List.map_append,List.flatten_append];exact List.prefix_append _ _
theorem xR{k:Nat}{l:List It}{j:Nat}(h:j<l.length):qg k (l.take (j+1))=qg k (l.take j)++[(k,l[j])]:=by
 unfold qg;rw[take_snoc' h,List.map_append];rfl
theorem Gl{H:List Txn}{k j:Nat}(h:k<H.length)(hj:j<H[k].reads.length):bQ H k++qg k (H[k].reads.take j)++[(k,H[k].reads[j])]<+:gK H:=by
 refine List.IsPrefix.trans ?_ (AJ (k:=k+1) (by omega));rw[lG,aH h,List.append_assoc,←xR hj];refine(List.prefix_append_right_inj _).2 ?_;unfold qg;rw[List.map_take];exact List.take_prefix _ _
def AO(x:Nat×It):Value:= .agg #[.int .i64 (x.1:Nat),.int .i64 x.2.a,.int .i64 x.2.b]
set_option maxRecDepth 100000 in
theorem Gm (n:Nat) (hn:1≤n) (l Bh n₀ c:Nat) (A:Option Addr) (H:List Txn) (hS:aG H) (hr:ay H=true) (J Jx:List (Nat×It)→World→Prop) (W:World)
 (hJ:AbidesFrom W.heap.size J)
 (hY:∀pre x W,J pre W→pre.length<(gK H).length→YieldAt Fence.wide (n-1) Tryz.prog l #[AO x] W fun e W'=>
  (e= .returned (.bool true)∧J (pre++[x]) W'∧Below n₀ W W')∨(e= .returned (.bool false)∧Jx (pre++[x]) W'))
 (hBh:W.cell? ⟨Bh,0,none⟩=some (.slice A H.length c)) (hnW:n₀≤W.heap.size) (hT:aA W (fun b=>b<n₀) (.slice A H.length c) H) (h0:J [] W):
 CallsIn Fence.wide n Tryz.prog 272 #[.func (.yield l) #[] #[],.pointer (some ⟨Bh,0,none⟩)] W fun e W'=>(∃v,e= .returned v)∧
  ((∃ys,ys=gK H∧J ys W')∨(∃pre,pre<+:gK H∧Jx pre W')):=by
 have hro:Fence.wide.round=none:=rfl;refine callsIn_of_wp Tryz.func272 rfl trivial ?_ hro;simp only[Tryz.ntmps272,List.size_toArray,List.length_cons,List.length_nil,Nat.reduceAdd,Nat.reduceSub,Array.replicate_succ,Array.replicate_zero,List.push_toArray,List.append_toArray,List.nil_append,List.cons_append];have hTo:=hide (aA.fit (K':=Old W) hT (fun b h=>Nat.lt_of_lt_of_le h hnW));replace hr:=hide hr;have hlen:=hS.1;have hrl:=hide (fun i (hi:i<H.length)=>(hS.2 _ (List.getElem_mem hi)).2);replace hS:=hide hS;have hBl:Bh<W.heap.size:=block_lt_of_cell hBh
 gi_wp2_with fail
 refine⟨trivial,?_⟩;refine(callsIn_wide.2 (dn A c H _ hTo.out hS.out)).mono ?_;rintro e W3 ⟨rfl,hb3⟩;rw[hr.out];dsimp only;have c0:=(hb3.cell (p:=⟨Bh,0,none⟩) hBl).trans hBh;have hJ3:J [] W3:=hJ _ _ _ none h0 (bC hb3 (Nat.le_refl _)) (fun r e=>by cases e);have hT3:=aA.keep hT (Agree.below hb3 (fun b h=>Nat.lt_of_lt_of_le h hnW)) (fun b h=>h);have FN:n₀≤W3.heap.size:=Nat.le_trans hnW hb3.size;clear hTo hBh h0
 gi_wp2
 gi_loopw [13] (fun s13 wr=>∃k:Nat,k≤H.length∧s13= .int .i64 k∧J (bQ H k) wr∧Below n₀ W3 wr) (fun s13 _=>H.length-(intOf s13).toNat)
 case atStart=>exact⟨0,Nat.zero_le _,by go_num,hJ3,Below.refl _ _⟩
 case round=>
  obtain⟨Wo,rfl⟩:∃Wo,Wo=wr:=⟨_,rfl⟩;obtain⟨k,hk,rfl,hJs,hb⟩:=hrel;have hk1:(0:Int)≤(k:Int):=Int.natCast_nonneg _;by_cases hlt:k<H.length
  ·have hi2:(k:Int)<(H.length:Int):=(by omega);obtain⟨b,off,Aw,cw,Ar,cr,rfl,hbK,d0',d1',d2',_,hrs⟩:=aA.at_ hT3 hlt;have d0:=(hb.cell (p:=⟨b,off+k*3,none⟩) hbK).trans d0';have d1:=(hb.cell (p:=⟨b,off+k*3+1,none⟩) hbK).trans d1';have d2:=(hb.cell (p:=⟨b,off+k*3+2,none⟩) hbK).trans d2';clear d0' d1' d2';have htr:=fun j=>Gl (j:=j) hlt;have hts:=lG H k;rw[aH hlt]at hts;have q2:=hrl.out k hlt;generalize H[k]=t at*;obtain⟨ts,ws,rs⟩:=t;dsimp only at*;replace htr:=hide htr;replace hts:=hide hts;have hJ4:J (bQ H k) (Wo.alloc (.cells #[.int .i64 ts,.slice Aw ws.length cw,.slice Ar rs.length cr] 109)):=hJ _ _ _ none hJs (World.grownBy_alloc Wo _ none) (fun r e=>by cases e);have hb4:Below n₀ W3 (Wo.alloc (.cells #[.int .i64 ts,.slice Aw ws.length cw,.slice Ar rs.length cr] 109)):=hb.alloc (Nat.le_trans FN hb.size) _;have kT:Blk (Wo.alloc (.cells #[.int .i64 ts,.slice Aw ws.length cw,.slice Ar rs.length cr] 109)) Wo.heap.size 109 #[.int .i64 ts,.slice Aw ws.length cw,.slice Ar rs.length cr]:=Blk.new _ _ _;have e2:=Blk.n2 kT;have hrn:=hide (show bQ H k++qg k (rs.take 0)=bQ H k by simp[qg])
   gi_wp2
   generalize hWo:Wo.alloc (.cells #[.int .i64 ts,.slice Aw ws.length cw,.slice Ar rs.length cr] 109)=Wp at*;clear hWo kT e2 hJs hb
   gi_loopw [21] (fun s21 wq=>∃j:Nat,j≤rs.length∧s21= .int .i64 j∧J (bQ H k++qg k (rs.take j)) wq∧Below n₀ W3 wq) (fun s21 _=>rs.length-(intOf s21).toNat)
   case atStart=>exact⟨0,Nat.zero_le _,by go_num,by rw[hrn.out];exact hJ4,hb4⟩
   case round=>
    clear hJ4 hb4;obtain⟨j,hj,rfl,hJs,hb⟩:=hrel;have hj1:(0:Int)≤(j:Int):=Int.natCast_nonneg _;by_cases hjl:j<rs.length
    ·have hj2:(j:Int)<(rs.length:Int):=(by omega);obtain⟨bw,ow,rfl,hbw,ec0,ec1⟩:=ItS.at_ (ItS.keep hrs (Agree.below hb fun b h=>h) (fun b h=>h)) hjl;have hpre:=htr.out j hjl;have hstp:=hide (xR (k:=k) hjl);generalize rs[j]=x at*;obtain⟨xa,xb⟩:=x;dsimp only at ec0 ec1;have hBw:n₀≤wr.heap.size:=Nat.le_trans FN hb.size;have hJ6:J (bQ H k++qg k (rs.take j)) (wr.alloc (.cells #[.int .i64 xa,.int .i64 xb] 106)):=hJ _ _ _ none hJs (World.grownBy_alloc wr _ none) (fun r e=>by cases e);have hb6:Below n₀ W3 (wr.alloc (.cells #[.int .i64 xa,.int .i64 xb] 106)):=hb.alloc hBw _;have hN:=jd hpre;obtain⟨fn,tmps,assign,body,hy,hR⟩:=hY _ (k,⟨xa,xb⟩) _ hJ6 hN;clear hJs hb;replace hpre:=hide hpre;unfold AO at hy;dsimp only at hy
     gi_wp2
     refine hR.mono ?_;clear hR hy fn tmps assign body;rintro e W4 (⟨rfl,hJ5,hk5⟩|⟨rfl,jV⟩)
     ·have hb5:=hb6.trans hk5;rw[List.append_assoc,←hstp.out]at hJ5
      gi_wp2
      go_roundw;case rel=>exact⟨j+1,by omega,by go_num,hJ5,hb5⟩
      case measure=>simp[intOf];omega
     ·gi_wp2
      refine bodyPost_ret (results_none rfl _ _ _) rfl ?_;exact⟨⟨_,rfl⟩,.inr ⟨_,hpre.out,jV⟩⟩
    ·obtain rfl:j=rs.length:=(by omega);rw[List.take_length]at hJs;have QO:bQ H (k+1)=bQ H k++qg k rs:=hts.out
     gi_wp2
     go_roundw;case rel=>exact⟨k+1,by omega,by go_num,by rw[hts.out];exact hJs,hb⟩
     case measure=>simp[intOf];omega
  ·obtain rfl:k=H.length:=by omega
   gi_wp2
   go_end0
   exact⟨⟨_,rfl⟩,.inl ⟨_,rfl,hJs⟩⟩
theorem Dw(v:Value)(w:World):Calls Tryz.prog 259 #[.agg #[v]] w fun e w'=>e= .returned (.func (.func 272) #[] #[.pointer (some ⟨w.heap.size,0,none⟩)])∧w'=w.alloc (.cells #[v] 24):=by
 go_enter Tryz.func259,Tryz.ntmps259;go_wp2;go_ret;exact⟨rfl,rfl⟩
theorem uP{n₀:Nat}{w:World}(hn:n₀≤w.heap.size)(W:World)(l:Nat)(o o':Obj)(hl:w.heap.size≤l)(_:W.heap[l]?=some o)(_:o.isCells=false)(_:o.isWalk=false):Below n₀ W (W.putObj l o'):=
 ⟨rfl,rfl,rfl,by simp,fun k hk=>World.putObj_heap_other (by omega)⟩
theorem y9(Bh n₀ c:Nat)(A:Option Addr)(H:List Txn)(hS:aG H)(hr:ay H=true)(w:World)(hBn:Bh<w.heap.size)(hnW:n₀≤w.heap.size)(hc:w.cell? ⟨Bh,0,none⟩=some (.slice A H.length c))(hT:aA w (fun b=>b<n₀) (.slice A H.length c) H):
 SeqStopsK Fence.wide (3-1) Tryz.prog 272 #[.pointer (some ⟨Bh,0,none⟩)] (fun x:Nat×It=>#[AO x]) (fun W W'=>Below n₀ W W') (fun ys=>ys=gK H) (fun pre=>pre<+:gK H) (gK H).length w:=fun l J Jx W hW hJ _ hY h0=>
 Gm (3-1) (by omega) l Bh n₀ c A H hS hr J Jx W hJ hY ((hW.cell (p:=⟨Bh,0,none⟩) hBn).trans hc) (Nat.le_trans hnW hW.size) (aA.keep hT (Agree.below hW fun b h=>Nat.lt_of_lt_of_le h hnW) (fun b h=>h)) h0
def ko(key src:Int)(l:List (Nat×It)):List Nat:=(l.filter fun x=>decide (x.2.a=key)&&decide (x.2.b=src)).map (·.1)
theorem Gn(key src:Int)(l:List (Nat×It))(x:Nat×It):ko key src (l++[x])=ko key src l++(if decide (x.2.a=key)&&decide (x.2.b=src)then[x.1]else[]):=by
 unfold ko;rw[List.filter_append,List.map_append];congr 1;cases h:decide (x.2.a=key)&&decide (x.2.b=src)<;>simp[List.filter_cons,h]
theorem AP(H:List Txn)(key src:Int):ko key src (gK H)=wm H key src:=by
 unfold ko gK bQ wm;rw[List.filter_flatten,List.map_flatten,List.map_map,List.map_map];congr 1;refine List.map_congr_left fun t _=> ?_;simp only[Function.comp_apply,qg,List.filter_map,List.map_map];rfl
theorem mg{H:List Txn}(h:∀i (hi:i<H.length),H[i].reads.length≤1000000):∀k,k≤H.length→(bQ H k).length≤k*1000000
 |0,_=>by simp[bQ]
 |k+1,hk=>by
  rw[lG,List.length_append,aH (by omega)];have:=mg h k (by omega);have:=h k (by omega);simp only[qg,List.length_map];omega
theorem uQ{H:List Txn}(hn:aG H)(hr:ay H=true):(gK H).length≤32000000:=by
 have h32:H.length≤32:=((aC H).1 hr).1;have:=mg (fun i hi=>(hn.2 _ (List.getElem_mem hi)).2) H.length (Nat.le_refl _);unfold gK;omega
theorem boxed_own{X Y:World}{row:Option Nat}{B:Nat}{t:TypeId}{v:Value}(hs:Boxed X B t v)(hg:X.grownBy Y row)(hrow:∀r,row=some r→∃o:Obj,X.heap[r]?=some o∧o.isCells=false):Boxed Y B t v:=
 hs.kept hg (fun e'=>by obtain⟨o,ho,hc⟩:=hrow B e'.symm;rw[show X.heap[B]?=_ from hs]at ho;cases ho;cases hc)
theorem AQ{w:World}{base base':Nat}{e:TypeId}{size n:Nat}{v:Value}{xs:List Value}(h:w.ownsRow base e size v n xs)(hb:base'≤base):w.ownsRow base' e size v n xs:=by
 refine⟨h.1,?_⟩;rcases h.2 with h2|⟨g,cap,cur,hv,hg,r⟩
 ·exact .inl h2
 ·exact .inr ⟨g,cap,cur,hv,Nat.le_trans hb hg,r⟩
theorem oq {F:Fence} {nF:Nat} {P:Program} {W:World} {ops:Array Oper} {rest:List Oper} {o:Oper} {a:Act} {Q:Exit→Act→World→Prop}
 (hgd:o.guard=none) (s x:Operand) (t:TypeId) (ho:o.op= .call {callee:= .builtin .append,args:=#[s,x],argTypes:=#[t,t]})
 (base:Nat) (e:TypeId) (i:TypeInfo) (z:Value) (bytes:Nat) (ht:P.underlying t=some (.slice e)) (hi:P.info? e=some i) (hz:i.zero=some z)
 (hsize:i.size=1) (hby:i.bytes=bytes) (hzs:z.cells.size=1)
 (v:Value) (l:List Int) (hs:a.eval s=v) (hown:W.ownsRow base e 1 v l.length (l.map Go.Inq.encI).flatten)
 (x0:Int) (hx:a.eval x= .slice (some ⟨W.heap.size,0,none⟩) 1 1)
 (h63:l.length+1≤maxLen) (hbytes:(l.length+1)*bytes≤140737488355328) (hbase:base≤W.heap.size)
 (h:∀v' w',w'.ownsRow base e 1 v' (l++[x0]).length ((l++[x0]).map Go.Inq.encI).flatten→(W.alloc (.cells #[.int .i64 x0] e)).grownBy w' v.ownBlock→(v'.ownBlock=v.ownBlock∨v'.ownBlock=some (W.heap.size+1))→wpListIn F nF P ops Q rest (a.put o.dst v') w'):
 wpListIn F nF P ops Q (o::rest) a (W.alloc (.cells #[.int .i64 x0] e)):=by
 have hk:Blk (W.alloc (.cells #[.int .i64 x0] e)) W.heap.size e #[.int .i64 x0]:=Blk.new _ _ _;refine wpListIn_append_own_at _ hgd s x t ho base e i z 1 bytes ht hi hz hsize hby hzs (by decide) v l.length _ hs (hown.alloc _) ⟨W.heap.size,0,none⟩ 1 1 [.int .i64 x0] hx rfl (fun j u hj=> ?_) (by simp[Value.oneCell']) h63 hbytes (by simp;omega) ?_
 ·cases j with
  |zero=>injection hj with hj;subst hj;exact hk.cell 0
  |succ j=>simp at hj
 ·intro v' w' g1 g2 _ g3;refine h v' w' ?_ g2 (by simpa using g3);rw[List.map_append,List.flatten_append,List.length_append];exact g1
set_option maxRecDepth 100000 in
theorem za(A:Option Addr)(c:Nat)(H:List Txn)(key src:Int)(w:World)(h:aA w (Old w) (.slice A H.length c) H)(hn:aG H)(hr:ay H=true):
 Calls Tryz.prog 226 #[.agg #[.slice A H.length c],.int .i64 key,.int .i64 src] w (uj w (aO (wm H key src))):=by
 refine(callsIn_wide (n:=3)).1 ?_;have hro:Fence.wide.round=none:=rfl;refine callsIn_of_wp_marks Tryz.func226 rfl trivial ?_ hro;simp only[Tryz.ntmps226,List.size_toArray,List.length_cons,List.length_nil,Nat.reduceAdd,Nat.reduceSub,Array.replicate_succ,Array.replicate_zero,List.push_toArray,List.append_toArray,List.nil_append,List.cons_append]
 gi_wp2_with fail
 refine⟨trivial,?_⟩;refine(callsIn_wide.2 (Dw _ _)).mono ?_;rintro e w1 ⟨rfl,rfl⟩;dsimp only
 gi_wp2
 obtain⟨ii,hii,hi1,hi2,hi3⟩:=info_parts dO;obtain⟨W0,hW0⟩:∃W0,((((w.alloc (.cells #[.slice A H.length c] 24)).alloc (.cells #[.int .i64 key] 3)).alloc (.cells #[.int .i64 src] 3)).alloc (.cells #[.slice none 0 0] 33)).alloc (.cells #[.slice A H.length c] 24)=W0:=⟨_,rfl⟩;have hs0:W0.heap.size=w.heap.size+5:=(by rw[←hW0];simp);have hBW:Below w.heap.size w W0:=(by rw[←hW0];exact(((((Below.refl _ w).alloc (Nat.le_refl _) _).alloc (by simp) _).alloc (by simp;omega) _).alloc (by simp;omega) _).alloc (by simp;omega) _);have k1:Blk W0 (w.heap.size+1) 3 #[.int .i64 key]:=by
  rw[←hW0];have:=Blk.new (w.alloc (.cells #[.slice A H.length c] 24)) 3 #[.int .i64 key];simp only[World.size_alloc]at this;exact((this.alloc _).alloc _).alloc _
 have k2:Blk W0 (w.heap.size+2) 3 #[.int .i64 src]:=by
  rw[←hW0];have:=Blk.new ((w.alloc (.cells #[.slice A H.length c] 24)).alloc (.cells #[.int .i64 key] 3)) 3 #[.int .i64 src];simp only[World.size_alloc]at this;exact(this.alloc _).alloc _
 have k3:Blk W0 (w.heap.size+3) 33 #[.slice none 0 0]:=by
  rw[←hW0];have:=Blk.new (((w.alloc (.cells #[.slice A H.length c] 24)).alloc (.cells #[.int .i64 key] 3)).alloc (.cells #[.int .i64 src] 3)) 33 #[.slice none 0 0];simp only[World.size_alloc]at this;exact this.alloc _
 have k4:Blk W0 (w.heap.size+4) 24 #[.slice A H.length c]:=by
  rw[←hW0];have:=Blk.new ((((w.alloc (.cells #[.slice A H.length c] 24)).alloc (.cells #[.int .i64 key] 3)).alloc (.cells #[.int .i64 src] 3)).alloc (.cells #[.slice none 0 0] 33)) 24 #[.slice A H.length c];simp only[World.size_alloc]at this;exact this
 simp only[World.size_alloc];rw[hW0];have h2:aA W0 (fun b=>b<w.heap.size) (.slice A H.length c) H:=aA.keep h (Agree.below hBW fun b h=>h) (fun b h=>h);have c4:=Blk.n0 k4;clear hW0;have Pq:=uQ hn hr;refine wpIn_rangeFunc_ownH hro (by omega) (gf:=272) (lb:=#[.pointer (some ⟨w.heap.size+4,0,none⟩)]) rfl trivial (enters_of Tryz.func272 (by kernel_rfl) rfl)
  (y9 (w.heap.size+4) w.heap.size c A H hn hr W0 (by omega) (by omega) c4 h2) (fun h k=>h.trans k) (uP (by omega)) (Below.refl _ _) (fun _=>rfl)
  (fun pre W=>((∃v,Boxed W (w.heap.size+3) 33 v∧W.ownsRow (w.heap.size+5) 3 1 v (aO (ko key src pre)).length ((aO (ko key src pre)).map Go.Inq.encI).flatten∧True)∧(Boxed W (w.heap.size+1) 3 (.int .i64 key)∧Boxed W (w.heap.size+2) 3 (.int .i64 src)∧w.heap.size+5≤W.heap.size))∧Below w.heap.size w W)
  (fun cc pre W=>False)
  (OwnFrom.and (OwnFrom.and (Own.from (holdsRow_own (w.heap.size+5) (w.heap.size+3) 33 3 1 (fun pre=>(aO (ko key src pre)).length) (fun pre=>((aO (ko key src pre)).map Go.Inq.encI).flatten) (fun _ _=>True)) _) (Own.from (fun s A B row hs hg hr=>⟨boxed_own hs.1 hg hr,boxed_own hs.2.1 hg hr,Nat.le_trans hs.2.2 hg.size⟩) _)) (ownFrom_below (Nat.le_refl _) (by omega)))
  (fun cc s A B row hs hg hr=>hs)
  ⟨⟨⟨.slice none 0 0,k3,World.ownsRow_nil _ _ _ _,trivial⟩,k1,k2,by omega⟩,hBW⟩
  (fun x a' W=>∃B8,a'={tmps:=#[.agg #[.slice A H.length c],.int .i64 key,.int .i64 src,.pointer (some ⟨w.heap.size,0,none⟩),.pointer (some ⟨w.heap.size+1,0,none⟩),.pointer (some ⟨w.heap.size+2,0,none⟩),.slice none 0 0,.pointer (some ⟨w.heap.size+3,0,none⟩),.pointer (some ⟨B8,0,none⟩),.agg #[.slice A H.length c],.func (.func 272) #[] #[.pointer (some ⟨w.heap.size+4,0,none⟩)],AO x,undef,undef,undef,undef,undef,undef,undef,undef,undef,undef,undef,undef,undef,undef,undef,undef,undef,undef],defers:=[]}∧w.heap.size+5≤B8∧Blk W B8 315 #[.int .i64 (x.1:Nat),.int .i64 x.2.a,.int .i64 x.2.b])
  (fun x a'=>Own.from (fun s A B row hs hg hr=>by obtain⟨B8,e,hB,hk⟩:=hs;exact⟨B8,e,hB,hk.grown hg (fun e'=>by obtain⟨o,ho,hc⟩:=hr B8 e'.symm;rw[show A.heap[B8]?=_ from hk]at ho;cases ho;cases hc)⟩) _) ?assign ?body ?done ?stop
 case assign=>
  rintro l pre ⟨xt,xa,xb⟩ W K ⟨⟨⟨v,hv,hr,_⟩,hk,hs,hW5⟩,hB⟩ hK;unfold AO;dsimp only
  gi_wp2
  refine hK _ _ (KeepsOthers.alloc _ _|>.from _) ((Below.refl _ _).alloc (by omega) _) ⟨⟨⟨v,hv.alloc _,hr.alloc _,trivial⟩,hk.alloc _,hs.alloc _,by simp;omega⟩,hB.alloc (by omega) _⟩ ⟨W.heap.size,rfl,hW5,Blk.new _ _ _⟩
 case body=>
  rintro l pre ⟨xt,xa,xb⟩ a' W hl ⟨rl,hrl⟩ ⟨⟨⟨v,hv,hr,_⟩,hk,hs,hW5⟩,hB⟩ ⟨B8,rfl,hB8,k8⟩ hlen;have e0:=Blk.n0 k8;have e1:=Blk.n1 k8;have e2:=Blk.n2 k8;have g1:=hk.cell;have g2:=hs.cell;have hsn:=Gn key src pre (xt,⟨xa,xb⟩);dsimp only at hsn e0 e1 e2;by_cases q1:xa=key
  ·by_cases q2:xb=src
   ·have hsel:Hid (aO (ko key src (pre++[(xt,⟨xa,xb⟩)]))=aO (ko key src pre)++[(xt:Int)]):=hide (by rw[hsn];simp[q1,q2,fM]);have q1b:(xa==key)=true:=(by simpa using q1);have q2b:(xb==src)=true:=(by simpa using q2);have hpl:(aO (ko key src pre)).length≤pre.length:=by
     rw[aI];unfold ko;rw[List.length_map];exact List.length_filter_le _ _
    have hRl:=Pq;generalize aO (ko key src pre)=L at*;clear q1 q2 hsn;have hl63:L.length+1≤maxLen:=(by simp[maxLen];omega);have MF:(L.length+1)*8≤140737488355328:=(by omega);have g3:=hv.cell;have f3:=hv.frozen;obtain⟨Av,cv,rfl⟩:=bH hr;have hlo:=hide (fun b hb=>(hr.lt b hb).1);replace hr:=hide hr
    gi_wp2_with (gi_at_builtin;refine oq rfl (.tmp 24) (.tmp 27) 33 rfl (w.heap.size+5) 3 ii _ 8 Tryz.underlying33 hii hi1 hi2 hi3 rfl (.slice Av L.length cv) L rfl hr.out (xt:Int) rfl hl63 MF hW5 ?_;intro v1 w6 hown1 hg1 l5;obtain⟨A1,c1,rfl⟩:=bH hown1;have hv1:=(hv.alloc (.cells #[.int .i64 (xt:Int)] 3)).kept hg1 (fun e=>by have:=hlo.out _ e.symm;omega);have g6:=hv1.cell;have f6:=hv1.frozen)
    have hk1:=(hk.alloc (.cells #[.int .i64 (xt:Int)] 3)).kept hg1 (fun e=>by have:=hlo.out _ e.symm;omega);have hs1:=(hs.alloc (.cells #[.int .i64 (xt:Int)] 3)).kept hg1 (fun e=>by have:=hlo.out _ e.symm;omega);have hz6:=hg1.size;have hlx:(L++[(xt:Int)]).length=L.length+1:=(by simp);rw[hlx]at hown1;simp only[World.size_alloc]at hz6;refine⟨(((KeepsOthers.alloc W _).trans (KeepsOthers.of_grownBy hg1 fun j o ej hj=> ?_)).trans (KeepsOthers.setCell _ _ _)).from _,?_,⟨⟨_,hv1.set _,by rw[hsel.out,hlx];exact hown1.kept (grownBy_setCell' w6 _ _) (.inr fun e=>by have:=(hown1.lt _ e).1;omega)⟩,hk1.other (by omega) _,hs1.other (by omega) _,by simp;omega⟩,?_⟩
    ·rcases(hr.out.alloc (.cells #[.int .i64 (xt:Int)] 3)).2 with⟨h1,_⟩|⟨g,cap,cur,h1,_,hgb,_⟩
     ·rw[h1]at ej;simp[Value.ownBlock]at ej
     ·rw[h1]at ej;obtain rfl:g=j:=(by simpa[Value.ownBlock]using ej);rw[hgb]at hj;cases hj;rfl
    ·exact(((Below.refl w.heap.size W).alloc (by omega) _).grown hg1 (by simp;omega) (fun j ej=>by have:=hlo.out j ej;omega)).setCell (p:=⟨w.heap.size+3,0,none⟩) (by simp) _
    ·exact((hB.alloc (by omega) _).grown hg1 (by simp;omega) (fun j ej=>by have:=hlo.out j ej;omega)).setCell (p:=⟨w.heap.size+3,0,none⟩) (by simp) _
   ·have hsel:ko key src (pre++[(xt,⟨xa,xb⟩)])=ko key src pre:=(by rw[hsn];simp[q2]);have q1b:(xa==key)=true:=(by simpa using q1);have q2b:(xb==src)=false:=(by simpa using q2);replace hsel:=hide hsel;clear q1 q2 hsn
    gi_wp2
    exact⟨(KeepsOthers.refl _).from _,Below.refl _ _,⟨⟨v,hv,by rw[hsel.out];exact hr⟩,hk,hs,hW5⟩,hB⟩
  ·have hsel:ko key src (pre++[(xt,⟨xa,xb⟩)])=ko key src pre:=(by rw[hsn];simp[q1]);have q1b:(xa==key)=false:=(by simpa using q1);replace hsel:=hide hsel;clear q1 hsn
   gi_wp2
   exact⟨(KeepsOthers.refl _).from _,Below.refl _ _,⟨⟨v,hv,by rw[hsel.out];exact hr⟩,hk,hs,hW5⟩,hB⟩
 case done=>
  rintro D xs W hD rfl ⟨⟨⟨v,hv,hr,_⟩,hk,hs,hW5⟩,hB⟩ hK;have g1:=hv.cell;have hsl:=hide (AP H key src);obtain⟨Av,cv,rfl⟩:=bH hr
  gi_wp2
  refine⟨by simp,.inl ⟨_,_,rfl,run_takeDeferred hK,?_⟩⟩;refine⟨.slice Av (aO (ko key src (gK H))).length cv,?_,_,rfl,?_,hB.trans (belowK_b (w:=w) (Nat.le_refl _) W D _ _ (by omega) hK rfl rfl)⟩
  ·simp[results,Tryz.results226,go_sem]
  ·unfold bE;rw[←hsl.out];exact AQ (ownsRow_putObj hr _ hK rfl) (by omega)
 case stop=>
  rintro D cc pre W hD hpre hF hK;exact hF.elim
end Go.Proofs.YtfhnamomiaekdaaGreatDoor
namespace Go.Proofs.YtfhnamomiaekdaaGreatDoor
open Go.RowKit Go.Inq
set_option maxHeartbeats 4000000
attribute [local go_sem↓] Go.wp_at_zero Go.wp_at_succ
def neL(l:List (Nat×Nat)):au:=fun x y=>decide (x≠y)&&l.contains (x,y)
theorem La(x y:Nat):noE x y=neL [] x y:=by simp[noE,neL]
theorem Jz(l:List (Nat×Nat))(a b x y:Nat):ru (neL l) (a:Int) (b:Int) x y=neL (l++[(a,b)]) x y:=by
 unfold ru;have hc:(l++[(a,b)]).contains (x,y)=(l.contains (x,y)||(decide (x=a)&&decide (y=b))):=by
  rw[Bool.eq_iff_iff];simp
 split
 ·rename_i h;simp only[orE,iQ,neL,Int.toNat_natCast,hc];by_cases e1:x=a
  ·by_cases e2:y=b
   ·have:x≠y:=(by omega);simp[e1,e2,this];omega
   ·simp[e2]
  ·simp[e1]
 ·rename_i h;simp only[neL,hc];have hab:a=b:=(by omega);by_cases e1:x=a
  ·by_cases e2:y=b
   ·have:x=y:=(by omega);simp[this]
   ·simp[e2]
  ·simp[e1]
def qh(wr:List Nat)(rd:List Nat):List (Nat×Nat):=(rd.map fun a=>wr.map fun b=>(a,b)).flatten
def MG(H:List Txn)(key:Int):List (Nat×Nat):=qh (bg H key) (wm H key (-1))
def jM(H:List Txn)(k:Nat):List (Nat×Nat):=(((bO H).take k).map (MG H)).flatten
theorem Dx{H:List Txn}{k:Nat}(h:k<(bO H).length):jM H (k+1)=jM H k++MG H (bO H)[k]:=by
 unfold jM;rw[List.take_succ_eq_append_getElem h,List.map_append,List.flatten_append];simp
theorem Gp(wr:List Nat){rd:List Nat}{i:Nat}(h:i<rd.length):qh wr (rd.take (i+1))=qh wr (rd.take i)++wr.map fun b=>(rd[i],b):=by
 unfold qh;rw[List.take_succ_eq_append_getElem h,List.map_append,List.flatten_append];simp
theorem AU{wr rd:List Nat}{a b:Nat}:(a,b)∈qh wr rd↔a∈rd∧b∈wr:=by
 unfold qh;rw[List.mem_flatten];constructor
 ·rintro⟨l,hl,h⟩;obtain⟨x,hx,rfl⟩:=List.mem_map.1 hl;obtain⟨y,hy,e⟩:=List.mem_map.1 h;injection e with e1 e2
  subst e1 e2;exact⟨hx,hy⟩
 ·rintro⟨ha,hb⟩;exact⟨_,List.mem_map.2 ⟨a,ha,rfl⟩,List.mem_map.2 ⟨b,hb,rfl⟩⟩
theorem Gq{H:List Txn}{x y:Nat}(hx:x<H.length)(hy:y<H.length):neL (jM H (bO H).length) x y=lV H x y:=by
 unfold neL jM;rw[List.take_length,Bool.eq_iff_iff,FM hx hy,Bool.and_eq_true,decide_eq_true_iff,List.contains_iff_mem,List.mem_flatten];constructor
 ·rintro⟨h1,l,hl,h⟩;obtain⟨k,hk,rfl⟩:=List.mem_map.1 hl;obtain⟨h2,h3⟩:=AU.1 h;exact⟨h1,k,hk,h2,h3⟩
 ·rintro⟨h1,k,hk,h2,h3⟩;exact⟨h1,_,List.mem_map.2 ⟨k,hk,rfl⟩,AU.2 ⟨h2,h3⟩⟩
theorem JA{H:List Txn}(hn:aG H)(hr:ay H=true)(key src:Int):(wm H key src).length≤32000000:=by
 rw[←AP];unfold ko;rw[List.length_map];exact Nat.le_trans (List.length_filter_le _ _) (uQ hn hr)
set_option maxRecDepth 100000 in
theorem Gs(A:Option Addr)(c:Nat)(H:List Txn)(hr:ay H=true)(hn:aG H)(Bh Bg base:Nat)(K:Nat→Prop)(w:World)(hT:aA w K (.slice A H.length c) H)(hBh:Blk w Bh 24 #[.slice A H.length c])(hK:∀b,K b→b<base)(hB:Bh<base)(hBg:base≤Bg)(aV:dG w Bg base H.length noE)(hbw:base≤w.heap.size):
 Calls Tryz.prog 225 #[.func (.func 258) #[] #[.pointer (some ⟨Bg,0,none⟩)],.pointer (some ⟨Bh,0,none⟩)] w fun e w'=>e= .returned (.tuple #[])∧dG w' Bg base H.length (lV H)∧w.grownBy w' (some Bg):=by
 have c0:=Blk.n0 hBh;have h32:H.length≤32:=((aC H).1 hr).1;have hBl:Bg<w.heap.size:=aV.lt;have hkw:Hid (∀b,K b→b<w.heap.size):=hide fun b hb=>(by have:=hK b hb;omega);have hkg:Hid (∀b,K b→b<Bg):=hide fun b hb=>(by have:=hK b hb;omega);replace hr:=hide hr;replace hn:=hide hn;have hTo:=hT.fit (K':=Old w) (fun b hb=>hkw.out b hb);replace hT:=hide hT;replace aV:=hide (aV.congr fun a b _ _=>La a b);have hT0:Hid (∀w',w.grownBy w' (some Bg)→aA w' (Old w') (.slice A H.length c) H):=hide fun w' hg=>aA.keep hT.out (Agree.jH hg hkg.out (Nat.le_of_lt hBl)) (fun b hb=>Nat.lt_of_lt_of_le (hkw.out b hb) hg.size);replace hK:=hide hK;go_enter Tryz.func225,Tryz.ntmps225;go_wp2_with fail;clear c0;refine(xQ A c H _ hTo hn.out hr.out).mono ?_;rintro e wk ⟨vk,rfl,hKO,hbk⟩;obtain⟨Ak,ck,rfl⟩:=hKO.form;have hKS:=hide (hKO.sl (K:=fun b=>w.heap.size≤b∧b<wk.heap.size) (fun g h1 h2=>⟨h1,h2⟩));have LW:=aV.out.below hbk;have hgk:=bC hbk (r:=some Bg) (Nat.le_refl _);have O6:=jI hr.out;have hstp:=hide (fun k (hk:k<(bO H).length)=>Dx hk);have hall:=hide (fun x y (hx:x<H.length) (hy:y<H.length)=>Gq hx hy);clear hKO aV hTo;generalize hKL:bO H=KL at*;clear hKL;go_wp2_with fail;go_loopw [12] (fun s12 wr=>∃k:Nat,k≤KL.length∧s12= .int .i64 k∧dG wr Bg base H.length (neL (jM H k))∧wk.grownBy wr (some Bg)) (fun s12 _=>KL.length-(intOf s12).toNat);case atStart=>exact⟨0,Nat.zero_le _,by go_num,LW,World.grownBy.refl _ _⟩
 case round=>
  clear LW hbk;obtain⟨Wo,rfl⟩:∃Wo,Wo=wr:=⟨_,rfl⟩;obtain⟨k,hk,rfl,aV,hgw⟩:=hrel;have hi1:(0:Int)≤(k:Int):=Int.natCast_nonneg _;have hgo:=aj hgk hgw;have KT:=hgo.size;have O7:=hgw.size;by_cases hlt:k<KL.length
  ·have hi2:(k:Int)<(KL.length:Int):=(by omega);obtain⟨bk,ok,rfl,_,hck⟩:=(hKS.out.keep (Agree.grown hgw fun b hb=>⟨hb.2,by have:=hb.1;simp;omega⟩) (fun b h=>h)).at_ hlt;have hst:=hide (hstp.out k hlt);have hBo:=hBh.grown hgo (by simp;omega);have b0:=Blk.n0 hBo;generalize KL[k]=key at*;unfold MG at hst;go_wp2_with fail;clear b0 hck;refine(za A c H key (-1) _ (hT0.out _ hgo) hn.out hr.out).mono ?_;rintro e wd ⟨vd,rfl,hDO,hbd⟩;have hDm:=hide (fun a (ha:a∈wm H key (-1))=>(tY.1 ha).1);have hDl:=JA hn.out hr.out key (-1);generalize wm H key (-1)=D at*;obtain⟨Ad,cd,hv⟩:=hDO.form;rw[aI]at hv;subst hv;have hDS:=hide (hDO.sl (K:=fun b=>Wo.heap.size≤b∧b<wd.heap.size) (fun g h1 h2=>⟨h1,h2⟩));have LX:=aV.below hbd;have hgd:=aj hgo (bC hbd (r:=some Bg) (Nat.le_refl _));have hgd2:=aj hgw (bC hbd (r:=some Bg) (Nat.le_refl _));have QS:=hbd.size;have hW0:Hid (neL (jM H k)=neL (jM H k++qh (bg H key) (D.take 0))):=hide (by simp[qh]);clear hDO hbd aV hgw hgo hBo;go_wp2_with fail;go_loopw [20] (fun s20 wr=>∃i:Nat,i≤D.length∧s20= .int .i64 i∧dG wr Bg base H.length (neL (jM H k++qh (bg H key) (D.take i)))∧wd.grownBy wr (some Bg)) (fun s20 _=>D.length-(intOf s20).toNat);case atStart=>exact⟨0,Nat.zero_le _,by go_num,by rw[←hW0.out];exact LX,World.grownBy.refl _ _⟩
   case round=>
    clear LX hW0;obtain⟨Wp,rfl⟩:∃Wp,Wp=wr:=⟨_,rfl⟩;obtain⟨i,hi,rfl,aV,hgw⟩:=hrel;have hj1:(0:Int)≤(i:Int):=Int.natCast_nonneg _;have hgo:=aj hgd hgw;by_cases hlt2:i<D.length
    ·have hj2:(i:Int)<(D.length:Int):=(by omega);obtain⟨bd,od,rfl,_,hcd⟩:=(hDS.out.keep (Agree.grown hgw fun b hb=>⟨hb.2,by have:=hb.1;simp;omega⟩) (fun b h=>h)).at_ (i:=i) (by rw[aI];exact hlt2);rw[je hlt2]at hcd;have Pt:=hide (Gp (bg H key) hlt2);have ham:=hDm.out _ (List.getElem_mem hlt2);generalize D[i]=a at*;have hBo:=hBh.grown hgo (by simp;omega);have b0:=Blk.n0 hBo;go_wp2_with fail;clear b0 hcd;refine(pR A c H key _ (hT0.out _ hgo) hn.out hr.out).mono ?_;rintro e wl ⟨vl,rfl,hLO,hbl⟩;have hLm:=hide (fun b (hb:b∈bg H key)=>(bB.1 hb).1);have hLl:=mH H key;generalize hLe:bg H key=L at*;replace hLe:=hide hLe;obtain⟨Al,cl,hv⟩:=hLO.form;rw[aI]at hv;subst hv;have hLS:=hide (hLO.sl (K:=fun b=>Wp.heap.size≤b∧b<wl.heap.size) (fun g h1 h2=>⟨h1,h2⟩));have LY:=aV.below hbl;have hgl:=aj hgw (bC hbl (r:=some Bg) (Nat.le_refl _));have Pv:=aj hgo (bC hbl (r:=some Bg) (Nat.le_refl _));have KU:=Pv.size;have FY:=hgo.size;have hM0:Hid (neL (jM H k++qh L (D.take i))=neL (jM H k++qh L (D.take i)++(L.take 0).map fun b=>(a,b))):=hide (by simp);clear hLO hbl aV hgw hgo hBo;go_wp2_with fail;go_loopw [28] (fun s28 wr=>∃j:Nat,j≤L.length∧s28= .int .i64 j∧dG wr Bg base H.length (neL (jM H k++qh L (D.take i)++(L.take j).map fun b=>(a,b)))∧wl.grownBy wr (some Bg)) (fun s28 _=>L.length-(intOf s28).toNat);case atStart=>exact⟨0,Nat.zero_le _,by go_num,by rw[←hM0.out];exact LY,World.grownBy.refl _ _⟩
     case round=>
      clear LY hM0;obtain⟨j,hj,rfl,aV,hgw⟩:=hrel;have hjj:(0:Int)≤(j:Int):=Int.natCast_nonneg _;by_cases hlt3:j<L.length
      ·have hj3:(j:Int)<(L.length:Int):=(by omega);obtain⟨bl,ol,rfl,_,hcl⟩:=(hLS.out.keep (Agree.grown hgw fun b hb=>⟨hb.2,by have:=hb.1;simp;omega⟩) (fun b h=>h)).at_ (i:=j) (by rw[aI];exact hlt3);rw[je hlt3]at hcl;have htk:=hide (take_snoc' hlt3);have hbm:=hLm.out _ (List.getElem_mem hlt3);generalize L[j]=b at*;have hb0:(0:Int)≤(b:Int):=Int.natCast_nonneg _;have hb1:(b:Int)<(H.length:Int):=(by omega);have ha1:(a:Int)<(H.length:Int):=(by omega);have K6:=hgw.size;have Pw:base≤wr.heap.size:=(by omega);have hM2:Hid (jM H k++qh L (D.take i)++(L.take (j+1)).map (fun b=>(a,b))=(jM H k++qh L (D.take i)++(L.take j).map fun b=>(a,b))++[(a,b)]):=hide (by rw[htk.out,List.map_append,←List.append_assoc];rfl);go_wp2_with fail;clear hcl;refine(oN H.length (by omega) _ (a:Int) (b:Int) ha1 hb0 hb1 Bg base _ aV Pw).mono ?_;rintro e w5 ⟨rfl,qd,hg5⟩;go_wp2;go_roundw;case rel=>exact⟨j+1,by omega,by go_num,by rw[hM2.out];exact qd.congr fun x y _ _=>Jz _ a b x y,aj hgw hg5⟩
       case measure=>simp[intOf];omega
      ·obtain rfl:j=L.length:=(by omega);rw[List.take_length,List.append_assoc,←Pt.out]at aV;go_wp2;go_roundw;case rel=>exact⟨i+1,by omega,by go_num,by rw[hLe.out];exact aV,aj hgl hgw⟩
       case measure=>simp[intOf];omega
    ·obtain rfl:i=D.length:=(by omega);rw[List.take_length,←hst.out]at aV;go_wp2;go_roundw;case rel=>exact⟨k+1,by omega,by go_num,aV,aj hgd2 hgw⟩
     case measure=>simp[intOf];omega
  ·obtain rfl:k=KL.length:=(by omega);go_wp2
   go_end0
   exact⟨rfl,aV.congr fun x y hx hy=>hall.out x y hx hy,aj hgk hgw⟩
set_option maxRecDepth 100000 in
theorem Dy(A:Option Addr)(c:Nat)(H:List Txn)(w:World)(h:aA w (Old w) (.slice A H.length c) H)(hn:aG H)(hr:ay H=true):
 Calls Tryz.prog 168 #[.agg #[.slice A H.length c]] w (lW w H.length (lV H)):=by
 obtain⟨W0,hW0⟩:∃W0,(w.alloc (.cells #[.slice A H.length c] 24)).alloc (.cells #[.int .i64 0,.slice none 0 0] 77)=W0:=⟨_,rfl⟩;have hB:=aN hW0;have k0:=Blk.jg hW0;have k1:=Blk.iB hW0;have hs0:=size_two hW0;have h0:=h.below hB;have h32:H.length≤32:=((aC H).1 hr).1;have hcall:=hide (oO 225 (enters_of Tryz.func225 (by kernel_rfl) rfl) #[.pointer (some ⟨w.heap.size,0,none⟩)] A c H (lV H) W0 h0 hn hr (fun W Bg hbW aV hBg=>by
  have Jw:Below w.heap.size w W:=hB.trans (hbW.mono (by omega));exact(Gs A c H hr hn w.heap.size Bg W0.heap.size (Old w) W (aA.keep h (Agree.below Jw fun b h=>h) (fun b h=>h)) (k0.below hbW k0.lt) (fun b hb=>by have:b<w.heap.size:=hb;omega) (by omega) (by omega) aV hbW.size).mono fun e w' hh=>hh))
 have c0:=Blk.n0 k0;replace hs0:=hide hs0;go_enter Tryz.func168,Tryz.ntmps168;go_wp2_with fail;clear hW0 c0;refine hcall.out.mono ?_;rintro e w4 ⟨g,hg,rfl,kR,hb4⟩;have nX:g≠w.heap.size+1:=(by have:=hs0.out;omega);have k14:=k1.below hb4 k1.lt;have hb5:=hB.trans (hb4.mono (by have:=hs0.out;omega));have j0:=Blk.n0 k14;have j1:=Blk.n1 k14;have jf:=k14.frozen 0;have jf1:=k14.frozen 1;have hgw:w.heap.size≤g:=(by have:=hs0.out;omega);clear hcall;go_wp2;have kF0:=((kR.far (p:=⟨w.heap.size+1,0,none⟩) nX (.int .i64 H.length)).far (p:=⟨w.heap.size+1,1,none⟩) nX (.slice (some ⟨g,0,none⟩) H.length H.length));have hF:=((hb5.setCell (p:=⟨w.heap.size+1,0,none⟩) (by simp) (.int .i64 H.length)).setCell (p:=⟨w.heap.size+1,1,none⟩) (by simp) (.slice (some ⟨g,0,none⟩) H.length H.length));exact bodyPost_ret (v:= .agg #[.int .i64 H.length,.slice (some ⟨g,0,none⟩) H.length H.length]) (by simp[results,Tryz.results168,go_sem,j0,j1]) rfl ⟨g,hgw,rfl,kF0,hF⟩
def GV(base n:Nat)(E:au)(v:Value)(W:World):Prop:=∃g,base≤g∧v= .agg #[.int .i64 n,.slice (some ⟨g,0,none⟩) n n]∧Blk W g 172 (bF n E)
theorem GV.below{base n:Nat}{E:au}{v:Value}{W W':World}(h:GV base n E v W)(hb:Below W.heap.size W W'):GV base n E v W':=by
 obtain⟨g,h1,h2,h3⟩:=h;exact⟨g,h1,h2,h3.below hb h3.lt⟩
def gB(b:Nat)(W W':World):Prop:=
 (W'.os=W.os∧W'.tape=W.tape∧W'.output=W.output∧W.heap.size≤W'.heap.size)∧∀k,k<W.heap.size→W'.heap[k]?=W.heap[k]?∨(b≤k∧∃cs cs',W.heap[k]?=some (.cells cs 77 (0,0))∧W'.heap[k]?=some (.cells cs' 77 (0,0))∧cs'.size=2)
theorem gB.of_below{b:Nat}{W W':World}(h:Below W.heap.size W W'):gB b W W':=⟨⟨h.os,h.tape,h.output,h.size⟩,fun k hk=> .inl (h.block k hk)⟩
theorem gB.blk{b g:Nat}{t:TypeId}{cs:Array Value}{W W':World}(h:gB b W W')(hk:Blk W g t cs)(ht:t≠77):Blk W' g t cs:=by
 rcases h.2 g hk.lt with e|⟨_,cs1,_,e,_⟩
 ·exact e.trans hk
 ·rw[show W.heap[g]?=_ from hk]at e;injection e with e
  injection e with _ e
  exact absurd e ht
theorem gB.below{b:Nat}{W W':World}(h:gB b W W'):Below b W W'∨W.heap.size<b:=by
 rcases Nat.lt_or_ge W.heap.size b with g|g
 ·exact .inr g
 ·exact .inl ⟨h.1.1,h.1.2.1,h.1.2.2.1,h.1.2.2.2,fun k hk=>by
   rcases h.2 k (by omega)with e|⟨e,_⟩
   ·exact e
   ·omega⟩
theorem GV.var{base n b:Nat}{E:au}{v:Value}{W W':World}(h:GV base n E v W)(hb:gB b W W'):GV base n E v W':=by
 obtain⟨g,h1,h2,h3⟩:=h;exact⟨g,h1,h2,hb.blk h3 (by decide)⟩
def ze(b:Nat)(v:Value)(W:World):Prop:=∃g,b≤g∧v= .pointer (some ⟨g,0,none⟩)∧∃x y,Blk W g 77 #[x,y]
def jN(H:List Txn)(A:Option Addr)(c base:Nat):Nat→(Nat→Value)→World→Prop
 |0,vs,_=>vs 0= .agg #[.slice A H.length c]
 |1,vs,W=>GV base H.length (soE H) (vs 1) W
 |2,vs,_=>vs 2= .agg #[.slice A H.length c]
 |3,vs,W=>GV base H.length (wrE H) (vs 3) W
 |4,vs,W=>∃u,vs 4= .tuple #[u,.int .i64 0]∧GV base H.length (bq H) u W
 |5,vs,W=>∃u,vs 5= .tuple #[u,.int .i64 0]∧GV base H.length (bq H) u W
 |6,vs,W=>GV base H.length (bq H) (vs 6) W
 |7,vs,_=>vs 7= .int .i64 0
 |8,vs,W=>ze (base+2) (vs 8) W
 |9,vs,W=>∃g x y,vs 8= .pointer (some ⟨g,0,none⟩)∧base+2≤g∧vs 6= .agg #[x,y]∧Blk W g 77 #[x,y]
 |_,_,_=>True
def jm:Nat→List Nat
 |1=>[0]
 |3=>[2]
 |4=>[1,3]
 |5=>[4]
 |6=>[5]
 |7=>[5]
 |9=>[8,6]
 |10=>[7]
 |_=>[]
theorem Lb{H:List Txn}{A:Option Addr}{c base:Nat}:∀j (vs vs':Nat→Value) w,(∀k,k=j∨k∈jm j→vs k=vs' k)→jN H A c base j vs w→jN H A c base j vs' w:=by
 intro j vs vs' w hk h
 match j,h with
 |0,h|1,h|2,h|3,h|4,h|5,h|6,h|7,h|8,h=>
  simp only[jN]at h⊢;rw[←hk _ (.inl rfl)];exact h
 |9,h=>
  simp only[jN]at h⊢;rw[←hk 8 (.inr (by simp[jm])),←hk 6 (.inr (by simp[jm]))];exact h
 |n+10,_=>trivial
def oP(base:Nat)(i:Nat)(W W':World):Prop:=if i=9 then gB (base+2) W W' else Below W.heap.size W W'
theorem oP.var{base i:Nat}{W W':World}(h:oP base i W W'):gB (base+2) W W':=by
 unfold oP at h;split at h
 ·exact h
 ·exact gB.of_below h
theorem ze.var{b b':Nat}{v:Value}{W W':World}(h:ze b v W)(hs:gB b' W W'):ze b v W':=by
 obtain⟨g,h1,h2,x,y,h3⟩:=h;rcases hs.2 g h3.lt with e|⟨_,cs,cs',_,e2,e3⟩
 ·exact⟨g,h1,h2,x,y,e.trans h3⟩
 ·refine⟨g,h1,h2,cs'[0]'(by omega),cs'[1]'(by omega),?_⟩;have:cs'=#[cs'[0]'(by omega),cs'[1]'(by omega)]:=by
   refine Array.ext (by simp[e3]) fun i h1 h2=> ?_;simp at h2
   match i,h2 with
   |0,_=>rfl
   |1,_=>rfl
  unfold Blk;rw[←this];exact e2
theorem Gt{H:List Txn}{A:Option Addr}{c base:Nat}:∀i j (vs:Nat→Value) w w',j≠i→j∉(fun _=>[]:Nat→List Nat) i→jN H A c base j vs w→oP base i w w'→jN H A c base j vs w':=by
 intro i j vs w w' hne _ h hs;have hv:=hs.var
 match j,h with
 |0,h|2,h|7,h=>exact h
 |1,h|3,h|6,h=>
  simp only[jN]at h⊢;exact h.var hv
 |4,h|5,h=>
  simp only[jN]at h⊢;obtain⟨u,h1,h2⟩:=h;exact⟨u,h1,h2.var hv⟩
 |8,h=>
  simp only[jN]at h⊢;exact ze.var h hv
 |9,h=>
  unfold oP at hs;rw[if_neg (fun e=>hne e.symm)]at hs;simp only[jN]at h⊢;obtain⟨g,x,y,h1,h2,h3,h4⟩:=h;exact⟨g,x,y,h1,h2,h3,h4.below hs h4.lt⟩
 |n+10,_=>trivial
theorem Gu:∀i,11≤i→jm i=[]:=by
 intro i hi
 match i,hi with
 |n+11,_=>rfl
set_option maxRecDepth 100000 in
theorem uR(A:Option Addr)(c:Nat)(H:List Txn)(w:World)(h:aA w (Old w) (.slice A H.length c) H)(hn:aG H)(hr:ay H=true):
 Calls Tryz.prog 97 #[.agg #[.slice A H.length c]] w (lW w H.length (bq H)):=by
 obtain⟨W0,hW0⟩:∃W0,(w.alloc (.cells #[.slice A H.length c] 24)).alloc (.cells #[.int .i64 0,.slice none 0 0] 77)=W0:=⟨_,rfl⟩;have hB:=aN hW0;have k0:=Blk.jg hW0;have k1:=Blk.iB hW0;have h32:H.length≤32:=((aC H).1 hr).1;go_enter Tryz.func97,Tryz.ntmps97;go_wp2_with fail;clear hW0;refine dV (jN H A c w.heap.size) (fun W=>Below w.heap.size w W∧Blk W w.heap.size 24 #[.slice A H.length c]∧Blk W (w.heap.size+1) 77 #[.int .i64 0,.slice none 0 0]) (oP w.heap.size) jm (by kernel_rfl) (by kernel_rfl) (by kernel_rfl) Gu (fun _=>[]) (by kernel_rfl) Lb Gt ⟨hB.drew,k0,k1⟩ ?hstep ?hend;case hstep=>
  intro i o ho vs W hS hd;obtain⟨hb,m0,m1⟩:=hS;have hT:=h.below hb
  match i,ho with
  |0,ho=>
   simp only[gZ,gS,Option.some.injEq]at ho;subst ho;simp only[acV,gA,gZ,gS,Act.put,sA,sZ,sS];have c0:=Blk.n0 m0;go_wp2;exact⟨rfl,.agg #[.slice A H.length c],rfl,rfl,⟨hb,m0,m1⟩,Below.refl _ _⟩
  |1,ho=>
   have d0:=hd 0 (by simp[jm]);simp only[jN]at d0;simp only[gZ,gS,Option.some.injEq]at ho;subst ho;simp only[acV,gA,gZ,gS,Act.put,sA,sZ,sS];rw[d0];go_wp2_with fail;refine(Jv A c H _ hT hn hr).mono ?_;rintro e W2 ⟨g,hg,rfl,kR,hb2⟩;go_wp2;exact⟨rfl,_,rfl,⟨g,Nat.le_trans hb.size hg,rfl,kR⟩,⟨hb.trans (hb2.mono hb.size),m0.below hb2 m0.lt,m1.below hb2 m1.lt⟩,hb2⟩
  |2,ho=>
   simp only[gZ,gS,Option.some.injEq]at ho;subst ho;simp only[acV,gA,gZ,gS,Act.put,sA,sZ,sS];have c0:=Blk.n0 m0;go_wp2;exact⟨rfl,.agg #[.slice A H.length c],rfl,rfl,⟨hb,m0,m1⟩,Below.refl _ _⟩
  |3,ho=>
   have d0:=hd 2 (by simp[jm]);simp only[jN]at d0;simp only[gZ,gS,Option.some.injEq]at ho;subst ho;simp only[acV,gA,gZ,gS,Act.put,sA,sZ,sS];rw[d0];go_wp2_with fail;refine(Jy A c H _ hT hn hr).mono ?_;rintro e W2 ⟨g,hg,rfl,kR,hb2⟩;go_wp2;exact⟨rfl,_,rfl,⟨g,Nat.le_trans hb.size hg,rfl,kR⟩,⟨hb.trans (hb2.mono hb.size),m0.below hb2 m0.lt,m1.below hb2 m1.lt⟩,hb2⟩
  |4,ho=>
   obtain⟨g1,hg1,d1,q1⟩:=hd 1 (by simp[jm]);obtain⟨g3,hg3,d3,q3⟩:=hd 3 (by simp[jm]);simp only[gZ,gS,Option.some.injEq]at ho;subst ho;simp only[acV,gA,gZ,gS,Act.put,sA,sZ,sS];rw[d1,d3];go_wp2_with fail;refine(rW H.length _ _ _ _ (soE H) (wrE H) (Old W) _ (GrS.bW q1 q1.lt (by omega)) (GrS.bW q3 q3.lt (by omega)) (fun b hb=>hb)).mono ?_;rintro e W2 ⟨g,hg,rfl,kR,hb2⟩;go_wp2;exact⟨rfl,_,rfl,⟨_,rfl,g,Nat.le_trans hb.size hg,rfl,kR⟩,⟨hb.trans (hb2.mono hb.size),m0.below hb2 m0.lt,m1.below hb2 m1.lt⟩,hb2⟩
  |5,ho=>
   obtain⟨u,d4,q4⟩:=hd 4 (by simp[jm]);simp only[gZ,gS,Option.some.injEq]at ho;subst ho;simp only[acV,gA,gZ,gS,Act.put,sA,sZ,sS];rw[d4];go_wp2;exact⟨rfl,_,rfl,⟨_,rfl,q4⟩,⟨hb,m0,m1⟩,Below.refl _ _⟩
  |6,ho=>
   obtain⟨u,d5,q5⟩:=hd 5 (by simp[jm]);simp only[gZ,gS,Option.some.injEq]at ho;subst ho;simp only[acV,gA,gZ,gS,Act.put,sA,sZ,sS];rw[d5];go_wp2;exact⟨rfl,_,rfl,q5,⟨hb,m0,m1⟩,Below.refl _ _⟩
  |7,ho=>
   obtain⟨u,d5,q5⟩:=hd 5 (by simp[jm]);simp only[gZ,gS,Option.some.injEq]at ho;subst ho;simp only[acV,gA,gZ,gS,Act.put,sA,sZ,sS];rw[d5];go_wp2;exact⟨rfl,_,rfl,rfl,⟨hb,m0,m1⟩,Below.refl _ _⟩
  |8,ho=>
   simp only[gZ,gS,Option.some.injEq]at ho;subst ho;simp only[acV,gA,gZ,gS,Act.put,sA,sZ,sS];go_wp2;have hsz:=m1.lt;exact⟨rfl,_,rfl,⟨W.heap.size,by omega,rfl,_,_,Blk.new _ _ _⟩,⟨hb.alloc hb.size _,m0.alloc _,m1.alloc _⟩,(Below.refl _ _).alloc (Nat.le_refl _) _⟩
  |9,ho=>
   obtain⟨g,hg,d8,x,y,q8⟩:=hd 8 (by simp[jm]);obtain⟨g6,hg6,d6,q6⟩:=hd 6 (by simp[jm]);simp only[gZ,gS,Option.some.injEq]at ho;subst ho;simp only[acV,gA,gZ,gS,Act.put,sA,sZ,sS];rw[d8,d6];have c0:=Blk.n0 q8;have c1:=Blk.n1 q8;have f0:=q8.frozen 0;have f1:=q8.frozen 1;go_wp2;have hq:=(q8.aK 0 (.int .i64 H.length)).aK 1 (.slice (some ⟨g6,0,none⟩) H.length H.length);have n1:w.heap.size≠g:=(by omega);have n2:w.heap.size+1≠g:=(by omega);refine⟨rfl,undef,rfl,⟨g,_,_,(show dx vs 9 undef 8=_ from d8),hg,(show dx vs 9 undef 6=_ from d6),by simpa using hq⟩,⟨(hb.setCell (p:=⟨g,0,none⟩) (by simp;omega) _).setCell (p:=⟨g,1,none⟩) (by simp;omega) _,(m0.far n1 _).far n1 _,(m1.far n2 _).far n2 _⟩,?_⟩;unfold oP;rw[if_pos rfl];refine⟨⟨rfl,rfl,rfl,by simp⟩,fun k hk=> ?_⟩;by_cases e:k=g
   ·subst e;exact .inr ⟨hg,_,_,q8,hq,by simp⟩
   ·exact .inl ((Below.heap_setCell _ ⟨g,1,none⟩ _ k e).trans (Below.heap_setCell _ ⟨g,0,none⟩ _ k e))
  |10,ho=>
   have d7:=hd 7 (by simp[jm]);simp only[jN]at d7;simp only[gZ,gS,Option.some.injEq]at ho;subst ho;simp only[acV,gA,gZ,gS,Act.put,sA,sZ,sS];rw[d7];go_wp2;exact⟨rfl,_,rfl,trivial,⟨hb,m0,m1⟩,Below.refl _ _⟩
  |n+11,ho=>simp at ho
 case hend=>
  rintro vs W ⟨hb,m0,m1⟩ hd;obtain⟨g,x,y,d8,hg,d6,q9⟩:=hd 9 (by simp) (by simp);obtain⟨g6,hg6,d6',q6⟩:=hd 6 (by simp) (by simp);rw[d6]at d6';injection d6' with d6'
  simp only[Array.mk.injEq,List.cons.injEq,and_true]at d6';obtain⟨rfl,rfl⟩:=d6';clear hd;simp only[acV,gA,gZ,gS,Act.put,sA,sZ,sS,List.length_cons,List.length_nil,Nat.reduceAdd];rw[d8,d6];have c0:=Blk.n0 q9;have c1:=Blk.n1 q9;have j0:=Blk.n0 m1;have j1:=Blk.n1 m1;have jf:=m1.frozen 0;have jf1:=m1.frozen 1;have hne:g6≠w.heap.size+1:=by
   rintro rfl;have:=m1.symm.trans q6;simp at this
  go_wp2;have kF0:=((q6.far (p:=⟨w.heap.size+1,0,none⟩) hne (.int .i64 H.length)).far (p:=⟨w.heap.size+1,1,none⟩) hne (.slice (some ⟨g6,0,none⟩) H.length H.length));have hF:=((hb.setCell (p:=⟨w.heap.size+1,0,none⟩) (by simp) (.int .i64 H.length)).setCell (p:=⟨w.heap.size+1,1,none⟩) (by simp) (.slice (some ⟨g6,0,none⟩) H.length H.length));exact bodyPost_ret (v:= .agg #[.int .i64 H.length,.slice (some ⟨g6,0,none⟩) H.length H.length]) (by simp[results,Tryz.results97,go_sem,j0,j1]) rfl ⟨g6,hg6,rfl,kF0,hF⟩
end Go.Proofs.YtfhnamomiaekdaaGreatDoor
