/-
  Walks: layer 29's reference: a fact of a choice by two others.
-/
import Derived.Test.YtfhnamomiaekdaaGreatDoorY31
import Derived.Test.YtfhnamomiaekdaaGreatDoorY19
set_option linter.unusedVariables false
set_option linter.unusedSimpArgs false
namespace Go.Proofs.YtfhnamomiaekdaaGreatDoor
open Go.RowKit Go.Inq
set_option maxHeartbeats 2000000
attribute [local go_sem↓] Go.wp_at_zero Go.wp_at_succ
section
variable{W:World}{g:Nat}{t:TypeId}{a b c d e f h x0 x1 x2 x3 x4 x5 x6:Value}
theorem Ah(k:Blk W g t #[x0,x1,x2,x3,x4,x5,x6]):Blk (Fh W g a b c d e f h) g t #[a,b,c,d,e,f,h]:=((((((k.aD 0 a).aD 1 b).aD 2 c).aD 3 d).aD 4 e).aD 5 f).aD 6 h
end
set_option maxRecDepth 100000 in
theorem ze(A:Option Addr)(c:Nat)(H:List Txn)(level:Int)(Al:Option Addr)(cl:Nat)(L:List Fct)(x:Cho)(w:World)(h:aF w (Old w) (.slice A H.length c) H)(hn:aB H)(hL:bF w (Old w) (.slice Al L.length cl) L)(hl:L.length≤100000):
 Calls Tryz.prog 123 #[.agg #[.slice A H.length c],.int .i64 level,.slice Al L.length cl,.agg #[.int .i64 x.key,.int .i64 x.a,.int .i64 x.b]] w fun e w'=>e= .returned (jnV (fq H level L x))∧Below w.heap.size w w':=by
 obtain⟨xk,xa,xb⟩:=x;dsimp only;obtain⟨Wa,hWa⟩:∃Wa,(w.alloc (.cells #[.slice A H.length c] 24)).alloc (.cells #[.int .i64 xk,.int .i64 xa,.int .i64 xb] 102)=Wa:=⟨_,rfl⟩;have hBa:=aG hWa;have k0:=Blk.fC hWa;have k1:=Blk.dQ hWa;have s0:=size_two hWa;have hho:=hide (fun(i j:Nat) W (hb:Below w.heap.size w W)=>tL A c H level Al cl L (eB ⟨xk,xa,xb⟩ (i,j)) none 0 W (h.below hb) hn (hL.below hb) hl (SlR.nil _ _ _ _ _ _) (Nat.zero_le _));have hhit:=hide (fun i j hi hj h1 h2 h3=>zQ (H:=H) (level:=level) (L:=L) (c:=⟨xk,xa,xb⟩) (i:=i) (j:=j) hi hj h1 h2 h3);have hmiss:=hide (yh (H:=H) (level:=level) (L:=L) (c:=⟨xk,xa,xb⟩));generalize fq H level L ⟨xk,xa,xb⟩=jo at*;replace s0:=hide s0;clear h hL;go_enter Tryz.func123,Tryz.ntmps123;go_upto_region 1 with fail;obtain⟨W0,hW0⟩:∃W0,Wa.alloc (.cells #[.int .i64 0,.int .i64 0,.int .i64 0,.int .i64 0,.int .i64 0,.int .i64 0,.slice none 0 0] 120)=W0:=⟨_,rfl⟩;try rw[hW0]
 have hw:w.heap.size≤Wa.heap.size:=(by rw[s0.out];omega);have hB0:=ah hBa hW0 hw;have kr:=Blk.newEq hW0;have Py:Below Wa.heap.size Wa W0:=ah (Below.refl _ _) hW0 (Nat.le_refl _);replace k0:=k0.below Py k0.lt;replace k1:=k1.below Py k1.lt;clear hW0 hWa hBa Py s0;go_upto_region 2 with fail;go_loopw [10] (fun s10 wr=>∃i:Nat,i≤L.length∧s10= .int .i64 (i:Int)∧Hid (∀a,a<i→∀b,b<L.length→aR H level L (eB ⟨xk,xa,xb⟩ (a,b))=false)∧Blk wr w.heap.size 24 #[.slice A H.length c]∧Blk wr (w.heap.size+1) 102 #[.int .i64 xk,.int .i64 xa,.int .i64 xb]∧Blk wr Wa.heap.size 120 #[.int .i64 0,.int .i64 0,.int .i64 0,.int .i64 0,.int .i64 0,.int .i64 0,.slice none 0 0]∧Below w.heap.size w wr) (fun s10 _=>L.length-(intOf s10).toNat);case atStart=>exact⟨0,Nat.zero_le _,by go_num,hide (fun a ha=>absurd ha (by omega)),k0,k1,kr,hB0⟩
 case round=>
  clear k0 k1 kr hB0;obtain⟨Wo,rfl⟩:∃Wo,Wo=wr:=⟨_,rfl⟩;obtain⟨i,hi,rfl,hno,k0,k1,kr,hb⟩:=hrel;have hi0:(0:Int)≤(i:Int):=Int.natCast_nonneg _;by_cases hlt:i<L.length
  ·have hi1:(i:Int)<(L.length:Int):=(by omega);go_upto_region 5 with fail;go_loopw [11] (fun s11 wr=>∃j:Nat,j≤L.length∧s11= .int .i64 (j:Int)∧Hid (∀b,b<j→aR H level L (eB ⟨xk,xa,xb⟩ (i,b))=false)∧Blk wr w.heap.size 24 #[.slice A H.length c]∧Blk wr (w.heap.size+1) 102 #[.int .i64 xk,.int .i64 xa,.int .i64 xb]∧Blk wr Wa.heap.size 120 #[.int .i64 0,.int .i64 0,.int .i64 0,.int .i64 0,.int .i64 0,.int .i64 0,.slice none 0 0]∧Below w.heap.size w wr) (fun s11 _=>L.length-(intOf s11).toNat);case atStart=>exact⟨0,Nat.zero_le _,by go_num,hide (fun a ha=>absurd ha (by omega)),k0,k1,kr,hb⟩
   case round=>
    clear k0 k1 kr hb;obtain⟨Wi,rfl⟩:∃Wi,Wi=wr:=⟨_,rfl⟩;obtain⟨j,hj,rfl,qh,k0,k1,kr,hb⟩:=hrel;have hj0:(0:Int)≤(j:Int):=Int.natCast_nonneg _;by_cases hlt2:j<L.length
    ·have hj1:(j:Int)<(L.length:Int):=(by omega);have x0:=Blk.n0 k1;have x1:=Blk.n1 k1;have x2:=Blk.n2 k1;go_upto_region 8 with fail;obtain⟨W1,hW1⟩:∃W1,Wi.alloc (.cells #[.int .i64 xk,.int .i64 xa,.int .i64 xb,.int .i64 2,.int .i64 (i:Int),.int .i64 (j:Int),.slice none 0 0] 120)=W1:=⟨_,rfl⟩;try rw[hW1]
     have hb1:=ah hb hW1 hb.size;have hbi:Below Wi.heap.size Wi W1:=ah (Below.refl _ _) hW1 (Nat.le_refl _);have nn:=Blk.newEq hW1;have n0:=k0.below hbi k0.lt;have n1:=k1.below hbi k1.lt;have nr:=kr.below hbi kr.lt;clear k0 k1 kr x0 x1 x2 hW1 hbi;have c0:=Blk.n0 n0;have f0:=Blk.n0 nn;have f1:=Blk.n1 nn;have f2:=Blk.n2 nn;have f3:=Blk.n3 nn;have f4:=Blk.n4 nn;have f5:=Blk.n5 nn;have f6:=Blk.n6 nn;have hc:=hide (hho.out i j W1 hb1);have hh1:=hide (fun g=>hhit.out i j hlt hlt2 hno.out qh.out g);have hstp:=hide (show aR H level L (eB ⟨xk,xa,xb⟩ (i,j))=false→∀b,b<j+1→aR H level L (eB ⟨xk,xa,xb⟩ (i,b))=false from fun g b hb=>by
      by_cases e:b=j
      ·subst e;exact g
      ·exact qh.out b (by omega))
     generalize hq:aR H level L (eB ⟨xk,xa,xb⟩ (i,j))=q at hc hh1 hstp;dsimp only[eB]at hc;clear hq;go_wp2_with fail;refine hc.out.mono ?_;rintro e w2 ⟨rfl,hb2'⟩;have hb2:=hb1.trans (hb2'.mono hb1.size);replace n0:=n0.below hb2' n0.lt;replace n1:=n1.below hb2' n1.lt;replace nr:=nr.below hb2' nr.lt;replace nn:=nn.below hb2' nn.lt;clear hc hb2' c0 f0 f1 f2 f3 f4 f5 f6;cases q with
     |true=>
      obtain rfl:=hh1.out rfl;have f0:=Blk.n0 nn;have f1:=Blk.n1 nn;have f2:=Blk.n2 nn;have f3:=Blk.n3 nn;have f4:=Blk.n4 nn;have f5:=Blk.n5 nn;have f6:=Blk.n6 nn;have z0:=Blk.n0 nr;have z1:=Blk.n1 nr;have z2:=Blk.n2 nr;have z3:=Blk.n3 nr;have z4:=Blk.n4 nr;have z5:=Blk.n5 nr;have z6:=Blk.n6 nr;have g0:=nr.frozen 0;have g1:=nr.frozen 1;have g2:=nr.frozen 2;have g3:=nr.frozen 3;have g4:=nr.frozen 4;have g5:=nr.frozen 5;have g6:=nr.frozen 6;have hBo:=hide (nA (a:= .int .i64 xk) (b:= .int .i64 xa) (c:= .int .i64 xb) (d:= .int .i64 2) (e:= .int .i64 (i:Int)) (f:= .int .i64 (j:Int)) (h:= .slice none 0 0) hb2 hw);have kz:=Ah (a:= .int .i64 xk) (b:= .int .i64 xa) (c:= .int .i64 xb) (d:= .int .i64 2) (e:= .int .i64 (i:Int)) (f:= .int .i64 (j:Int)) (h:= .slice none 0 0) nr;have y0:=kz.cell 0;have y1:=kz.cell 1;have y2:=kz.cell 2;have y3:=kz.cell 3;have y4:=kz.cell 4;have y5:=kz.cell 5;have y6:=kz.cell 6;unfold Fh at y0 y1 y2 y3 y4 y5 y6;simp only[gA,gZ,gS]at y0 y1 y2 y3 y4 y5 y6;clear hh1 hstp hno hhit hmiss hho n0 n1 nr nn kz hb2;go_wp2_with fail;exact bodyPost_ret (v:= .tuple #[.agg #[.int .i64 xk,.int .i64 xa,.int .i64 xb,.int .i64 2,.int .i64 (i:Int),.int .i64 (j:Int),.slice none 0 0],.bool true]) (by simp[results,Tryz.results123,go_sem,y0,y1,y2,y3,y4,y5,y6]) rfl ⟨rfl,hBo.out⟩
     |false=>
      have hs1:=hide (hstp.out rfl);clear hh1 hstp;go_wp2;go_roundw;case rel=>exact⟨j+1,by omega,by go_num,hs1,n0,n1,nr,hb2⟩
      case measure=>simp[intOf];omega
    ·obtain rfl:j=L.length:=(by omega);have hn1:=hide (show∀a,a<i+1→∀b,b<L.length→aR H level L (eB ⟨xk,xa,xb⟩ (a,b))=false from fun a ha b hb=>by
      by_cases e:a=i
      ·subst e;exact qh.out b hb
      ·exact hno.out a (by omega) b hb)
     clear hno qh hhit hmiss;go_wp2;go_roundw;case rel=>exact⟨i+1,by omega,by go_num,hn1,k0,k1,kr,hb⟩
     case measure=>simp[intOf];omega
  ·obtain rfl:i=L.length:=(by omega);obtain rfl:=hmiss.out hno.out;have z0:=Blk.n0 kr;have z1:=Blk.n1 kr;have z2:=Blk.n2 kr;have z3:=Blk.n3 kr;have z4:=Blk.n4 kr;have z5:=Blk.n5 kr;have z6:=Blk.n6 kr;have g0:=kr.frozen 0;have g1:=kr.frozen 1;have g2:=kr.frozen 2;have g3:=kr.frozen 3;have g4:=kr.frozen 4;have g5:=kr.frozen 5;have g6:=kr.frozen 6;have hBo:=hide (nA (a:= .int .i64 0) (b:= .int .i64 0) (c:= .int .i64 0) (d:= .int .i64 0) (e:= .int .i64 0) (f:= .int .i64 0) (h:= .slice none 0 0) hb hw);have kz:=Ah (a:= .int .i64 0) (b:= .int .i64 0) (c:= .int .i64 0) (d:= .int .i64 0) (e:= .int .i64 0) (f:= .int .i64 0) (h:= .slice none 0 0) kr;have y0:=kz.cell 0;have y1:=kz.cell 1;have y2:=kz.cell 2;have y3:=kz.cell 3;have y4:=kz.cell 4;have y5:=kz.cell 5;have y6:=kz.cell 6;unfold Fh at y0 y1 y2 y3 y4 y5 y6;simp only[gA,gZ,gS]at y0 y1 y2 y3 y4 y5 y6;clear hno hhit hmiss hho k0 k1 kr kz hb;go_wp2_with fail;exact bodyPost_ret (v:= .tuple #[.agg #[.int .i64 0,.int .i64 0,.int .i64 0,.int .i64 0,.int .i64 0,.int .i64 0,.slice none 0 0],.bool false]) (by simp[results,Tryz.results123,go_sem,y0,y1,y2,y3,y4,y5,y6]) rfl ⟨rfl,hBo.out⟩
end Go.Proofs.YtfhnamomiaekdaaGreatDoor
