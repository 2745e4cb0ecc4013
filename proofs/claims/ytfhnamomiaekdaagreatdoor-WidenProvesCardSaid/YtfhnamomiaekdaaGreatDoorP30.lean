/-
  Walks: layer 24: whether the next tree holds with some choices.
-/
import Derived.Test.YtfhnamomiaekdaaGreatDoorP29
set_option linter.unusedVariables false
set_option linter.unusedSimpArgs false
namespace Go.Proofs.YtfhnamomiaekdaaGreatDoor
open Go.RowKit Go.Inq
set_option maxHeartbeats 8000000
attribute [local go_sem↓] Go.wp_at_zero Go.wp_at_succ
def KC(g:Nat)(w:World):Nat→Prop:=fun b=>b<g∨∃cs,Blk w b 102 cs
theorem KC.agree{g n0:Nat}{σ:List TypeId}{w w':World}(hT:TyW n0 σ w w')(hg:g≤n0)(hs:102∉σ):Agree (KC g w) w w':=fun b hb=>by
 rcases hb with hb|⟨cs,hb⟩
 ·exact hT.below.block b (by omega)
 ·exact(show w'.heap[b]?=_ from hT.blk hb hs).trans hb.symm
theorem KC.step{g n0:Nat}{σ:List TypeId}{w w':World}(hT:TyW n0 σ w w')(hs:102∉σ){b:Nat}(h:KC g w b):KC g w' b:=by
 rcases h with h|⟨cs,h⟩
 ·exact .inl h
 ·exact .inr ⟨cs,hT.blk h hs⟩
theorem KC.ty{g n0:Nat}{σ:List TypeId}{w w':World}{v:Value}{M:List Cho}(h:bR w (KC g w) v M)(hT:TyW n0 σ w w')(hg:g≤n0)(hs:102∉σ):bR w' (KC g w') v M:=
 bR.keep h (KC.agree hT hg hs) fun _ h=>KC.step hT hs h
theorem KC.own{g:Nat}{w:World}{v:Value}{M:List Cho}(h:w.ownsRow g 102 3 v M.length (M.map j6).flatten):bR w (KC g w) v M:=by
 have h2:bA 3 (Flat j6) w (KC g w) g 102 v M:=bA.flat h (fun _=>rfl);refine h2.sl fun b hb=> ?_;obtain⟨cs,h3⟩:=h2.blk hb;exact .inr ⟨cs,h3⟩
def RdV(w0:World)(g:Nat)(l:List Nod)(W:World):Prop:=∃A c,Blk W g 231 #[.slice A l.length c]∧ig w0 (fun b=>b<g) (.slice A l.length c) l
theorem RdV.rd{w0 W:World}{g:Nat}{l:List Nod}(h:RdV w0 g l W)(ha:Agree (fun b=>b<g) w0 W):RdW W g l:=by
 obtain⟨A,c,h1,h2⟩:=h;exact⟨A,c,h1,h2.keep ha fun _ h=>h⟩
theorem RdW.rv{w0 W:World}{g:Nat}{l:List Nod}(h:RdW W g l)(ha:Agree (fun b=>b<g) w0 W):RdV w0 g l W:=by
 obtain⟨A,c,h1,h2⟩:=h;exact⟨A,c,h1,h2.keep (fun b hb=>(ha b hb).symm) fun _ h=>h⟩
def wRd(w0:World)(g:Nat)(l:List Nod):Wrd:=⟨[231],fun _ W=>RdV w0 g l W,fun _ _ _ _ _ h hT k=>by
 obtain⟨A,c,h1,h2⟩:=k;exact⟨A,c,hT.blk h1 (h _ (by simp)),h2⟩⟩
theorem bR.clip{w:World}{K:Nat→Prop}{A:Option Addr}{c:Nat}{M:List Cho}(h:bR w K (.slice A M.length c) M):bR w K (.slice A M.length M.length) M:=by
 obtain⟨A',c',xs,e,h1,h2,h3,h4⟩:=h;injection e with e1 e2 e3
 subst e1;exact⟨A,M.length,xs,rfl,Nat.le_refl _,h2,h3,h4⟩
theorem bR.Qh{w:World}{K:Nat→Prop}{A:Option Addr}{c:Nat}{M:List Cho}(h:bR w K (.slice A M.length c) M):M.length≤c:=by
 obtain⟨_,_,e,h1⟩:=SlR.len h;simp only[Value.slice.injEq]at e;omega
def iY(g:Nat)(q:Bool)(rest:List Nod)(w:World)(e:Ending)(w':World):Prop:=e= .returned (.bool q)∧RdW w' g rest∧TyW g [231] w w'
set_option maxRecDepth 100000 in
theorem BU (g:Nat) (A:Option Addr) (c:Nat) (H:List Txn) (level:Int) (n:Nod) (rest:List Nod) (M:List Cho) (Am:Option Addr) (cm:Nat) (w:World) (h:aA w (fun b=>b<g) (.slice A H.length c) H) (hn:aG H)
 (hM:bR w (KC g w) (.slice Am M.length cm) M) (hR:RdW w g (n::rest)) (hc:n.cyc≠[]) (hcl:n.cyc.length≤1000000) (hrl:rest.length+1≤maxLen) (hml:M.length≤1000000000):
 Calls Tryz.prog 149 #[.pointer (some ⟨g,0,none⟩),.agg #[.slice A H.length c],.int .i64 level,.slice Am M.length cm] w (iY g (decide (n.c=yC)&&lY H level M n.cyc) rest w):=by
 have hgl:=hR.lt;obtain⟨W1,hW1⟩:∃W1,w.alloc (.cells #[.slice A H.length c] 24)=W1:=⟨_,rfl⟩;have hb1:=ah (Below.refl w.heap.size w) hW1 (Nat.le_refl _);have k1:=Blk.newEq hW1;have hT1:TyW g [231] w W1:=TyW.calm hb1 (Nat.le_of_lt hgl);have hx:=hide (rM g n rest W1 (hR.below hb1) hrl);obtain⟨P,hP⟩:∃P,iY g (decide (n.c=yC)&&lY H level M n.cyc) rest w=P:=⟨_,rfl⟩;rw[hP];replace hP:=hide hP;go_enter Tryz.func149,Tryz.ntmps149;go_wp2_with fail;refine hx.out.mono ?_;rintro e w2 ⟨Ay,cy,rfl,hI,hR2,hT2⟩;clear hx hW1;have hT:=hT1.trans hT2;have k2:=hT2.blk k1 (by decide);obtain⟨⟨nk,na,nb⟩,nc⟩:=n;dsimp only at hc hcl hI hP⊢;have hsz:=hT.size;obtain⟨W3,hW3⟩:∃W3,w2.alloc (.cells #[.int .i64 nk,.int .i64 na,.int .i64 nb,.slice Ay nc.length cy] 125)=W3:=⟨_,rfl⟩;have hb3:=ah (Below.refl w2.heap.size w2) hW3 (Nat.le_refl _);have n3:=Blk.newEq hW3;have k3:=k2.below hb3 k2.lt;have hT3:TyW g [231] w W3:=hT.trans (TyW.calm hb3 (by omega));have hR3:=hR2.below hb3;have hI3:=hI.keep (Agree.below hb3 fun b (hb:b<g)=>by omega) fun _ h=>h;have h3:=aA.keep (K':=fun b=>b<g) h (Agree.below hT3.below fun b hb=>hb) fun _ h=>h;have hM3:=KC.ty hM hT3 (Nat.le_refl _) (by decide);have c0:=Blk.n0 k3;have m0:=Blk.n0 n3;have m1:=Blk.n1 n3;have m2:=Blk.n2 n3;have m3:=Blk.n3 n3;have g1:decide ((nc.length:Int)>0)=true:=(by have:=List.length_pos_iff.2 hc;simp;omega);have g2:decide (0<nc.length)=true:=(by have:=List.length_pos_iff.2 hc;simp;omega);have hrg:=hide (En A c H level Am cm M Ay cy nc W3 (h3.fit fun b hb=>by show b<_;have:=hT3.size;omega) hn (hM3.fit fun b hb=>by
  rcases hb with hb|⟨cs,hb⟩
  ·show b<_;have:=hT3.size;omega
  ·exact hb.lt) hml (hI3.fit fun b hb=>by show b<_;have:=hT3.size;omega) (by omega))
 have hO:∀q W',q=(decide ((⟨nk,na,nb⟩:Cho)=yC)&&lY H level M nc)→Below W3.heap.size W3 W'→Hid (iY g (decide ((⟨nk,na,nb⟩:Cho)=yC)&&lY H level M nc) rest w (.returned (.bool q)) W'):=fun q W' e hb=>
  hide ⟨by rw[e],hR3.below hb,hT3.trans (TyW.calm hb (by have:=hT3.size;omega))⟩
 clear hR hM hI h k1 k2 hR2 hT hT1 hT2 hb1 hb3 n3 k3 hI3 h3 hM3 hc hT3 hR3;replace hO:=hide hO;by_cases hz:(⟨nk,na,nb⟩:Cho)=⟨0,0,0⟩
 ·injection hz with z0 z1 z2
  subst z0 z1 z2;go_upto_region 3 with fail;try rw[hW3]
  clear hW3;go_wp2_with fail;refine hrg.out.mono ?_;rintro e w4 ⟨rfl,hb4⟩;go_wp2;rw[←hP.out];exact(hO.out _ _ rfl hb4).out
 ·have hz0:decide ((⟨nk,na,nb⟩:Cho)=yC)=false:=decide_eq_false hz;have hO2:=hide (hO.out false W3 (by rw[hz0];rfl) (Below.refl _ _));have hsp:nk≠0∨(nk=0∧na≠0)∨(nk=0∧na=0∧nb≠0):=by
   by_cases q0:nk=0
   ·by_cases q1:na=0
    ·by_cases q2:nb=0
     ·subst q0 q1 q2;exact absurd rfl hz
     ·exact .inr (.inr ⟨q0,q1,q2⟩)
    ·exact .inr (.inl ⟨q0,q1⟩)
   ·exact .inl q0
  replace hO2:=hide hO2;replace hz:=hide hz;clear hO hrg hz0;rcases hsp with q|⟨rfl,q⟩|⟨rfl,rfl,q⟩
  ·have qb:(nk==0)=false:=(by simpa using q);clear q;go_upto_region 3 with fail;try rw[hW3]
   clear hW3;go_wp2;rw[←hP.out];exact hO2.out.out
  ·have qb:(na==0)=false:=(by simpa using q);clear q;go_upto_region 3 with fail;try rw[hW3]
   clear hW3;go_wp2;rw[←hP.out];exact hO2.out.out
  ·have qb:(nb==0)=false:=(by simpa using q);clear q;go_upto_region 3 with fail;try rw[hW3]
   clear hW3;go_wp2;rw[←hP.out];exact hO2.out.out
end Go.Proofs.YtfhnamomiaekdaaGreatDoor
