/-
  Walks: layer 31: a path in memory of its own.
-/
import Derived.Test.YtfhnamomiaekdaaGreatDoorU34
import Derived.Test.YtfhnamomiaekdaaGreatDoorU23
set_option linter.unusedVariables false
set_option linter.unusedSimpArgs false
namespace Go.Proofs.YtfhnamomiaekdaaGreatDoor
open Go.RowKit Go.Inq
set_option maxHeartbeats 4000000
attribute [local go_sem↓] Go.wp_at_zero Go.wp_at_succ
def MkO(w:World)(base:Nat)(v:Value)(l:List Mk):Prop:=aN 5 MkR w (TyK base [125,3] w) base 129 v l
theorem MkO.s{w:World}{base:Nat}{v:Value}{l:List Mk}(h:MkO w base v l):MkS w (Old w) v l:=aN.LP MkR.aT h
theorem MkO.below{w w':World}{base:Nat}{v:Value}{l:List Mk}(h:MkO w base v l)(hb:Below w.heap.size w w'):MkO w' base v l:=aN.BZ MkR.aT h hb (Nat.le_refl _)
theorem MkO.base{w:World}{base base':Nat}{v:Value}{l:List Mk}(h:MkO w base v l)(hb:base'≤base):MkO w base' v l:=aN.LQ MkR.aT h hb
theorem MkO.nil(w:World)(base:Nat):MkO w base (.slice none 0 0) []:=aN.nil _ _ _ _ _ _
theorem bJ.slK{w:World}{base:Nat}{v:Value}{l:List Nod}(h:bJ w base v l):eX w (TyK base [125,3] w) v l:=aN.slT fP.aT h
theorem Ip{w:World}{base:Nat}{e:TypeId}{size n m c j:Nat}{A:Option Addr}{xs:List Value}(h:w.ownsRow base e size (.slice A m c) n xs)(hj:j<xs.length):
 ∃g,A=some ⟨g,0,none⟩∧base≤g∧(∃cs,Blk w g e cs∧cs[j]?=xs[j]?)∧∀u,(w.setCell ⟨g,j,none⟩ u).ownsRow base e size (.slice A m c) n (xs.set j u):=by
 have h0:=h.1;rcases h.2 with⟨_,h4⟩|⟨g,cap,cur,hv,hg,hh,h6,h7,h8,h9⟩
 ·exfalso;rw[h4]at h0;simp at h0;rw[h0]at hj;simp at hj
 ·simp only[Value.slice.injEq]at hv;obtain⟨rfl,hn,rfl⟩:=hv;have hk:Blk w g e cur:=hh;have hjc:j<n*size:=(by omega);refine⟨g,rfl,hg,⟨cur,hk,?_⟩,fun u=>⟨by rw[List.length_set];exact h0,.inr ⟨g,c,_,by rw[hn],hg,hk.aH j u,h6,h7,by simpa using h8,?_⟩⟩⟩
  ·rw[←h9,List.getElem?_take,if_pos hjc,Array.getElem?_toList]
  ·rw[←h9,Array.toList_setIfInBounds,List.take_set]
theorem EG{α:Type}(size:Nat):∀(ys:List (List α)) (i j:Nat) (u:α),(∀y∈ys,y.length=size)→(hi:i<ys.length)→j<size→ys.flatten.set (i*size+j) u=(ys.set i (ys[i].set j u)).flatten
 |[],i,j,u,_,hi,_=>by simp at hi
 |y::ys,0,j,u,hs,_,hj=>by
  have:=hs y (by simp);simp[List.set_append,this,hj]
 |y::ys,i+1,j,u,hs,hi,hj=>by
  have h1:=hs y (by simp);have ih:=EG size ys i j u (fun z hz=>hs z (by simp[hz])) (by simpa using hi) hj;simp only[List.flatten_cons,sS,List.getElem_cons_succ];rw[←ih,List.set_append,if_neg (by rw[h1,Nat.add_mul];omega),h1,show(i+1)*size+j-size=i*size+j by rw[Nat.add_mul];omega]
theorem Iq{α:Type}(size:Nat):∀(ys:List (List α)) (i j:Nat),(∀y∈ys,y.length=size)→(hi:i<ys.length)→j<size→ys.flatten[i*size+j]?=ys[i][j]?
 |[],i,j,_,hi,_=>by simp at hi
 |y::ys,0,j,hs,_,hj=>by
  have:=hs y (by simp);simp only[Nat.zero_mul,Nat.zero_add,List.flatten_cons,List.getElem_cons_zero];rw[List.getElem?_append_left (by omega)]
 |y::ys,i+1,j,hs,hi,hj=>by
  have h1:=hs y (by simp);have ih:=Iq size ys i j (fun z hz=>hs z (by simp[hz])) (by simpa using hi) hj;simp only[List.flatten_cons,List.getElem_cons_succ];rw[←ih,List.getElem?_append_right (by rw[h1,Nat.add_mul];omega),h1,show(i+1)*size+j-size=i*size+j by rw[Nat.add_mul];omega]
theorem EH{α:Type}(size:Nat):∀(ys:List (List α)),(∀y∈ys,y.length=size)→ys.flatten.length=ys.length*size
 |[],_=>by simp
 |y::ys,hs=>by
  have ih:=EH size ys fun z hz=>hs z (by simp[hz]);rw[List.flatten_cons,List.length_append,ih,hs y (by simp),List.length_cons,Nat.add_mul];omega
def MkJ(w:World)(base:Nat)(v:Value)(l:List Mk)(k:Nat):Prop:=
 ∃ys:List (List Value),w.ownsRow base 129 5 v l.length ys.flatten∧ys.length=l.length∧∀(i:Nat) cs x,ys[i]?=some cs→l[i]?=some x→cs.length=5∧(i<k→MkR w (TyK base [125,3] w) cs x)∧(k≤i→MkR w (fun b=>b<base) cs x)
theorem MkJ.start{w:World}{base:Nat}{v:Value}{l:List Mk}(h:aN 5 MkR w (fun b=>b<base) base 129 v l):MkJ w base v l 0:=by
 obtain⟨ys,h1,h2,h3⟩:=h;exact⟨ys,h1,h2,fun i cs x e1 e2=>⟨(h3 i cs x e1 e2).1,fun g=>absurd g (by omega),fun _=>(h3 i cs x e1 e2).2⟩⟩
theorem MkJ.fin{w:World}{base:Nat}{v:Value}{l:List Mk}(h:MkJ w base v l l.length):MkO w base v l:=by
 obtain⟨ys,h1,h2,h3⟩:=h;exact⟨ys,h1,h2,fun i cs x e1 e2=>⟨(h3 i cs x e1 e2).1,(h3 i cs x e1 e2).2.1 (List.getElem?_eq_some_iff.1 e2).1⟩⟩
theorem MkJ.form{w:World}{base:Nat}{v:Value}{l:List Mk}{k:Nat}(h:MkJ w base v l k):∃A c,v= .slice A l.length c:=by
 obtain⟨ys,h1,-⟩:=h;exact bC h1
theorem MkJ.below{w w':World}{base:Nat}{v:Value}{l:List Mk}{k:Nat}(h:MkJ w base v l k)(hb:Below w.heap.size w w')(hB:base≤w.heap.size):MkJ w' base v l k:=by
 obtain⟨ys,h1,h2,h3⟩:=h;refine⟨ys,own_below h1 hb (Nat.le_refl _),h2,fun i cs x e1 e2=> ?_⟩;obtain⟨g1,g2,g3⟩:=h3 i cs x e1 e2;have hA:=TyK.below (base:=base) (τs:=[125,3]) hb (Nat.le_refl _);exact⟨g1,fun hi=>MkR.aT _ _ _ _ _ _ (g2 hi) hA fun _ g=>TyK.step hA g,fun hi=>MkR.aT _ _ _ _ _ _ (g3 hi) (Agree.below hb fun b (h:b<base)=>by omega) fun _ g=>g⟩
theorem MkJ.cells{w:World}{base:Nat}{A:Option Addr}{n c:Nat}{l:List Mk}{k:Nat}(h:MkJ w base (.slice A n c) l k)(hk:k<l.length):
 ∃g Ay cy,A=some ⟨g,0,none⟩∧base≤g∧g<w.heap.size∧eX w (fun b=>b<base) (.slice Ay l[k].done.length cy) l[k].done∧(∃cs,Blk w g 129 cs)∧
  w.cell? ⟨g,k*5,none⟩=some (.int .i64 l[k].c.key)∧w.cell? ⟨g,k*5+1,none⟩=some (.int .i64 l[k].c.a)∧w.cell? ⟨g,k*5+2,none⟩=some (.int .i64 l[k].c.b)∧w.cell? ⟨g,k*5+3,none⟩=some (.bool l[k].right)∧w.cell? ⟨g,k*5+4,none⟩=some (.slice Ay l[k].done.length cy)∧
  ∀At ct,bJ w base (.slice At l[k].done.length ct) l[k].done→MkJ (w.setCell ⟨g,k*5+4,none⟩ (.slice At l[k].done.length ct)) base (.slice A n c) l (k+1):=by
 obtain⟨ys,h1,h2,h3⟩:=h;have hky:k<ys.length:=(by omega);obtain⟨g1,-,g3⟩:=h3 k ys[k] l[k] (List.getElem?_eq_getElem hky) (List.getElem?_eq_getElem hk);obtain⟨Ay,cy,hcs,hS⟩:=g3 (Nat.le_refl _);have hall:∀y∈ys,y.length=5:=fun y hy=>by
  obtain⟨i,hi,rfl⟩:=List.getElem_of_mem hy;exact(h3 i ys[i] (l[i]'(by omega)) (List.getElem?_eq_getElem hi) (List.getElem?_eq_getElem (by omega))).1
 have hfl:=EH 5 ys hall;obtain⟨g,rfl,hg,⟨cs,hb,-⟩,hset⟩:=Ip h1 (j:=k*5+4) (by omega);have hcell:∀j,j<5→w.cell? ⟨g,k*5+j,none⟩=ys[k][j]?:=fun j hj=>by
  obtain⟨g',e,-,⟨cs',hb',hc'⟩,-⟩:=Ip h1 (j:=k*5+j) (by omega);injection e with e
  injection e with e1 e2
  subst e1;rw[hb'.cell,hc',List.getElem?_eq_getElem (by omega)];rw[←Iq 5 ys k j hall hky hj,List.getElem?_eq_getElem (by omega)]
 rw[hcs]at hcell;have e0:=hcell 0 (by omega);have e1:=hcell 1 (by omega);have e2:=hcell 2 (by omega);have e3:=hcell 3 (by omega);have e4:=hcell 4 (by omega);refine⟨g,Ay,cy,rfl,hg,hb.lt,hS,⟨cs,hb⟩,e0,e1,e2,e3,e4,fun At ct hO=> ?_⟩;have hA:Agree (TyK base [125,3] w) w (w.setCell ⟨g,k*5+4,none⟩ (.slice At l[k].done.length ct)):=TyK.aH hb (by decide) _;have hA2:Agree (fun b=>b<base) w (w.setCell ⟨g,k*5+4,none⟩ (.slice At l[k].done.length ct)):=Agree.setCell ⟨g,k*5+4,none⟩ (by show¬g<base;omega) _;refine⟨ys.set k (ys[k].set 4 (.slice At l[k].done.length ct)),by rw[←EG 5 ys k 4 _ hall hky (by omega)];exact hset _,by rw[List.length_set];exact h2,fun i cs x f1 f2=> ?_⟩;by_cases hik:i=k
 ·subst hik;rw[List.getElem?_set_self hky]at f1;rw[List.getElem?_eq_getElem hk]at f2;injection f1 with f1
  injection f2 with f2
  subst f1 f2;refine⟨by rw[List.length_set];exact g1,fun _=> ?_,fun h=>absurd h (by omega)⟩;rw[hcs];exact⟨At,ct,rfl,eX.keep (bJ.slK hO) hA fun _ g=>TyK.step hA g⟩
 ·rw[List.getElem?_set_ne (Ne.symm hik)]at f1;obtain⟨q1,q2,q3⟩:=h3 i cs x f1 f2;exact⟨q1,fun hi=>MkR.aT _ _ _ _ _ _ (q2 (by omega)) hA fun _ g=>TyK.step hA g,fun hi=>MkR.aT _ _ _ _ _ _ (q3 (by omega)) hA2 fun _ g=>g⟩
theorem Ue(w:World)(A:Option Addr)(n c:Nat):(Go.binOp .eql 51 (.slice A n c) (.slice none 0 0)).run Tryz.prog w= .ok (.bool A.isNone) w:=Lib.run_eql_slice_nil w 51 129 A n c 0 0 Tryz.underlying51
attribute [local go_sem] Ue
end Go.Proofs.YtfhnamomiaekdaaGreatDoor
