/-
  Words for memory that all texts of this family share: slices that read as lists, over a set of blocks; no program in sight.
-/
import Derived.WalkKit
import Derived.WalkSpells
import Derived.WalkLawsBesides
import Derived.Handy
import Derived.Deep.QuietTactic
import Derived.BigQuiet
import Derived.Deep.RegionHeld3
import Derived.Deep.DrawnRows
import Derived.Below
import Derived.Laws.OwnMore
import Derived.Deep.AppendLies
import Derived.Deep.Draws
import Derived.Laws.Rows
import Derived.Maps.AppendAt
import Derived.RegionTactic
import Derived.OwnWalk
import Derived.Deep.Light
import Derived.Deep.LoopGhost
import Derived.Deep.DeepCutAuto
import Derived.BigGuardPart
import Derived.StillTailTactics
import Derived.Deep.AppendSrc
import Derived.Lib.SlicesCompact
import Derived.Laws.BitsAllLaws
import Derived.Lib.TrailingZeros
set_option linter.unusedVariables false
set_option linter.unusedSimpArgs false
namespace Go.Inq
open Go Go.RowKit
theorem hide{p:Prop}(h:p):Hid p:=h
theorem bE{a b:Bool}(h:a=b):Ending.returned (.bool a)= .returned (.bool b):=by rw[h]
theorem dV{k:IntKind}{a b:Int}(h:a=b):Ending.returned (.int k a)= .returned (.int k b):=by rw[h]
def Agree(K:Nat→Prop)(w w':World):Prop:=∀b,K b→w'.heap[b]?=w.heap[b]?
section
variable{K K':Nat→Prop}{w w' w'':World}
theorem Agree.refl(K:Nat→Prop)(w:World):Agree K w w:=fun _ _=>rfl
theorem Agree.trans(h:Agree K w w')(h':Agree K w' w''):Agree K w w'':=fun b hb=>(h' b hb).trans (h b hb)
theorem Agree.mono(h:Agree K w w')(hk:∀b,K' b→K b):Agree K' w w':=fun b hb=>h b (hk b hb)
theorem Agree.cell(h:Agree K w w'){p:Addr}(hp:K p.block):w'.cell? p=w.cell? p:=World.cell?_of_block (h _ hp)
theorem Agree.frozen(h:Agree K w w'){p:Addr}(hp:K p.block):w'.frozen? p=w.frozen? p:=World.frozen?_of_block (h _ hp)
theorem Agree.drew(K:Nat→Prop)(w:World):Agree K w w.drew:=fun _ _=>rfl
theorem Agree.drewN(K:Nat→Prop)(w:World)(n:Nat):Agree K w (w.drewN n):=fun _ _=>rfl
theorem Agree.alloc(hk:∀b,K b→b<w.heap.size)(o:Obj):Agree K w (w.alloc o):=fun b hb=>Below.heap_alloc w o b (hk b hb)
theorem Agree.setCell(p:Addr)(hk:¬K p.block)(u:Value):Agree K w (w.setCell p u):=
 fun b hb=>Below.heap_setCell w p u b (fun e=>hk (e▸hb))
theorem Agree.below{B:Nat}(h:Below B w w')(hk:∀b,K b→b<B):Agree K w w':=fun b hb=>h.block b (hk b hb)
theorem Agree.grown{row:Option Nat}(h:w.grownBy w' row)(hk:∀b,K b→b<w.heap.size∧some b≠row):Agree K w w':=fun b hb=>h.block b (hk b hb).1 (hk b hb).2
end
def SlR{α:Type}(size:Nat)(R:World→(Nat→Prop)→List Value→α→Prop)(w:World)(K:Nat→Prop)(v:Value)(l:List α):Prop:=
 ∃(A:Option Addr) (c:Nat) (xs:List (List Value)),v= .slice A l.length c∧l.length≤c∧xs.length=l.length∧
  (∀(i:Nat) cs x,xs[i]?=some cs→l[i]?=some x→cs.length=size∧R w K cs x)∧
  (0<l.length→∃b off,A=some ⟨b,off,none⟩∧K b∧∀(i j:Nat) cs u,xs[i]?=some cs→cs[j]?=some u→w.cell? ⟨b,off+i*size+j,none⟩=some u)
def jR{α:Type}(R:World→(Nat→Prop)→List Value→α→Prop):Prop:=
 ∀w w' K K' cs x,R w K cs x→Agree K w w'→(∀b,K b→K' b)→R w' K' cs x
theorem SlR.keep {α:Type} {size:Nat} {R:World→(Nat→Prop)→List Value→α→Prop} (hR:jR R) {w w':World} {K K':Nat→Prop} {v:Value} {l:List α}
 (h:SlR size R w K v l) (ha:Agree K w w') (hk:∀b,K b→K' b):SlR size R w' K' v l:=by
 obtain⟨A,c,xs,hv,hc,hl,he,hm⟩:=h;refine⟨A,c,xs,hv,hc,hl,fun i cs x h1 h2=>⟨(he i cs x h1 h2).1,hR _ _ _ _ _ _ (he i cs x h1 h2).2 ha hk⟩,fun h0=> ?_⟩;obtain⟨b,off,hA,hb,hcell⟩:=hm h0;exact⟨b,off,hA,hk b hb,fun i j cs u h1 h2=>(ha.cell (p:=⟨b,off+i*size+j,none⟩) hb).trans (hcell i j cs u h1 h2)⟩
def Old(w:World):Nat→Prop:=fun b=>b<w.heap.size
theorem SlR.below {α:Type} {size:Nat} {R:World→(Nat→Prop)→List Value→α→Prop} (hR:jR R) {w w':World} {v:Value} {l:List α}
 (h:SlR size R w (Old w) v l) (hb:Below w.heap.size w w'):SlR size R w' (Old w') v l:=
 h.keep hR (Agree.below hb fun _ h=>h) fun _ h=>Nat.lt_of_lt_of_le h hb.size
theorem SlR.fit {α:Type} {size:Nat} {R:World→(Nat→Prop)→List Value→α→Prop} (hR:jR R) {w:World} {K K':Nat→Prop} {v:Value} {l:List α}
 (h:SlR size R w K v l) (hk:∀b,K b→K' b):SlR size R w K' v l:=h.keep hR (Agree.refl _ _) hk
def Flat{α:Type}(enc:α→List Value):World→(Nat→Prop)→List Value→α→Prop:=fun _ _ cs x=>cs=enc x
theorem Flat.aS{α:Type}(enc:α→List Value):jR (Flat enc):=fun _ _ _ _ _ _ h _ _=>h
theorem SlR.len{α:Type}{size:Nat}{R:World→(Nat→Prop)→List Value→α→Prop}{w:World}{K:Nat→Prop}{v:Value}{l:List α}(h:SlR size R w K v l):
 ∃A c,v= .slice A l.length c∧l.length≤c:=by
 obtain⟨A,c,xs,hv,hc,_⟩:=h;exact⟨A,c,hv,hc⟩
theorem SlR.nil{α:Type}(size:Nat)(R:World→(Nat→Prop)→List Value→α→Prop)(w:World)(K:Nat→Prop)(c:Nat)(A:Option Addr):SlR size R w K (.slice A 0 c) ([]:List α):=
 ⟨A,c,[],rfl,Nat.zero_le _,rfl,fun i cs x h=>by simp at h,fun h=>by simp at h⟩
theorem SlR.at_{α:Type}{size:Nat}{R:World→(Nat→Prop)→List Value→α→Prop}{w:World}{K:Nat→Prop}{A:Option Addr}{n c:Nat}{l:List α}(h:SlR size R w K (.slice A n c) l){i:Nat}(hi:i<l.length):
 ∃b off cs,A=some ⟨b,off,none⟩∧K b∧cs.length=size∧R w K cs l[i]∧∀(j:Nat) u,cs[j]?=some u→w.cell? ⟨b,off+i*size+j,none⟩=some u:=by
 obtain⟨A',c',xs,hv,hc,hl,he,hm⟩:=h;obtain⟨b,off,hA,hb,hcell⟩:=hm (by omega);injection hv with h1 h2 h3
 have hx:xs[i]?=some (xs[i]'(by omega)):=List.getElem?_eq_getElem (by omega);have:=he i _ l[i] hx (List.getElem?_eq_getElem hi);exact⟨b,off,xs[i]'(by omega),by rw[h1,hA],hb,this.1,this.2,fun j u hj=>hcell i j _ u hx hj⟩
theorem SlR.cells{α:Type}{size:Nat}{R:World→(Nat→Prop)→List Value→α→Prop}{w:World}{K:Nat→Prop}{b off n c:Nat}{l:List α}(h:SlR size R w K (.slice (some ⟨b,off,none⟩) n c) l){i:Nat}(hi:i<l.length):
 ∃cs,K b∧cs.length=size∧R w K cs l[i]∧∀(j:Nat) u,cs[j]?=some u→w.cell? ⟨b,off+i*size+j,none⟩=some u:=by
 obtain⟨b',off',cs,hA,h1,h2,h3,h4⟩:=h.at_ hi;injection hA with hA
 injection hA with hb ho
 subst hb ho;exact⟨cs,h1,h2,h3,h4⟩
theorem SlR.take{α:Type}{size:Nat}{R:World→(Nat→Prop)→List Value→α→Prop}{w:World}{K:Nat→Prop}{A:Option Addr}{n c:Nat}{l:List α}(h:SlR size R w K (.slice A n c) l){k:Nat}(hk:k≤l.length):
 SlR size R w K (.slice A k c) (l.take k):=by
 obtain⟨A',c',xs,hv,hc,hl,he,hm⟩:=h;injection hv with h1 h2 h3
 subst h1 h3;have hlk:(l.take k).length=k:=(by rw[List.length_take];omega);refine⟨A,c,xs.take k,by rw[hlk],by omega,by rw[List.length_take,List.length_take];omega,fun i cs x h1 h2=> ?_,fun h0=> ?_⟩
 ·rw[List.getElem?_take]at h1 h2;split at h1
  ·rename_i hik;rw[if_pos hik]at h2;exact he i cs x h1 h2
  ·cases h1
 ·obtain⟨b,off,hA,hb,hcell⟩:=hm (by omega);refine⟨b,off,hA,hb,fun i j cs u h1 h2=> ?_⟩;rw[List.getElem?_take]at h1;split at h1
  ·exact hcell i j cs u h1 h2
  ·cases h1
theorem SlR.drop{α:Type}{size:Nat}{R:World→(Nat→Prop)→List Value→α→Prop}{w:World}{K:Nat→Prop}{A:Option Addr}{n c:Nat}{l:List α}(h:SlR size R w K (.slice A n c) l){k:Nat}(hk:k≤l.length):
 SlR size R w K (.slice (if c=k then A else A.map (·.add (k*size))) (n-k) (c-k)) (l.drop k):=by
 obtain⟨A',c',xs,hv,hc,hl,he,hm⟩:=h;injection hv with h1 h2 h3
 subst h1 h3;have hlk:(l.drop k).length=l.length-k:=List.length_drop;refine⟨_,_,xs.drop k,by rw[hlk,h2],by rw[hlk];omega,by rw[List.length_drop,List.length_drop,hl],fun i cs x h1 h2=> ?_,fun h0=> ?_⟩
 ·rw[List.getElem?_drop]at h1 h2;exact he _ cs x h1 h2
 ·rw[hlk]at h0;obtain⟨b,off,hA,hb,hcell⟩:=hm (by omega);rw[if_neg (by omega),hA];refine⟨b,off+k*size,?_,hb,fun i j cs u h1 h2=> ?_⟩
  ·simp only[Option.map_some,Addr.add];split
   ·rename_i h0;rw[h0];rfl
   ·rfl
  ·rw[List.getElem?_drop]at h1;have:=hcell (k+i) j cs u h1 h2;rw[Nat.add_mul,←Nat.add_assoc]at this;exact this
theorem SlR.mX {α:Type} {size:Nat} {R:World→(Nat→Prop)→List Value→α→Prop} {w:World} {K:Nat→Prop} {base:Nat} {e:TypeId} {v:Value} {n:Nat} {xs:List Value} {l:List α} {ys:List (List Value)}
 (h:w.ownsRow base e size v n xs) (hn:n=l.length) (hx:xs=ys.flatten) (hy:ys.length=l.length) (he:∀(i:Nat) cs x,ys[i]?=some cs→l[i]?=some x→cs.length=size∧R w K cs x)
 (hK:∀g,v.ownBlock=some g→K g):SlR size R w K v l:=by
 have hcell:∀g,v.ownBlock=some g→∀j u,xs[j]?=some u→w.cell? ⟨g,j,none⟩=some u:=by
  intro g hg j u hu;have:=h.cells hg j u hu;rwa[show(⟨g,0,none⟩:Addr).add j=⟨g,j,none⟩ by unfold Addr.add;split<;>simp_all]at this
 have JA:∀(ys:List (List Value)) (i j:Nat) cs u,(∀(i:Nat) cs,ys[i]?=some cs→cs.length=size)→ys[i]?=some cs→cs[j]?=some u→ys.flatten[i*size+j]?=some u:=by
  intro ys
  induction ys with
  |nil=>intro i j cs u _ h;simp at h
  |cons y ys ih=>
   intro i j cs u hs h1 h2;have hy:=hs 0 y rfl;cases i with
   |zero=>
    simp at h1;subst h1;have hj:j<y.length:=by
     rcases Nat.lt_or_ge j y.length with h|h
     ·exact h
     ·rw[List.getElem?_eq_none h]at h2;cases h2
    rw[List.flatten_cons,List.getElem?_append_left (by omega)];simpa using h2
   |succ i=>
    simp at h1;rw[List.flatten_cons,List.getElem?_append_right (by rw[hy,Nat.add_mul];omega),hy,show(i+1)*size+j-size=i*size+j by rw[Nat.add_mul];omega];exact ih i j cs u (fun i cs h=>hs (i+1) cs (by simpa using h)) h1 h2
 have hsz:∀(i:Nat) cs,ys[i]?=some cs→cs.length=size:=by
  intro i cs h1;have hi:i<l.length:=by
   rw[←hy];rcases Nat.lt_or_ge i ys.length with h|h
   ·exact h
   ·rw[List.getElem?_eq_none h]at h1;cases h1
  exact(he i cs l[i] h1 (List.getElem?_eq_getElem hi)).1
 rcases h.2 with⟨hv,h0⟩|⟨g,cap,cur,hv,hg,hh,hn',hcap,hcs,htake⟩
 ·subst hv;have:l=[]:=List.eq_nil_of_length_eq_zero (by omega);subst this;exact SlR.nil _ _ _ _ _ _
 ·refine⟨some ⟨g,0,none⟩,cap,ys,by rw[hv,hn],by omega,hy,he,fun _=>⟨g,0,rfl,hK g (by rw[hv];rfl),fun i j cs u h1 h2=> ?_⟩⟩;rw[Nat.zero_add];exact hcell g (by rw[hv];rfl) _ u (by rw[hx];exact JA ys i j cs u hsz h1 h2)
theorem SlR.of_flat {α:Type} {size:Nat} {enc:α→List Value} {w:World} {K:Nat→Prop} {base:Nat} {e:TypeId} {v:Value} {n:Nat} {l:List α}
 (h:w.ownsRow base e size v n (l.map enc).flatten) (hn:n=l.length) (hs:∀x,(enc x).length=size) (hK:∀g,base≤g→g<w.heap.size→K g):SlR size (Flat enc) w K v l:=by
 refine SlR.mX (ys:=l.map enc) h hn rfl (by simp) (fun i cs x h1 h2=> ?_) (fun g hg=>hK g (h.lt g hg).1 (h.lt g hg).2);rw[List.getElem?_map,h2]at h1;injection h1 with h1
 exact⟨by rw[←h1];exact hs x,h1.symm⟩
def Blk(w:World)(g:Nat)(t:TypeId)(cs:Array Value):Prop:=w.heap[g]?=some (.cells cs t (0,0))
section
variable{w w':World}{g:Nat}{t:TypeId}{cs:Array Value}
theorem Blk.lt(h:Blk w g t cs):g<w.heap.size:=by
 rcases Nat.lt_or_ge g w.heap.size with hlt|hge
 ·exact hlt
 ·unfold Blk at h;rw[Array.getElem?_eq_none hge]at h;cases h
theorem Blk.cell(h:Blk w g t cs)(i:Nat):w.cell? ⟨g,i,none⟩=cs[i]?:=cell_of_row w g i cs t (0,0) h
theorem Blk.frozen(h:Blk w g t cs)(i:Nat):w.frozen? ⟨g,i,none⟩=false:=by
 unfold Blk at h;simp[World.frozen?,h]
theorem Blk.new(w:World)(t:TypeId)(cs:Array Value):Blk (w.alloc (.cells cs t)) w.heap.size t cs:=heap_alloc_new w _
theorem Blk.drew(h:Blk w g t cs):Blk w.drew g t cs:=h
theorem Blk.drewN(h:Blk w g t cs)(n:Nat):Blk (w.drewN n) g t cs:=h
theorem Blk.alloc(h:Blk w g t cs)(o:Obj):Blk (w.alloc o) g t cs:=(Below.heap_alloc w o g h.lt).trans h
theorem Blk.aH(h:Blk w g t cs)(i:Nat)(u:Value):Blk (w.setCell ⟨g,i,none⟩ u) g t (cs.setIfInBounds i u):=by
 unfold Blk at h⊢;simp[World.setCell,Array.getElem?_modify,h]
theorem Blk.far(h:Blk w g t cs){p:Addr}(hp:g≠p.block)(u:Value):Blk (w.setCell p u) g t cs:=(Below.heap_setCell w p u g hp).trans h
theorem Blk.below{B:Nat}(h:Blk w g t cs)(hb:Below B w w')(hg:g<B):Blk w' g t cs:=(hb.block g hg).trans h
theorem Blk.grown{row:Option Nat}(h:Blk w g t cs)(hb:w.grownBy w' row)(hg:some g≠row):Blk w' g t cs:=(hb.block g h.lt hg).trans h
theorem Blk.agree{K:Nat→Prop}(h:Blk w g t cs)(ha:Agree K w w')(hg:K g):Blk w' g t cs:=(ha g hg).trans h
theorem own_below{base B:Nat}{e:TypeId}{size n:Nat}{v:Value}{xs:List Value}(h:w.ownsRow base e size v n xs)(hb:Below B w w')(hB:w.heap.size≤B):w'.ownsRow base e size v n xs:=
 h.kept (row:=none) ⟨hb.os,hb.tape,hb.output,hb.size,fun k hk _=>hb.block k (by omega)⟩ (by cases v.ownBlock<;>simp)
theorem oQ{base:Nat}{e:TypeId}{size n:Nat}{v:Value}{xs:List Value}(h:w.ownsRow base e size v n xs){p:Addr}(hp:v.ownBlock≠some p.block)(u:Value):(w.setCell p u).ownsRow base e size v n xs:=by
 refine⟨h.1,?_⟩;rcases h.2 with h2|⟨g,cap,cur,hv,hg,hh,r⟩
 ·exact .inl h2
 ·refine .inr ⟨g,cap,cur,hv,hg,?_,r⟩;rw[Below.heap_setCell _ _ _ _ (fun e=>hp (by rw[hv];simp[Value.ownBlock,e]))];exact hh
theorem aW{base:Nat}{e:TypeId}{size n:Nat}{v:Value}{xs:List Value}(h:w.ownsRow base e size v n xs):∃A c,v= .slice A n c:=by
 rcases h.2 with⟨h1,h2⟩|⟨g,cap,cur,hv,_⟩
 ·subst h2;exact⟨none,0,h1⟩
 ·exact⟨_,_,hv⟩
theorem own_drewN{base:Nat}{e:TypeId}{size n:Nat}{v:Value}{xs:List Value}(h:w.ownsRow base e size v n xs)(k:Nat):(w.drewN k).ownsRow base e size v n xs:=h
end
theorem take_snoc'{α:Type}{l:List α}{k:Nat}(h:k<l.length):l.take (k+1)=l.take k++[l[k]]:=by rw[List.take_succ_eq_append_getElem h]
theorem gA{α:Type}{l:List α}{i:Nat}:l.toArray[i]?=l[i]?:=List.getElem?_toArray ..
theorem gZ{α:Type}{a:α}{l:List α}:(a::l)[0]?=some a:=List.getElem?_cons_zero ..
theorem gS{α:Type}{a:α}{l:List α}{i:Nat}:(a::l)[i+1]?=l[i]?:=List.getElem?_cons_succ ..
theorem sA{α:Type}{l:List α}{i:Nat}{a:α}:l.toArray.setIfInBounds i a=(l.set i a).toArray:=List.setIfInBounds_toArray ..
theorem sZ{α:Type}{a b:α}{l:List α}:(a::l).set 0 b=b::l:=List.set_cons_zero ..
theorem sS{α:Type}{a b:α}{l:List α}{n:Nat}:(a::l).set (n+1) b=a::l.set n b:=List.set_cons_succ ..
theorem Blk.n0{w:World}{g:Nat}{t:TypeId}{x0:Value}{l:List Value}(h:Blk w g t (x0::l).toArray):w.cell? ⟨g,0,none⟩=some x0:=h.cell 0
theorem Blk.n1{w:World}{g:Nat}{t:TypeId}{x0 x1:Value}{l:List Value}(h:Blk w g t (x0::x1::l).toArray):w.cell? ⟨g,1,none⟩=some x1:=h.cell 1
theorem Blk.n2{w:World}{g:Nat}{t:TypeId}{x0 x1 x2:Value}{l:List Value}(h:Blk w g t (x0::x1::x2::l).toArray):w.cell? ⟨g,2,none⟩=some x2:=h.cell 2
theorem Blk.n3{w:World}{g:Nat}{t:TypeId}{x0 x1 x2 x3:Value}{l:List Value}(h:Blk w g t (x0::x1::x2::x3::l).toArray):w.cell? ⟨g,3,none⟩=some x3:=h.cell 3
theorem Blk.n4{w:World}{g:Nat}{t:TypeId}{x0 x1 x2 x3 x4:Value}{l:List Value}(h:Blk w g t (x0::x1::x2::x3::x4::l).toArray):w.cell? ⟨g,4,none⟩=some x4:=h.cell 4
theorem Blk.n5{w:World}{g:Nat}{t:TypeId}{x0 x1 x2 x3 x4 x5:Value}{l:List Value}(h:Blk w g t (x0::x1::x2::x3::x4::x5::l).toArray):w.cell? ⟨g,5,none⟩=some x5:=h.cell 5
theorem Blk.n6{w:World}{g:Nat}{t:TypeId}{x0 x1 x2 x3 x4 x5 x6:Value}{l:List Value}(h:Blk w g t (x0::x1::x2::x3::x4::x5::x6::l).toArray):w.cell? ⟨g,6,none⟩=some x6:=h.cell 6
theorem Blk.n7{w:World}{g:Nat}{t:TypeId}{x0 x1 x2 x3 x4 x5 x6 x7:Value}{l:List Value}(h:Blk w g t (x0::x1::x2::x3::x4::x5::x6::x7::l).toArray):w.cell? ⟨g,7,none⟩=some x7:=h.cell 7
theorem Blk.n8{w:World}{g:Nat}{t:TypeId}{x0 x1 x2 x3 x4 x5 x6 x7 x8:Value}{l:List Value}(h:Blk w g t (x0::x1::x2::x3::x4::x5::x6::x7::x8::l).toArray):w.cell? ⟨g,8,none⟩=some x8:=h.cell 8
theorem Blk.n9{w:World}{g:Nat}{t:TypeId}{x0 x1 x2 x3 x4 x5 x6 x7 x8 x9:Value}{l:List Value}(h:Blk w g t (x0::x1::x2::x3::x4::x5::x6::x7::x8::x9::l).toArray):w.cell? ⟨g,9,none⟩=some x9:=h.cell 9
def aJ{α:Type}(size:Nat)(R:World→(Nat→Prop)→List Value→α→Prop)(w:World)(K:Nat→Prop)(base:Nat)(e:TypeId)(v:Value)(l:List α):Prop:=
 ∃ys:List (List Value),w.ownsRow base e size v l.length ys.flatten∧ys.length=l.length∧∀(i:Nat) cs x,ys[i]?=some cs→l[i]?=some x→cs.length=size∧R w K cs x
section
variable{α:Type}{size:Nat}{R:World→(Nat→Prop)→List Value→α→Prop}{w w':World}{K K':Nat→Prop}{base:Nat}{e:TypeId}{v:Value}{l:List α}
theorem aJ.nil(size:Nat)(R:World→(Nat→Prop)→List Value→α→Prop)(w:World)(K:Nat→Prop)(base:Nat)(e:TypeId):aJ size R w K base e (.slice none 0 0) ([]:List α):=
 ⟨[],World.ownsRow_nil _ _ _ _,rfl,fun i cs x h=>by simp at h⟩
theorem aJ.lt(h:aJ size R w K base e v l):∀k,v.ownBlock=some k→base≤k∧k<w.heap.size:=by
 obtain⟨ys,h1,_⟩:=h;exact h1.lt
theorem aJ.form(h:aJ size R w K base e v l):∃A c,v= .slice A l.length c:=by
 obtain⟨ys,h1,_⟩:=h;exact aW h1
theorem aJ.sl(h:aJ size R w K base e v l)(hK:∀g,v.ownBlock=some g→K g):SlR size R w K v l:=by
 obtain⟨ys,h1,h2,h3⟩:=h;exact SlR.mX h1 rfl rfl h2 h3 hK
theorem aJ.keep(hR:jR R)(h:aJ size R w K base e v l)(ha:Agree K w w')(hk:∀b,K b→K' b)(hr:∀g,v.ownBlock=some g→w'.heap[g]?=w.heap[g]?):aJ size R w' K' base e v l:=by
 obtain⟨ys,h1,h2,h3⟩:=h;refine⟨ys,⟨h1.1,?_⟩,h2,fun i cs x a b=>⟨(h3 i cs x a b).1,hR _ _ _ _ _ _ (h3 i cs x a b).2 ha hk⟩⟩;rcases h1.2 with h4|⟨g,cap,cur,hv,hg,hh,r⟩
 ·exact .inl h4
 ·exact .inr ⟨g,cap,cur,hv,hg,by rw[hr g (by rw[hv];rfl)];exact hh,r⟩
theorem aJ.flat{enc:α→List Value}(h:w.ownsRow base e size v l.length (l.map enc).flatten)(hs:∀x,(enc x).length=size):aJ size (Flat enc) w K base e v l:=
 ⟨l.map enc,h,by simp,fun i cs x h1 h2=>by
  rw[List.getElem?_map,h2]at h1;injection h1 with h1
  exact⟨by rw[←h1];exact hs x,h1.symm⟩⟩
end
theorem rJ {P:Program} (w:World) (base:Nat) (t ty e:TypeId) (i:TypeInfo) (size:Nat) (ht:P.underlying t=some (.slice e)) (hi:P.info? e=some i)
 (v:Value) (n:Nat) (xs:List Value) (hown:w.ownsRow base e size v n xs) (c:Nat):
 (Builtin.append_ #[t,t] ty #[v,.slice none 0 c]).run P w= .ok v w:=by
 rcases hown.2 with⟨rfl,rfl⟩|⟨g,cap,cur,rfl,_,_,hnc,_⟩
 ·simp[Builtin.append_,run_underlying ht,sizeOf,typeInfo,hi,Builtin.lenOf,Builtin.firstCells]
 ·simp[Builtin.append_,run_underlying ht,sizeOf,typeInfo,hi,Builtin.lenOf,Builtin.firstCells,hnc,storeCells]
theorem rM{size:Nat}:∀(ys:List (List Value)) (j:Nat) (u:Value),(∀(i:Nat) cs,ys[i]?=some cs→cs.length=size)→ys.flatten[j]?=some u→∃i k cs,j=i*size+k∧ys[i]?=some cs∧cs[k]?=some u
 |[],j,u,_,h=>by simp at h
 |y::ys,j,u,hs,h=>by
  have hy:=hs 0 y rfl;rw[List.flatten_cons]at h;rcases Nat.lt_or_ge j y.length with hj|hj
  ·rw[List.getElem?_append_left hj]at h;exact⟨0,j,y,by simp,rfl,h⟩
  ·rw[List.getElem?_append_right hj]at h;obtain⟨i,k,cs,h1,h2,h3⟩:=rM ys (j-y.length) u (fun i cs h=>hs (i+1) cs (by simpa using h)) h;exact⟨i+1,k,cs,by rw[Nat.add_mul];omega,by simpa using h2,h3⟩
theorem bB {P:Program} {w:World} {ops:Array Oper} {rest:List Oper} {o:Oper} {a:Act} {Q:Exit→Act→World→Prop} {α:Type} {R:World→(Nat→Prop)→List Value→α→Prop}
 (hgd:o.guard=none) (s x:Operand) (t:TypeId) (ho:o.op= .call {callee:= .builtin .append,args:=#[s,x],argTypes:=#[t,t]})
 (base:Nat) (e:TypeId) (i:TypeInfo) (z:Value) (size bytes:Nat) (ht:P.underlying t=some (.slice e)) (hi:P.info? e=some i) (hz:i.zero=some z)
 (hsize:i.size=size) (hby:i.bytes=bytes) (hzs:z.cells.size=size) (hsz:0<size)
 (v:Value) (K:Nat→Prop) (l:List α) (hs:a.eval s=v) (hown:aJ size R w K base e v l)
 (vx:Value) (l2:List α) (hx:a.eval x=vx) (hsrc:SlR size R w K vx l2)
 (h1:∀cs x,R w K cs x→∀u∈cs,u.oneCell'=true) (h63:l.length+l2.length≤maxLen) (hbytes:(l.length+l2.length)*bytes≤140737488355328) (hbase:base≤w.heap.size)
 (hA:∀w',w.grownBy w' v.ownBlock→∀cs x,R w K cs x→R w' K cs x)
 (h:∀v' w',aJ size R w' K base e v' (l++l2)→w.grownBy w' v.ownBlock→(v'.ownBlock=v.ownBlock∨v'.ownBlock=some w.heap.size)→wpList P ops Q rest (a.put o.dst v') w'):
 wpList P ops Q (o::rest) a w:=by
 obtain⟨ys,hy,hyl,hyR⟩:=hown;obtain⟨A,c,xs,rfl,hc,hxl,hxR,hxc⟩:=hsrc;have join:∀w',w.grownBy w' v.ownBlock→∀(i:Nat) cs x,(ys++xs)[i]?=some cs→(l++l2)[i]?=some x→cs.length=size∧R w' K cs x:=fun w' ha i cs x g1 g2=>by
  by_cases hil:i<l.length
  ·rw[List.getElem?_append_left (by omega)]at g1 g2;exact⟨(hyR i cs x g1 g2).1,hA w' ha _ _ (hyR i cs x g1 g2).2⟩
  ·rw[List.getElem?_append_right (by omega)]at g1 g2;rw[hyl]at g1;exact⟨(hxR _ cs x g1 g2).1,hA w' ha _ _ (hxR _ cs x g1 g2).2⟩
 have fin:∀v' w',w'.ownsRow base e size v' (l.length+l2.length) (ys.flatten++xs.flatten)→w.grownBy w' v.ownBlock→aJ size R w' K base e v' (l++l2):=fun v' w' g1 g2=>
  ⟨ys++xs,by rw[List.length_append,List.flatten_append];exact g1,by simp[hyl,hxl],join w' g2⟩
 have hlen:∀(i:Nat) cs,xs[i]?=some cs→cs.length=size:=fun i cs g=>by
  have hil:i<l2.length:=by
   rw[←hxl];rcases Nat.lt_or_ge i xs.length with h|h
   ·exact h
   ·rw[List.getElem?_eq_none h]at g;cases g
  exact(hxR i cs l2[i] g (List.getElem?_eq_getElem hil)).1
 have hnl:xs.flatten.length=l2.length*size:=by
  rw[←hxl];clear join fin hxR hxc hxl hx
  induction xs with
  |nil=>simp
  |cons y ys ih=>
   rw[List.flatten_cons,List.length_append,hlen 0 y rfl,ih (fun i cs h=>hlen (i+1) cs (by simpa using h)),List.length_cons,Nat.add_mul];omega
 have hone:∀u∈xs.flatten,u.oneCell'=true:=fun u hu=>by
  obtain⟨cs,hcs,hu⟩:=List.mem_flatten.1 hu;obtain⟨i,hi⟩:=List.getElem?_of_mem hcs;have hil:i<l2.length:=by
   rw[←hxl];rcases Nat.lt_or_ge i xs.length with h|h
   ·exact h
   ·rw[List.getElem?_eq_none h]at hi;cases hi
  exact h1 cs l2[i] (hxR i cs l2[i] hi (List.getElem?_eq_getElem hil)).2 u hu
 cases A with
 |some ad=>
  refine wpList_append_own_at w hgd s x t ho base e i z size bytes ht hi hz hsize hby hzs hsz v l.length ys.flatten hs hy ad l2.length c xs.flatten hx hnl (fun j u hj=> ?_) hone h63 hbytes hbase (fun v' w' g1 g2 _ g3=>h v' w' (fin v' w' g1 g2) g2 g3);have hpos:0<l2.length:=by
   rcases Nat.lt_or_ge 0 l2.length with h|h
   ·exact h
   ·have:xs=[]:=List.eq_nil_of_length_eq_zero (by omega);subst this;simp at hj
  obtain⟨b,off,hA,hb,hcell⟩:=hxc hpos;injection hA with hA
  subst hA;obtain⟨i,k,cs,hj2,hi2,hk2⟩:=rM xs j u hlen hj;rw[Addr.add_lit,hj2,←Nat.add_assoc];exact hcell i k cs u hi2 hk2
 |none=>
  have hz2:l2=[]:=by
   rcases Nat.lt_or_ge 0 l2.length with h|h
   ·obtain⟨b,off,hA,_⟩:=hxc h;cases hA
   ·exact List.eq_nil_of_length_eq_zero (by omega)
  subst hz2;have hr:=rJ (P:=P) w base t o.type e i size ht hi v l.length ys.flatten hy c;refine wpList_plain hgd fun K' hK'=> ?_;unfold Oper.wp execOp;simp only[ho,resolve,invoke,builtin,Sem.run_bind,Sem.run_pure,Result.andThen_ok,List.map_toArray,List.map_cons,List.map_nil,hs,hx,List.length_nil,hr];refine hK' _ _ (h v w (by rw[List.append_nil];exact⟨ys,hy,hyl,hyR⟩) ⟨rfl,rfl,rfl,Nat.le_refl _,fun _ _ _=>rfl⟩ (.inl rfl))
theorem aJ.raw{α:Type}{size:Nat}{enc:α→List Value}{w:World}{K:Nat→Prop}{base:Nat}{e:TypeId}{v:Value}{l:List α}(h:aJ size (Flat enc) w K base e v l):w.ownsRow base e size v l.length (l.map enc).flatten:=by
 obtain⟨ys,h1,h2,h3⟩:=h;have:ys=l.map enc:=by
  refine List.ext_getElem (by simp[h2]) fun i g1 g2=> ?_;have:=(h3 i _ _ (List.getElem?_eq_getElem g1) (List.getElem?_eq_getElem (by omega))).2;rw[List.getElem_map];exact this
 rw[←this];exact h1
theorem bg {P:Program} {w:World} {ops:Array Oper} {rest:List Oper} {o:Oper} {a:Act} {Q:Exit→Act→World→Prop} {α:Type} {enc:α→List Value}
 (hgd:o.guard=none) (s x:Operand) (t:TypeId) (ho:o.op= .call {callee:= .builtin .append,args:=#[s,x],argTypes:=#[t,t]})
 (base:Nat) (e:TypeId) (i:TypeInfo) (z:Value) (size bytes:Nat) (ht:P.underlying t=some (.slice e)) (hi:P.info? e=some i) (hz:i.zero=some z)
 (hsize:i.size=size) (hby:i.bytes=bytes) (hzs:z.cells.size=size) (hsz:0<size)
 (v:Value) (K:Nat→Prop) (l:List α) (hs:a.eval s=v) (hown:w.ownsRow base e size v l.length (l.map enc).flatten) (hen:∀x,(enc x).length=size)
 (vx:Value) (l2:List α) (hx:a.eval x=vx) (hsrc:SlR size (Flat enc) w K vx l2)
 (h1:∀x,∀u∈enc x,u.oneCell'=true) (h63:l.length+l2.length≤maxLen) (hbytes:(l.length+l2.length)*bytes≤140737488355328) (hbase:base≤w.heap.size)
 (h:∀v' w',w'.ownsRow base e size v' (l++l2).length ((l++l2).map enc).flatten→w.grownBy w' v.ownBlock→(v'.ownBlock=v.ownBlock∨v'.ownBlock=some w.heap.size)→wpList P ops Q rest (a.put o.dst v') w'):
 wpList P ops Q (o::rest) a w:=
 bB hgd s x t ho base e i z size bytes ht hi hz hsize hby hzs hsz v K l hs (aJ.flat hown hen) vx l2 hx hsrc (fun cs x g u hu=>h1 x u (by unfold Flat at g;rw[←g];exact hu)) h63 hbytes hbase
  (fun _ _ _ _ g=>g) fun v' w' g1 g2 g3=>h v' w' g1.raw g2 g3
theorem SlR.one{α:Type}{size:Nat}{R:World→(Nat→Prop)→List Value→α→Prop}{w:World}{K:Nat→Prop}{g:Nat}{t:TypeId}{cs:Array Value}{x:α}(h:Blk w g t cs)(hl:cs.size=size)(hR:R w K cs.toList x)(hK:K g):
 SlR size R w K (.slice (some ⟨g,0,none⟩) 1 1) [x]:=by
 refine⟨some ⟨g,0,none⟩,1,[cs.toList],rfl,by simp,rfl,fun i ds y h1 h2=> ?_,fun _=>⟨g,0,rfl,hK,fun i j ds u h1 h2=> ?_⟩⟩
 ·cases i with
  |zero=>simp at h1 h2;subst h1 h2;exact⟨by simpa using hl,hR⟩
  |succ i=>simp at h1
 ·cases i with
  |zero=>
   simp at h1;subst h1;have:=h.cell j;simp only[Nat.zero_mul,Nat.zero_add];rw[this];simpa using h2
  |succ i=>simp at h1
def encI(n:Int):List Value:=[.int .i64 n]
def aM(w:World)(K:Nat→Prop)(v:Value)(l:List Int):Prop:=SlR 1 (Flat Go.Inq.encI) w K v l
section
variable{w w':World}{K K':Nat→Prop}{v:Value}{l:List Int}
theorem aM.keep(h:aM w K v l)(ha:Agree K w w')(hk:∀b,K b→K' b):aM w' K' v l:=SlR.keep (Flat.aS _) h ha hk
theorem aM.below(h:aM w (Old w) v l)(hb:Below w.heap.size w w'):aM w' (Old w') v l:=SlR.below (Flat.aS _) h hb
theorem aM.fit(h:aM w K v l)(hk:∀b,K b→K' b):aM w K' v l:=SlR.fit (Flat.aS _) h hk
theorem aM.form(h:aM w K v l):∃A c,v= .slice A l.length c:=by
 obtain⟨A,c,hv,_⟩:=SlR.len h;exact⟨A,c,hv⟩
theorem aM.at_{A:Option Addr}{n c:Nat}(h:aM w K (.slice A n c) l){i:Nat}(hi:i<l.length):∃b off,A=some ⟨b,off,none⟩∧K b∧w.cell? ⟨b,off+i,none⟩=some (.int .i64 l[i]):=by
 obtain⟨b,off,cs,hA,hK,_,hR,hc⟩:=SlR.at_ h hi;unfold Flat at hR;subst hR;have:=hc 0 _ rfl;rw[Nat.mul_one,Nat.add_zero]at this;exact⟨b,off,hA,hK,this⟩
theorem aM.cells{b off n c:Nat}(h:aM w K (.slice (some ⟨b,off,none⟩) n c) l){i:Nat}(hi:i<l.length):K b∧w.cell? ⟨b,off+i,none⟩=some (.int .i64 l[i]):=by
 obtain⟨cs,hK,_,hR,hc⟩:=SlR.cells h hi;unfold Flat at hR;subst hR;have:=hc 0 _ rfl;rw[Nat.mul_one,Nat.add_zero]at this;exact⟨hK,this⟩
theorem aM.nil(w:World)(K:Nat→Prop)(A:Option Addr)(c:Nat):aM w K (.slice A 0 c) []:=SlR.nil _ _ _ _ _ _
theorem aM.bP{g:Nat}{t:TypeId}(h:Blk w g t (l.map (Value.int .i64)).toArray)(hK:K g):aM w K (.slice (some ⟨g,0,none⟩) l.length l.length) l:=by
 refine⟨some ⟨g,0,none⟩,l.length,l.map Go.Inq.encI,rfl,Nat.le_refl _,by simp,fun i cs x h1 h2=> ?_,fun _=>⟨g,0,rfl,hK,fun i j cs u h1 h2=> ?_⟩⟩
 ·rw[List.getElem?_map,h2]at h1;injection h1 with h1
  exact⟨by rw[←h1];rfl,h1.symm⟩
 ·rw[List.getElem?_map]at h1;cases hl:l[i]? with
  |none=>rw[hl]at h1;cases h1
  |some x=>
   rw[hl]at h1;injection h1 with h1
   subst h1;cases j with
   |zero=>
    injection h2 with h2
    rw[Nat.zero_add,Nat.mul_one,Nat.add_zero,h.cell,gA,List.getElem?_map,hl,←h2];rfl
   |succ j=>simp[Go.Inq.encI]at h2
end
theorem fD:∀(x:Int),∀u∈Go.Inq.encI x,u.oneCell'=true:=by
 intro x u hu;simp[Go.Inq.encI]at hu;subst hu;rfl
structure Ev where
 kind:Int
 bL:Int
 key:Int
 val:Int
deriving DecidableEq
def Ev.enc(e:Ev):List Value:=[.int .i64 e.kind,.int .i64 e.bL,.int .i64 e.key,.int .i64 e.val]
def eO(n m:Int):Bool:=decide (0≤n)&&decide (n<m)
def TF(k:Int):Bool:=k==1||k==2
def Ev.right(e:Ev):Bool:=eO e.kind 5&&eO e.bL 8&&(if TF e.kind then eO e.key 16&&eO e.val 2147483648 else e.key==0&&e.val==0)
def EvS(w:World)(K:Nat→Prop)(v:Value)(l:List Ev):Prop:=SlR 4 (Flat Ev.enc) w K v l
theorem EvS.keep{w w':World}{K K':Nat→Prop}{v:Value}{l:List Ev}(h:EvS w K v l)(ha:Agree K w w')(hk:∀b,K b→K' b):EvS w' K' v l:=
 SlR.keep (Flat.aS _) h ha hk
theorem EvS.at_{w:World}{K:Nat→Prop}{A:Option Addr}{n c:Nat}{l:List Ev}(h:EvS w K (.slice A n c) l){i:Nat}(hi:i<l.length):
 ∃b off,A=some ⟨b,off,none⟩∧K b∧w.cell? ⟨b,off+i*4,none⟩=some (.int .i64 l[i].kind)∧w.cell? ⟨b,off+i*4+1,none⟩=some (.int .i64 l[i].bL)∧
  w.cell? ⟨b,off+i*4+2,none⟩=some (.int .i64 l[i].key)∧w.cell? ⟨b,off+i*4+3,none⟩=some (.int .i64 l[i].val):=by
 obtain⟨b,off,cs,hA,hK,_,hR,hc⟩:=SlR.at_ h hi;unfold Flat at hR;subst hR;exact⟨b,off,hA,hK,hc 0 _ rfl,hc 1 _ rfl,hc 2 _ rfl,hc 3 _ rfl⟩
theorem EvS.below{w w':World}{v:Value}{l:List Ev}(h:EvS w (Old w) v l)(hb:Below w.heap.size w w'):EvS w' (Old w') v l:=SlR.below (Flat.aS _) h hb
theorem EvS.fit{w:World}{K K':Nat→Prop}{v:Value}{l:List Ev}(h:EvS w K v l)(hk:∀b,K b→K' b):EvS w K' v l:=SlR.fit (Flat.aS _) h hk
theorem EvS.cells{w:World}{K:Nat→Prop}{b off n c:Nat}{l:List Ev}(h:EvS w K (.slice (some ⟨b,off,none⟩) n c) l){i:Nat}(hi:i<l.length):
 K b∧w.cell? ⟨b,off+i*4,none⟩=some (.int .i64 l[i].kind)∧w.cell? ⟨b,off+i*4+1,none⟩=some (.int .i64 l[i].bL)∧
  w.cell? ⟨b,off+i*4+2,none⟩=some (.int .i64 l[i].key)∧w.cell? ⟨b,off+i*4+3,none⟩=some (.int .i64 l[i].val):=by
 obtain⟨cs,hK,_,hR,hc⟩:=SlR.cells h hi;unfold Flat at hR;subst hR;exact⟨hK,hc 0 _ rfl,hc 1 _ rfl,hc 2 _ rfl,hc 3 _ rfl⟩
structure It where
 a:Int
 b:Int
deriving DecidableEq
def It.enc(e:It):List Value:=[.int .i64 e.a,.int .i64 e.b]
def ItS(w:World)(K:Nat→Prop)(v:Value)(l:List It):Prop:=SlR 2 (Flat It.enc) w K v l
theorem ItS.keep{w w':World}{K K':Nat→Prop}{v:Value}{l:List It}(h:ItS w K v l)(ha:Agree K w w')(hk:∀b,K b→K' b):ItS w' K' v l:=
 SlR.keep (Flat.aS _) h ha hk
theorem ItS.below{w w':World}{v:Value}{l:List It}(h:ItS w (Old w) v l)(hb:Below w.heap.size w w'):ItS w' (Old w') v l:=SlR.below (Flat.aS _) h hb
theorem ItS.fit{w:World}{K K':Nat→Prop}{v:Value}{l:List It}(h:ItS w K v l)(hk:∀b,K b→K' b):ItS w K' v l:=SlR.fit (Flat.aS _) h hk
theorem ItS.cells{w:World}{K:Nat→Prop}{b off n c:Nat}{l:List It}(h:ItS w K (.slice (some ⟨b,off,none⟩) n c) l){i:Nat}(hi:i<l.length):
 K b∧w.cell? ⟨b,off+i*2,none⟩=some (.int .i64 l[i].a)∧w.cell? ⟨b,off+i*2+1,none⟩=some (.int .i64 l[i].b):=by
 obtain⟨cs,hK,_,hR,hc⟩:=SlR.cells h hi;unfold Flat at hR;subst hR;exact⟨hK,hc 0 _ rfl,hc 1 _ rfl⟩
theorem ItS.at_{w:World}{K:Nat→Prop}{A:Option Addr}{n c:Nat}{l:List It}(h:ItS w K (.slice A n c) l){i:Nat}(hi:i<l.length):
 ∃b off,A=some ⟨b,off,none⟩∧K b∧w.cell? ⟨b,off+i*2,none⟩=some (.int .i64 l[i].a)∧w.cell? ⟨b,off+i*2+1,none⟩=some (.int .i64 l[i].b):=by
 obtain⟨b,off,cs,hA,hK,_,hR,hc⟩:=SlR.at_ h hi;unfold Flat at hR;subst hR;exact⟨b,off,hA,hK,hc 0 _ rfl,hc 1 _ rfl⟩
def oZ(l:List Ev)(kind key:Int):Nat→Int
 |0=> -1
 |k+1=>match l[k]? with
  |some e=>if e.kind=kind∧e.key=key then k else oZ l kind key k
  |none=>oZ l kind key k
def future(l:List Ev)(i:Nat)(key val:Int):Bool:=(l.drop (i+1)).any fun x=>x.kind==2&&x.key==key&&x.val==val
def JB(l:List Ev)(k:Int):Int:=((l[k.toNat]?).map (·.val)).getD 0
def Rz(l:List Ev)(i:Nat)(e:Ev):Int:=
 if e.right=false∨(e.kind≠1∧e.kind≠2)then 1
 else if e.kind=2 then 0
 else if 0≤oZ l 2 e.key i then(if JB l (oZ l 2 e.key i)=e.val then 0 else 10)
 else if 0≤oZ l 1 e.key i then(if JB l (oZ l 1 e.key i)=e.val then 0 else 11)
 else if future l i e.key e.val=true then 9 else 0
def JC(l:List Ev)(i:Nat):Int:=match l[i]? with|some e=>Rz l i e|none=>0
structure P6 where
 reads:List It
 writes:List It
 at_:Int
 err:Int
def M0(key:Int):List Ev→Nat→Int
 |[],_=> -1
 |x::r,k=>if x.key=key then k else M0 key r (k+1)
def Gq(l:List Ev)(key:Int)(k:Nat):Int:=M0 key (l.drop k) k
def RA(l:List Ev)(k:Int):Int:=((l[k.toNat]?).map (·.kind)).getD 0
def RB(l:List Ev)(key:Int):Option It:=if 0≤Gq l key 0∧RA l (Gq l key 0)=1 then some ⟨key,JB l (Gq l key 0)⟩else none
def P7(l:List Ev)(key:Int):Option It:=if 0≤oZ l 2 key l.length then some ⟨key,JB l (oZ l 2 key l.length)⟩else none
def dw(l:List Ev)(n:Nat):List It:=(List.range n).filterMap fun(k:Nat)=>RB l (k:Int)
def M4(l:List Ev)(n:Nat):List It:=(List.range n).filterMap fun(k:Nat)=>P7 l (k:Int)
theorem pq(l:List Ev)(n:Nat):(dw l n).length≤n:=by
 unfold dw;exact Nat.le_trans (List.length_filterMap_le _ _) (by simp)
def M5(l:List Ev):Option Nat:=(List.range l.length).find? fun i=>JC l i !=0
def Q8(l:List Ev):P6:=match M5 l with
 |some i=>⟨[],[],i,JC l i⟩
 |none=>⟨dw l 16,M4 l 16,0,0⟩
def RD(n:Nat)(f:Nat→Int):Option Nat:=(List.range n).find? fun i=>f i !=0
structure Tx where
 bL:Int
 done:Bool
 first:Int
 ops:List Ev
structure Txn where
 bL:Int
 writes:List Int
 reads:List It
deriving DecidableEq
def isW(x:It)(e:Ev):Bool:=e.kind==2&&e.key==x.a&&e.val==x.b
def wr(ops:List Ev)(many:Nat)(x:It):Nat:=((ops.take many).filter (isW x)).length
def wrT(t:Tx)(x:It):Nat:=wr t.ops t.ops.length x
def TG(l:List Tx)(i:Nat):Nat:=((l.take i).filter (·.done)).length
def Vf(l:List Tx)(x:It):Option Nat:=l.findIdx? fun t=>decide (0<wrT t x)
def P8(ws:List It)(x:It):Bool:=ws.any fun y=>y.a==x.a&&y.b !=x.b
def Q9(l:List Tx)(x:It):Int×Int:=
 if x.b=0 then(-1,0)else match Vf l x with
  |none=>(0,12)
  |some k=>match l[k]? with
   |none=>(0,12)
   |some t=>if t.done=false then(0,13)else if P8 (Q8 t.ops).writes x=true then(0,14)else((TG l k:Int),0)
def Ra(l:List Tx)(rs:List It)(i:Nat):Int:=match rs[i]? with|some r=>(Q9 l r).2|none=>0
def Kg(l:List Tx)(t:Tx):Txn×Int:=
 let f:=Q8 t.ops
 match RD f.reads.length (Ra l f.reads)with
 |some i=>(⟨0,[],[]⟩,Ra l f.reads i)
 |none=>(⟨t.bL,f.writes.map (·.a),f.reads.map fun r=>⟨r.a,(Q9 l r).1⟩⟩,0)
def M6:List Tx→Int→Option Nat
 |[],_=>none
 |t::r,s=>match M6 r s with
  |some k=>some (k+1)
  |none=>if t.bL=s then some 0 else none
structure Grp where
 out:List Tx
 opn:List Bool
def Grp.at_(g:Grp)(s:Int):Option Nat:=match M6 g.out s with
 |some k=>if g.opn[k]?=some true then some k else none
 |none=>none
def TH(t:Tx)(e:Ev):Tx:={t with ops:=t.ops++[e]}
def TI(t:Tx)(b:Bool):Tx:={t with done:=b}
def TJ:Tx:=⟨0,false,0,[]⟩
def Grp.next(g:Grp)(i:Nat)(e:Ev):Grp:=
 if e.kind=0 then⟨g.out++[⟨e.bL,false,i,[]⟩],g.opn++[true]⟩
 else match g.at_ e.bL with
  |none=>g
  |some k=>if e.kind=1∨e.kind=2 then⟨g.out.set k (TH (g.out[k]?.getD TJ) e),g.opn⟩
   else⟨g.out.set k (TI (g.out[k]?.getD TJ) (decide (e.kind=3))),g.opn.set k false⟩
def j6(l:List Int):Int:=(l.getLast?).getD (-1)
theorem Kh:j6 []= -1:=rfl
theorem mY(l:List Int)(k:Int):j6 (l++[k])=k:=by simp[j6]
def wF(l:List Int)(j:Nat):Bool:=match l[j]? with|some k=>decide (j6 (l.take j)<k)&&decide (k<16)|none=>true
theorem BO{l:List Int}{j:Nat}(h:j<l.length):wF l j=(decide (j6 (l.take j)<l[j])&&decide (l[j]<16)):=by
 unfold wF;rw[List.getElem?_eq_getElem h]
def wFs(l:List Int)(n:Nat):List Bool:=(List.range n).map (wF l)
theorem tq(l:List Int)(n:Nat):wFs l (n+1)=wFs l n++[wF l n]:=by unfold wFs;rw[List.range_succ,List.map_append];rfl
def M7(H:List Txn)(i:Int):List Int:=((H[i.toNat]?).map (·.writes)).getD []
def jL(H:List Txn)(n:Nat)(x:It):Bool:=x.b== -1||(decide (0≤x.b)&&decide (x.b<(H.length:Int))&&x.b !=(n:Int)&&(M7 H x.b).contains x.a)
def rF(H:List Txn)(n:Nat)(l:List It)(j:Nat):Bool:=match l[j]? with|some x=>decide (j6 ((l.take j).map (·.a))<x.a)&&decide (x.a<16)&&jL H n x|none=>true
theorem M8{H:List Txn}{n:Nat}{l:List It}{j:Nat}(h:j<l.length):rF H n l j=(decide (j6 ((l.take j).map (·.a))<l[j].a)&&decide (l[j].a<16)&&jL H n l[j]):=by
 unfold rF;rw[List.getElem?_eq_getElem h]
def rFs(H:List Txn)(m:Nat)(l:List It)(n:Nat):List Bool:=(List.range n).map (rF H m l)
theorem yH(H:List Txn)(m:Nat)(l:List It)(n:Nat):rFs H m l (n+1)=rFs H m l n++[rF H m l n]:=by unfold rFs;rw[List.range_succ,List.map_append];rfl
def txF(H:List Txn)(n:Nat):List Bool:=match H[n]? with
 |some t=>wFs t.writes t.writes.length++rFs H n t.reads t.reads.length++[eO t.bL 8]
 |none=>[]
theorem vB{H:List Txn}{n:Nat}(h:n<H.length):txF H n=wFs H[n].writes H[n].writes.length++rFs H n H[n].reads H[n].reads.length++[eO H[n].bL 8]:=by
 unfold txF;rw[List.getElem?_eq_getElem h]
def jC(H:List Txn)(n:Nat):List Bool:=((List.range n).map (txF H)).flatten
theorem qY(H:List Txn)(n:Nat):jC H (n+1)=jC H n++txF H n:=by
 unfold jC;rw[List.range_succ,List.map_append,List.flatten_append];simp
def fB(H:List Txn):List Bool:=decide (H.length≤32)::jC H H.length
def aG(H:List Txn):Bool:=(fB H).all id
theorem qG{l p:List Bool}(h:p<+:l)(hf:false∈p):l.all id=false:=by
 rw[List.all_eq_false];exact⟨false,h.subset hf,by simp⟩
theorem D8(l:List Int)(n:Nat)(hn:n≤l.length):(wFs l n).all id=true↔(l.take n).Pairwise (·<·)∧∀k∈l.take n,0≤k∧k<16:=by
 induction n with
 |zero=>simp[wFs]
 |succ n ih=>
  rw[tq,List.all_append,Bool.and_eq_true,ih (by omega),List.take_succ_eq_append_getElem (by omega),List.pairwise_append];rw[show([wF l n].all id=true)=(wF l n=true) by simp,BO (by omega),Bool.and_eq_true,decide_eq_true_eq,decide_eq_true_eq];have hmid:∀(P:List Int) (k:Int),P.Pairwise (·<·)→(∀y∈P,0≤y∧y<16)→(j6 P<k↔(∀y∈P,y<k)∧0≤k):=by
   intro P k h1 h2;rcases List.eq_nil_or_concat P with rfl|⟨Q,z,rfl⟩
   ·simp[j6];omega
   ·rw[List.concat_eq_append]at*;rw[mY];have hz:=h2 z (by simp);constructor
    ·intro g;refine⟨fun y hy=> ?_,by omega⟩;rcases List.mem_append.1 hy with hy|hy
     ·have:=(List.pairwise_append.1 h1).2.2 y hy z (by simp);omega
     ·simp at hy;omega
    ·intro g;exact g.1 z (by simp)
  constructor
  ·rintro⟨⟨h1,h2⟩,h3,h4⟩;have:=(hmid _ _ h1 h2).1 h3;refine⟨⟨h1,by simp,fun y hy z hz=> ?_⟩,fun k hk=> ?_⟩
   ·simp at hz;subst hz;exact this.1 y hy
   ·rcases List.mem_append.1 hk with hk|hk
    ·exact h2 k hk
    ·simp at hk;subst hk;exact⟨this.2,h4⟩
  ·rintro⟨⟨h1,_,h3⟩,h4⟩;have g2:∀k∈l.take n,0≤k∧k<16:=fun k hk=>h4 k (List.mem_append.2 (.inl hk));have g3:=h4 l[n] (List.mem_append.2 (.inr (by simp)));exact⟨⟨h1,g2⟩,(hmid _ _ h1 g2).2 ⟨fun y hy=>h3 y hy _ (by simp),g3.1⟩,g3.2⟩
theorem Ki(H:List Txn)(m:Nat)(l:List It)(n:Nat)(hn:n≤l.length):(rFs H m l n).all id=true↔(wFs (l.map (·.a)) n).all id=true∧∀x∈l.take n,jL H m x=true:=by
 induction n with
 |zero=>simp[wFs,rFs]
 |succ n ih=>
  rw[yH,tq,List.all_append,List.all_append,Bool.and_eq_true,Bool.and_eq_true,ih (by omega),List.take_succ_eq_append_getElem (by omega)];rw[show([wF (l.map (·.a)) n].all id=true)=(wF (l.map (·.a)) n=true) by simp,show([rF H m l n].all id=true)=(rF H m l n=true) by simp,M8 (by omega),BO (by rw[List.length_map];omega),List.getElem_map,←List.map_take,Bool.and_eq_true (_&&_)];constructor
  ·rintro⟨⟨h1,h2⟩,h3,h4⟩;refine⟨⟨h1,h3⟩,fun x hx=> ?_⟩;rcases List.mem_append.1 hx with hx|hx
   ·exact h2 x hx
   ·simp at hx;subst hx;exact h4
  ·rintro⟨⟨h1,h2⟩,h3⟩;exact⟨⟨h1,fun x hx=>h3 x (List.mem_append.2 (.inl hx))⟩,h2,h3 _ (List.mem_append.2 (.inr (by simp)))⟩
structure M9(H:List Txn)(n:Nat)(t:Txn):Prop where
 Xf:t.writes.Pairwise (·<·)
 TK:∀k∈t.writes,0≤k∧k<16
 Na:(t.reads.map (·.a)).Pairwise (·<·)
 Xj:∀x∈t.reads,0≤x.a∧x.a<16
 there:∀x∈t.reads,jL H n x=true
 bL:0≤t.bL∧t.bL<8
theorem C9{H:List Txn}{n:Nat}(h:n<H.length):(txF H n).all id=true↔M9 H n H[n]:=by
 rw[vB h,List.all_append,List.all_append,Bool.and_eq_true,Bool.and_eq_true,D8 _ _ (Nat.le_refl _),Ki _ _ _ _ (Nat.le_refl _),D8 _ _ (by simp)];rw[List.take_length,List.take_length,List.take_of_length_le (show(H[n].reads.map (·.a)).length≤H[n].reads.length by simp)];have hs:([eO H[n].bL 8].all id=true)↔0≤H[n].bL∧H[n].bL<8:=(by simp[eO]);rw[hs];constructor
 ·rintro⟨⟨⟨h1,h2⟩,⟨h3,h4⟩,h5⟩,h6⟩;exact⟨h1,h2,h3,fun x hx=>h4 _ (List.mem_map_of_mem hx),h5,h6⟩
 ·rintro⟨h1,h2,h3,h4,h5,h6⟩;exact⟨⟨⟨h1,h2⟩,⟨h3,fun k hk=>by obtain⟨x,hx,rfl⟩:=List.mem_map.1 hk;exact h4 x hx⟩,h5⟩,h6⟩
theorem Da(H:List Txn)(n:Nat)(hn:n≤H.length):(jC H n).all id=true↔∀j (hj:j<H.length),j<n→M9 H j H[j]:=by
 induction n with
 |zero=>simp[jC]
 |succ n ih=>
  rw[qY,List.all_append,Bool.and_eq_true,ih (by omega),C9 (by omega)];constructor
  ·rintro⟨h1,h2⟩ j hj hjn;by_cases e:j=n
   ·subst e;exact h2
   ·exact h1 j hj (by omega)
  ·intro h;exact⟨fun j hj hjn=>h j hj (by omega),h n (by omega) (by omega)⟩
theorem aD(H:List Txn):aG H=true↔H.length≤32∧∀j (hj:j<H.length),M9 H j H[j]:=by
 unfold aG fB;rw[List.all_cons,Bool.and_eq_true,Da H _ (Nat.le_refl _)];constructor
 ·rintro⟨h1,h2⟩;exact⟨by simpa using h1,fun j hj=>h2 j hj hj⟩
 ·rintro⟨h1,h2⟩;exact⟨by simpa using h1,fun j hj _=>h2 j hj⟩
theorem rO(H:List Txn)(n:Nat)(x:It):jL H n x=true↔x.b= -1∨∃k,∃hk:k<H.length,x.b=(k:Int)∧k≠n∧x.a∈H[k].writes:=by
 unfold jL;rw[Bool.or_eq_true,Bool.and_eq_true,Bool.and_eq_true,Bool.and_eq_true,decide_eq_true_eq,decide_eq_true_eq,beq_iff_eq,bne_iff_ne,List.contains_iff_mem];constructor
 ·rintro(h|⟨⟨⟨h1,h2⟩,h3⟩,h4⟩)
  ·exact .inl h
  ·refine .inr ⟨x.b.toNat,by omega,by omega,by omega,?_⟩;unfold M7 at h4;rw[List.getElem?_eq_getElem (by omega)]at h4;exact h4
 ·rintro(h|⟨k,hk,h1,h2,h3⟩)
  ·exact .inl h
  ·refine .inr ⟨⟨⟨by omega,by omega⟩,by omega⟩,?_⟩;unfold M7;rw[h1,Int.toNat_natCast,List.getElem?_eq_getElem hk];exact h3
end Go.Inq
namespace Go.Inq
open Go.Lib
theorem tu(d:Array Int)(hs:∀i j,i≤j→j<d.size→d[i]!≤d[j]!):∀m,m≤d.size→
 (compactUpTo d m).Pairwise (·<·)∧∀x,x∈compactUpTo d m↔∃j,j<m∧d[j]! =x
 |0,_=>⟨by simp[compactUpTo],fun x=>by simp[compactUpTo]⟩
 |m+1,hm=>by
  obtain⟨h1,h2⟩:=tu d hs m (by omega);rw[compactUpTo_succ];by_cases hk:keeps d m=true
  ·rw[if_pos hk];refine⟨List.pairwise_append.2 ⟨h1,by simp,fun a ha b hb=> ?_⟩,fun x=> ?_⟩
   ·obtain rfl:b=d[m]! :=(by simpa using hb);obtain⟨j,hj,rfl⟩:=(h2 a).1 ha;have hne:d[m]!≠d[m-1]! :=by
     unfold keeps at hk;have:=of_decide_eq_true hk;rcases this with h|h
     ·omega
     ·exact h
    have e1:=hs j (m-1) (by omega) (by omega);have e2:=hs (m-1) m (by omega) (by omega);omega
   ·rw[List.mem_append,h2];constructor
    ·rintro(⟨j,hj,e⟩|h)
     ·exact⟨j,by omega,e⟩
     ·exact⟨m,by omega,by simpa using(List.mem_singleton.1 h).symm⟩
    ·rintro⟨j,hj,e⟩;by_cases he:j=m
     ·subst he;exact .inr (by simp[e])
     ·exact .inl ⟨j,by omega,e⟩
  ·rw[if_neg hk,List.append_nil];refine⟨h1,fun x=> ?_⟩;rw[h2];have hk2:¬(m=0∨d[m]!≠d[m-1]!):=fun h=>hk (by unfold keeps;exact decide_eq_true h);constructor
   ·rintro⟨j,hj,e⟩;exact⟨j,by omega,e⟩
   ·rintro⟨j,hj,e⟩;by_cases he:j=m
    ·subst he;exact⟨j-1,by omega,by rw[←e];exact Eq.symm (Classical.byContradiction fun h=>hk2 (.inr h))⟩
    ·exact⟨j,by omega,e⟩
theorem JD:∀{a b:List Int},a.Pairwise (·<·)→b.Pairwise (·<·)→(∀x,x∈a↔x∈b)→a=b
 |[],[],_,_,_=>rfl
 |[],y::_,_,_,h=>by have:=(h y).2 (by simp);cases this
 |x::_,[],_,_,h=>by have:=(h x).1 (by simp);cases this
 |x::a,y::b,ha,hb,h=>by
  rw[List.pairwise_cons]at ha hb;have hxy:x=y:=by
   have h1:=(h x).1 (by simp);have h2:=(h y).2 (by simp);rw[List.mem_cons]at h1 h2;rcases h1 with h1|h1
   ·exact h1
   ·rcases h2 with h2|h2
    ·exact h2.symm
    ·have:=ha.1 _ h2;have:=hb.1 _ h1;omega
  subst hxy;rw[JD ha.2 hb.2 (fun z=> ?_)];have hz:=h z;rw[List.mem_cons,List.mem_cons]at hz;constructor
  ·intro hm;rcases hz.1 (.inr hm)with e|e
   ·have:=ha.1 _ hm;omega
   ·exact e
  ·intro hm;rcases hz.2 (.inr hm)with e|e
   ·have:=hb.1 _ hm;omega
   ·exact e
theorem pz(l:List Int):(compact (l.mergeSort fun x y=>decide (x≤y))).Pairwise (·<·)∧∀x,x∈compact (l.mergeSort fun x y=>decide (x≤y))↔x∈l:=by
 have hp:=List.pairwise_mergeSort (le:=fun x y:Int=>decide (x≤y)) (fun a b c h1 h2=>by simp at*;omega) (fun a b=>by simp;omega) l;have hm:∀x,x∈(l.mergeSort fun x y=>decide (x≤y))↔x∈l:=fun x=>List.mem_mergeSort;generalize(l.mergeSort fun x y=>decide (x≤y))=s at*;have hs:∀i j,i≤j→j<s.toArray.size→s.toArray[i]!≤s.toArray[j]! :=by
  intro i j hij hj;have hj':j<s.length:=(by simpa using hj);rw[getElem!_pos s.toArray i (by simp;omega),getElem!_pos s.toArray j hj];rcases Nat.lt_or_eq_of_le hij with h|h
  ·have:=List.pairwise_iff_getElem.1 hp i j (by omega) hj' h;simpa using this
  ·subst h;exact Int.le_refl _
 obtain⟨h1,h2⟩:=tu s.toArray hs s.length (by simp);refine⟨h1,fun x=> ?_⟩;unfold compact;rw[h2,←hm];constructor
 ·rintro⟨j,hj,rfl⟩;rw[getElem!_pos s.toArray j (by simpa using hj)];simp
 ·intro h;obtain⟨j,hj,rfl⟩:=List.getElem_of_mem h;exact⟨j,hj,by rw[getElem!_pos s.toArray j (by simpa using hj)];simp⟩
structure Cho where
 key:Int
 a:Int
 b:Int
deriving DecidableEq
def aP(H:List Txn)(t:Nat):Txn:=H.getD t ⟨0,[],[]⟩
theorem aQ{H:List Txn}{t:Nat}(h:t<H.length):aP H t=H[t]:=by unfold aP;rw[List.getD_eq_getElem?_getD,List.getElem?_eq_getElem h];rfl
def fV(H:List Txn)(key:Int)(n:Nat):List Nat:=(List.range n).filter fun t=>(aP H t).writes.contains key
def fJ(H:List Txn)(key:Int):List Nat:=fV H key H.length
theorem yI(H:List Txn)(key:Int)(n:Nat):fV H key (n+1)=fV H key n++(if(aP H n).writes.contains key then[n]else[]):=by
 unfold fV;rw[List.range_succ,List.filter_append];congr 1;rw[List.filter_cons,List.filter_nil]
theorem pE{H:List Txn}{key:Int}{t:Nat}:t∈fJ H key↔t<H.length∧key∈(aP H t).writes:=by
 unfold fJ fV;rw[List.mem_filter,List.mem_range,List.contains_iff_mem]
theorem pF(H:List Txn)(key:Int):(fJ H key).length≤H.length:=Nat.le_trans (List.length_filter_le _ _) (by simp)
def dY(H:List Txn):List Int:=compact ((H.map (·.writes)).flatten.mergeSort fun x y=>decide (x≤y))
theorem BP{H:List Txn}{k:Int}:k∈dY H↔∃t,t∈H∧k∈t.writes:=by
 unfold dY;rw[(pz _).2,List.mem_flatten];constructor
 ·rintro⟨l,hl,hk⟩;obtain⟨t,ht,rfl⟩:=List.mem_map.1 hl;exact⟨t,ht,hk⟩
 ·rintro⟨t,ht,hk⟩;exact⟨t.writes,List.mem_map_of_mem ht,hk⟩
theorem Gs(H:List Txn):(dY H).Pairwise (·<·):=(pz _).1
theorem yJ{H:List Txn}(h:∀t∈H,∀k∈t.writes,0≤k∧k<16):dY H=((List.range 16).filter fun(k:Nat)=>decide (fJ H (k:Int)≠[])).map fun(k:Nat)=>(k:Int):=by
 refine JD (Gs H) ?_ (fun x=> ?_)
 ·refine List.pairwise_map.2 ?_;exact(List.Pairwise.filter _ List.pairwise_lt_range).imp (fun hab=>by omega)
 ·rw[BP];constructor
  ·rintro⟨t,ht,hx⟩;have hb:=h t ht x hx;obtain⟨i,hi,rfl⟩:=List.getElem_of_mem ht;refine List.mem_map.2 ⟨x.toNat,List.mem_filter.2 ⟨by simp;omega,?_⟩,by omega⟩;rw[show((x.toNat:Nat):Int)=x by omega];refine decide_eq_true (fun e=> ?_);have:i∈fJ H x:=pE.2 ⟨hi,by rw[aQ hi];exact hx⟩;rw[e]at this;cases this
  ·intro hx;obtain⟨k,hk,rfl⟩:=List.mem_map.1 hx;obtain⟨_,hk2⟩:=List.mem_filter.1 hk;have hk3:=of_decide_eq_true hk2;cases hw:fJ H (k:Int)with
   |nil=>exact absurd hw hk3
   |cons t r=>
    have:t∈fJ H (k:Int):=(by rw[hw];simp);obtain⟨h1,h2⟩:=pE.1 this;rw[aQ h1]at h2;exact⟨_,List.getElem_mem h1,h2⟩
def jM(key:Int):List Nat→List Cho
 |[]=>[]
 |a::r=>r.map (fun(b:Nat)=>(⟨key,a,b⟩:Cho))++jM key r
def dD(H:List Txn):List Cho:=((dY H).map fun k=>jM k (fJ H k)).flatten
def AJ(H:List Txn)(key src:Int):List Nat:=((List.range H.length).map fun t=>((aP H t).reads.filter fun r=>decide (r.a=key)&&decide (r.b=src)).map fun _=>t).flatten
theorem yK{H:List Txn}{key src:Int}{t:Nat}:t∈AJ H key src↔t<H.length∧∃r∈(aP H t).reads,r.a=key∧r.b=src:=by
 unfold AJ;rw[List.mem_flatten];constructor
 ·rintro⟨l,hl,ht⟩;obtain⟨u,hu,rfl⟩:=List.mem_map.1 hl;obtain⟨r,hr,rfl⟩:=List.mem_map.1 ht;obtain⟨h1,h2⟩:=List.mem_filter.1 hr;exact⟨by simpa using hu,r,h1,by simpa using h2⟩
 ·rintro⟨h,r,hr,hk⟩;exact⟨_,List.mem_map.2 ⟨t,by simpa using h,rfl⟩,List.mem_map.2 ⟨r,List.mem_filter.2 ⟨hr,by simpa using hk⟩,rfl⟩⟩
end Go.Inq
namespace Go.Inq
def bI(key:Int)(l:List Nat)(i:Nat):List Cho:=((List.range i).map fun a=>(l.drop (a+1)).map fun(b:Nat)=>(⟨key,(l.getD a 0:Nat),b⟩:Cho)).flatten
theorem wM(key:Int)(l:List Nat){i:Nat}(h:i<l.length):bI key l (i+1)=bI key l i++(l.drop (i+1)).map fun(b:Nat)=>(⟨key,(l[i]:Nat),b⟩:Cho):=by
 unfold bI;rw[List.range_succ,List.map_append,List.flatten_append];simp[List.getD_eq_getElem?_getD,List.getElem?_eq_getElem h]
theorem wP(key:Int)(a:Nat)(r:List Nat):∀i,bI key (a::r) (i+1)=(r.map fun(b:Nat)=>(⟨key,a,b⟩:Cho))++bI key r i
 |0=>by simp[bI,List.range_succ]
 |i+1=>by
  have h1:bI key (a::r) (i+1+1)=bI key (a::r) (i+1)++((a::r).drop (i+1+1)).map fun(b:Nat)=>(⟨key,((a::r).getD (i+1) 0:Nat),b⟩:Cho):=by
   unfold bI;rw[List.range_succ,List.map_append,List.flatten_append];simp
  have h2:bI key r (i+1)=bI key r i++(r.drop (i+1)).map fun(b:Nat)=>(⟨key,(r.getD i 0:Nat),b⟩:Cho):=by
   unfold bI;rw[List.range_succ,List.map_append,List.flatten_append];simp
  rw[h1,h2,wP key a r i];simp
theorem rP(key:Int):∀l:List Nat,bI key l l.length=jM key l
 |[]=>by simp[bI,jM]
 |a::r=>by rw[List.length_cons,wP,rP key r];rfl
def dZ(H:List Txn)(k:Nat):List Cho:=(((dY H).take k).map fun key=>jM key (fJ H key)).flatten
theorem tC{H:List Txn}{k:Nat}(h:k<(dY H).length):dZ H (k+1)=dZ H k++jM (dY H)[k] (fJ H (dY H)[k]):=by
 unfold dZ;rw[List.take_succ_eq_append_getElem h,List.map_append,List.flatten_append];simp
theorem wQ(H:List Txn):dZ H (dY H).length=dD H:=by unfold dZ dD;rw[List.take_length]
theorem rQ(key:Int):∀l:List Nat,(jM key l).length≤l.length*l.length
 |[]=>by simp[jM]
 |a::r=>by
  unfold jM;rw[List.length_append,List.length_map,List.length_cons];have:=rQ key r;rw[Nat.add_mul,Nat.mul_add];omega
theorem rR(key:Int)(l:List Nat):∀i,(bI key l i).length≤i*l.length
 |0=>by simp[bI]
 |i+1=>by
  have h1:bI key l (i+1)=bI key l i++(l.drop (i+1)).map fun(b:Nat)=>(⟨key,(l.getD i 0:Nat),b⟩:Cho):=by
   unfold bI;rw[List.range_succ,List.map_append,List.flatten_append];simp
  rw[h1,List.length_append,List.length_map,List.length_drop,Nat.add_mul];have:=rR key l i;omega
theorem pG{H:List Txn}(hr:aG H=true):(dY H).length≤16:=by
 have hb:∀t∈H,∀k∈t.writes,0≤k∧k<16:=fun t ht k hk=>by
  obtain⟨i,hi,rfl⟩:=List.getElem_of_mem ht;exact(((aD H).1 hr).2 i hi).TK k hk
 rw[yJ hb,List.length_map];exact Nat.le_trans (List.length_filter_le _ _) (by simp)
theorem pI{H:List Txn}(h32:H.length≤32):∀k,k≤(dY H).length→(dZ H k).length≤k*1024
 |0,_=>by simp[dZ]
 |k+1,hk=>by
  rw[tC (by omega),List.length_append];have h1:=pI h32 k (by omega);have h2:=rQ (dY H)[k] (fJ H (dY H)[k]);have h3:=pF H (dY H)[k];have h4:(fJ H (dY H)[k]).length*(fJ H (dY H)[k]).length≤32*32:=Nat.mul_le_mul (by omega) (by omega);omega
theorem yL{H:List Txn}(hr:aG H=true):(dD H).length≤16384:=by
 have h1:=pI ((aD H).1 hr).1 _ (Nat.le_refl _);rw[wQ]at h1;have:=pG hr;omega
def wrB(H:List Txn)(t key:Int):Bool:=decide (0≤t)&&decide (t<(H.length:Int))&&(aP H t.toNat).writes.contains key
def dh(H:List Txn)(c:Cho):Bool:=decide (c.a≠c.b)&&wrB H c.a c.key&&wrB H c.b c.key
def dR(H:List Txn)(l:List Cho):Bool:=aG H&&decide (l.length≤20000)&&l.all (dh H)
theorem mZ{H:List Txn}{t:Nat}{key:Int}(h:t<H.length):wrB H (t:Int) key=(aP H t).writes.contains key:=by unfold wrB;simp[h]
theorem JE{H:List Txn}{t key:Int}:wrB H t key=true↔∃n:Nat,t=n∧n<H.length∧key∈(aP H n).writes:=by
 unfold wrB;constructor
 ·intro h;simp only[Bool.and_eq_true,decide_eq_true_eq,List.contains_iff_mem]at h;exact⟨t.toNat,by omega,by omega,h.2⟩
 ·rintro⟨n,rfl,h1,h2⟩;simp[h1,h2]
theorem yM{H:List Txn}{c:Cho}:dh H c=true↔∃a b:Nat,c.a=a∧c.b=b∧a≠b∧a<H.length∧b<H.length∧c.key∈(aP H a).writes∧c.key∈(aP H b).writes:=by
 unfold dh;rw[Bool.and_eq_true,Bool.and_eq_true,JE,JE];constructor
 ·rintro⟨⟨h1,a,ha,h2,h3⟩,b,hb,h4,h5⟩;have:=of_decide_eq_true h1;exact⟨a,b,ha,hb,by omega,h2,h4,h3,h5⟩
 ·rintro⟨a,b,ha,hb,h1,h2,h3,h4,h5⟩;exact⟨⟨decide_eq_true (by omega),a,ha,h2,h4⟩,b,hb,h3,h5⟩
def bD(c:Cho):Cho:=⟨c.key,c.b,c.a⟩
theorem D9{H:List Txn}{c:Cho}(h:dh H c=true):dh H (bD c)=true:=by
 obtain⟨a,b,ha,hb,h1,h2,h3,h4,h5⟩:=yM.1 h;exact yM.2 ⟨b,a,hb,ha,h1.symm,h3,h2,h5,h4⟩
def aX(p:Nat→Bool):Nat→Nat
 |0=>0
 |n+1=>aX p n|||(if p n then 2^n else 0)
theorem aT(p:Nat→Bool):∀(n i:Nat),(aX p n).testBit i=(decide (i<n)&&p i)
 |0,i=>by simp[aX]
 |n+1,i=>by
  unfold aX;rw[Nat.testBit_or,aT p n i];by_cases h:i=n
  ·subst h;cases hp:p i<;>simp[hp,Nat.testBit_two_pow]
  ·have h2:(if p n=true then 2^n else 0).testBit i=false:=by
    split
    ·rw[Nat.testBit_two_pow];simp;omega
    ·simp
   rw[h2];have h3:decide (i<n+1)=decide (i<n):=(by simp;omega);rw[h3];simp
theorem lM(p:Nat→Bool)(n:Nat):aX p n<2^n:=by
 refine Nat.lt_pow_two_of_testBit _ (fun i hi=> ?_);rw[aT];simp;omega
theorem Db{p:Nat→Bool}{n x:Nat}(hx:x<2^n)(h:∀i,i<n→x.testBit i=p i):x=aX p n:=by
 refine Nat.eq_of_testBit_eq (fun i=> ?_);rw[aT];by_cases hi:i<n
 ·rw[h i hi];simp[hi]
 ·rw[Nat.testBit_lt_two_pow (Nat.lt_of_lt_of_le hx (Nat.pow_le_pow_right (by decide) (by omega)))];simp[hi]
theorem dS{p q:Nat→Bool}{n:Nat}(h:∀i,i<n→p i=q i):aX p n=aX q n:=
 Db (lM p n) (fun i hi=>by rw[aT,h i hi];simp[hi])
theorem RF(x i:Nat)(j:Nat):(x|||2^i).testBit j=(x.testBit j||decide (i=j)):=by
 rw[Nat.testBit_or,Nat.testBit_two_pow]
theorem and_one(x i:Nat):(x&&&2^i=0)↔x.testBit i=false:=by
 constructor
 ·intro h;have:=congrArg (fun y=>y.testBit i) h;simpa[Nat.testBit_and,Nat.testBit_two_pow]using this
 ·intro h;refine Nat.eq_of_testBit_eq (fun j=> ?_);rw[Nat.testBit_and,Nat.testBit_two_pow];by_cases e:i=j
  ·subst e;simp[h]
  ·simp[e]
def dL(n:Nat)(E:Nat→Nat→Bool):List Nat:=(List.range n).map fun a=>aX (E a) n
theorem aU(n:Nat)(E:Nat→Nat→Bool):(dL n E).length=n:=by simp[dL]
theorem gG{n:Nat}{E:Nat→Nat→Bool}{a:Nat}(h:a<n):(dL n E)[a]'(by rw[aU];exact h)=aX (E a) n:=by simp[dL]
theorem wR{n:Nat}{E F:Nat→Nat→Bool}(h:∀a b,a<n→b<n→E a b=F a b):dL n E=dL n F:=by
 unfold dL;refine List.map_congr_left (fun a ha=>dS (fun b hb=>h a b (by simpa using ha) hb))
def jd(x:Nat):List Nat:=(List.range 64).filter fun i=>x.testBit i
theorem tF(p:Nat→Bool)(k:Nat)(hk:p k=true)(hl:∀i,i<k→p i=false):∀n,k<n→(List.range n).filter p=k::(List.range n).filter (fun i=>p i&&decide (i≠k))
 |0,h=>absurd h (by omega)
 |n+1,h=>by
  rw[List.range_succ,List.filter_append,List.filter_append];by_cases e:k=n
  ·subst e;have h1:(List.range k).filter p=[]:=by
    rw[List.filter_eq_nil_iff];intro i hi;rw[hl i (by simpa using hi)];simp
   have h2:(List.range k).filter (fun i=>p i&&decide (i≠k))=[]:=by
    rw[List.filter_eq_nil_iff];intro i hi;rw[hl i (by simpa using hi)];simp
   rw[h1,h2];simp[hk]
  ·rw[tF p k hk hl n (by omega)];have e2:decide (n≠k)=true:=(by simp;omega);simp only[List.filter_cons,List.filter_nil,e2,Bool.and_true,List.cons_append]
theorem Dc(k m i:Nat):(2^k*(2*m+1)).testBit i=(decide (k≤i)&&(decide (i=k)||m.testBit (i-k-1))):=by
 rw[Nat.mul_comm,Nat.testBit_mul_two_pow];by_cases h:k≤i
 ·by_cases e:i=k
  ·subst e;simp[Nat.testBit_zero]
  ·obtain⟨j,rfl⟩:∃j,i=k+(j+1):=⟨i-k-1,by omega⟩;rw[show k+(j+1)-k=j+1 by omega,Nat.testBit_succ,show(2*m+1)/2=m by omega,show j+1-1=j by omega];simp
 ·simp[h]
theorem Nb(k m i:Nat):(2^k*(2*m+1)-1).testBit i=(decide (i<k)||(decide (k<i)&&m.testBit (i-k-1))):=by
 have e:2^k*(2*m+1)-1=2^k*(2*m)+(2^k-1):=by
  have:=Nat.two_pow_pos k;rw[Nat.mul_add,Nat.mul_one];omega
 rw[e,Nat.testBit_two_pow_mul_add _ (by have:=Nat.two_pow_pos k;omega)];by_cases h:i<k
 ·rw[if_pos h,Nat.testBit_two_pow_sub_one];simp[h]
 ·rw[if_neg h];by_cases e:i=k
  ·subst e;simp[Nat.testBit_zero]
  ·obtain⟨j,rfl⟩:∃j,i=k+(j+1):=⟨i-k-1,by omega⟩;rw[show k+(j+1)-k=j+1 by omega,Nat.testBit_succ,show 2*m/2=m by omega,show j+1-1=j by omega,decide_eq_false h,decide_eq_true (show k<k+(j+1) by omega)];simp
theorem Nc(x:Nat)(h0:x≠0)(hx:x<2^64):x.testBit (Lib.ctz 64 x)=true∧(∀i,i<Lib.ctz 64 x→x.testBit i=false)∧Lib.ctz 64 x<64∧∀i,(x&&&(x-1)).testBit i=(x.testBit i&&decide (i≠Lib.ctz 64 x)):=by
 have e:Lib.ctz 64 x=Lib.ctzFrom 64 x:=(by unfold Lib.ctz;rw[if_neg h0]);rw[e];obtain⟨m,hm,hk⟩:=Lib.ctzFrom_spec 64 x (by omega) hx;generalize Lib.ctzFrom 64 x=k at*;subst hm;refine⟨?_,?_,hk,?_⟩
 ·rw[Dc];simp
 ·intro i hi;rw[Dc];simp;omega
 ·intro i;rw[Nat.testBit_and,Dc,Nb];by_cases h1:i<k
  ·have:¬k≤i:=(by omega);simp[this]
  ·by_cases h2:i=k
   ·subst h2;simp
   ·have h3:k<i:=(by omega);have h4:k≤i:=(by omega);simp[h1,h2,h3,h4]
theorem rT(x:Nat)(h0:x≠0)(hx:x<2^64):jd x=Lib.ctz 64 x::jd (x&&&(x-1)):=by
 obtain⟨h1,h2,h3,h4⟩:=Nc x h0 hx;unfold jd;rw[tF _ _ h1 h2 64 h3];congr 1;refine List.filter_congr (fun i _=>(h4 i).symm)
theorem Gt:jd 0=[]:=by simp[jd]
theorem Nf(x:Nat)(hx:x<2^64):x&&&(x-1)<2^64:=Nat.lt_of_le_of_lt Nat.and_le_left hx
theorem Kj(x:Nat):(jd x).length≤64:=Nat.le_trans (List.length_filter_le _ _) (by simp)
theorem Ea{n:Nat}{E:Nat→Nat→Bool}{x:Nat}(h:x∈dL n E):x<2^n:=by
 unfold dL at h;obtain⟨a,_,rfl⟩:=List.mem_map.1 h;exact lM _ _
abbrev aj:=Nat→Nat→Bool
def orE(E F:aj):aj:=fun a b=>E a b||F a b
def lN(n:Nat)(E F:aj):aj:=fun a c=>(List.range n).any fun b=>E a b&&F b c
def eX(E:aj):aj:=fun a b=>E b a
def soE(H:List Txn):aj:=fun a b=>decide (a<b)&&decide ((aP H a).bL=(aP H b).bL)
def wrE(H:List Txn):aj:=fun a b=>decide (a≠b)&&(aP H b).reads.any fun r=>decide (r.b=(a:Int))
def mo(H:List Txn):aj:=fun a b=>decide (a≠b)&&(aP H a).reads.any fun r=>decide (r.b= -1)&&(aP H b).writes.contains r.a
def d9(H:List Txn):aj:=orE (soE H) (wrE H)
def wwE(l:List Cho):aj:=fun a b=>l.any fun c=>decide (c.a=(a:Int))&&decide (c.b=(b:Int))
def rwE(H:List Txn)(l:List Cho):aj:=fun t b=>mo H t b||l.any fun c=>decide (c.b=(b:Int))&&decide (t≠b)&&(aP H t).reads.any fun r=>decide (r.a=c.key)&&decide (r.b=c.a)
def dW(H:List Txn)(level:Int)(l:List Cho):aj:=
 let d:=orE (d9 H) (wwE l)
 orE d (if level=1 then lN H.length d (rwE H l)else rwE H l)
theorem Kk{H:List Txn}{a b:Nat}(ha:a<H.length)(hb:b<H.length):mo H a b=true↔a≠b∧∃k∈dY H,a∈AJ H k (-1)∧b∈fJ H k:=by
 unfold mo;rw[Bool.and_eq_true,List.any_eq_true];constructor
 ·rintro⟨h1,r,hr,h2⟩;rw[Bool.and_eq_true,List.contains_iff_mem]at h2;refine⟨of_decide_eq_true h1,r.a,BP.2 ⟨H[b],List.getElem_mem hb,by rw[←aQ hb];exact h2.2⟩,yK.2 ⟨ha,r,hr,rfl,of_decide_eq_true h2.1⟩,pE.2 ⟨hb,h2.2⟩⟩
 ·rintro⟨h1,k,_,hr,hw⟩;obtain⟨_,r,hr2,rfl,e⟩:=yK.1 hr;exact⟨decide_eq_true h1,r,hr2,by rw[Bool.and_eq_true,List.contains_iff_mem];exact⟨decide_eq_true e,(pE.1 hw).2⟩⟩
def jP(n:Nat)(E:aj)(l:List Nat):Option Nat:=(List.range n).find? fun v=> !l.contains v&&(List.range n).all fun x=> !E x v||l.contains x
def cO(n:Nat)(E:aj):Nat→Option (List Nat)
 |0=>some []
 |k+1=>match cO n E k with
  |none=>none
  |some l=>match jP n E l with
   |none=>none
   |some v=>some (l++[v])
def fK(n:Nat)(E:aj):Option (List Nat):=cO n E n
theorem gH{n:Nat}{E:aj}:∀{k:Nat} {l:List Nat},cO n E k=some l→l.length=k
 |0,l,h=>by unfold cO at h;injection h with h;subst h;rfl
 |k+1,l,h=>by
  unfold cO at h;split at h
  ·cases h
  ·rename_i l0 h0;split at h
   ·cases h
   ·injection h with h;subst h;simp[gH h0]
structure Wd where
 width:Int
 cut:Bool
 path:List Int
 left:List (List Int)
deriving DecidableEq
def xS(H:List Txn)(x y:Nat):Bool:=(aP H y).reads.any fun r=>decide (r.b=(x:Int))
def ku(H:List Txn)(x y:Nat)(c:Cho):Bool:=decide (c.a=(x:Int))&&decide (c.b=(y:Int))&&decide (x≠y)&&(aP H x).writes.contains c.key&&(aP H y).writes.contains c.key
def mq(H:List Txn)(l:List Cho)(x y:Nat):Bool:=l.any (ku H x y)
def kD(H:List Txn)(l:List Cho)(y:Nat)(r:It):Bool:=(aP H y).writes.contains r.a&&(decide (r.b<0)||(decide (r.b≠(y:Int))&&l.any fun c=>decide (c=⟨r.a,r.b,y⟩)))
def pJ(H:List Txn)(l:List Cho)(x y:Nat):Bool:=decide (x≠y)&&(aP H x).reads.any (kD H l y)
def RH(H:List Txn)(l:List Cho)(x y:Nat):Bool:=soE H x y||xS H x y||mq H l x y
def oH(H:List Txn)(x y:Int):Bool:=aG H&&decide (0≤x)&&decide (x<(H.length:Int))&&decide (0≤y)&&decide (y<(H.length:Int))
def aL(H:List Txn)(l:List Cho)(x y:Int):Bool:=oH H x y&&RH H l x.toNat y.toNat
def eY(H:List Txn)(l:List Cho)(x y:Int):Bool:=oH H x y&&pJ H l x.toNat y.toNat
def isB(H:List Txn)(level:Int)(l:List Cho)(x y:Int):Bool:=
 if level=0 then aL H l x y||eY H l x y
 else if level=1 then(List.range H.length).any fun m=>aL H l x (m:Int)&&(decide ((m:Int)=y)||eY H l (m:Int) y)
 else false
def iE(H:List Txn)(level:Int)(l:List Cho)(row:List Int):Bool:=
 decide (0<row.length)&&(List.range row.length).all fun i=> !(row.take i).contains (row.getD i 0)&&isB H level l (row.getD i 0) (row.getD ((i+1)%row.length) 0)
theorem pK{H:List Txn}{x y:Int}:oH H x y=true↔aG H=true∧∃a b:Nat,x=a∧y=b∧a<H.length∧b<H.length:=by
 unfold oH;simp only[Bool.and_eq_true,decide_eq_true_eq];constructor
 ·rintro⟨⟨⟨⟨h1,h2⟩,h3⟩,h4⟩,h5⟩;exact⟨h1,x.toNat,y.toNat,by omega,by omega,by omega,by omega⟩
 ·rintro⟨h1,a,b,rfl,rfl,h2,h3⟩;exact⟨⟨⟨⟨h1,by omega⟩,by omega⟩,by omega⟩,by omega⟩
structure Fct where
 c:Cho
 kind:Int
 i:Int
 j:Int
 cyc:List Int
deriving DecidableEq
def wT(L:List Fct)(f:Fct):Bool:=
 decide (0≤f.i)&&decide (f.i<(L.length:Int))&&decide (0≤f.j)&&decide (f.j<(L.length:Int))&&
  match L[f.i.toNat]?,L[f.j.toNat]? with
  |some x,some y=>decide (x.c.b=y.c.a)&&decide (x.c.key=y.c.key)&&decide (f.c=⟨x.c.key,x.c.a,y.c.b⟩)
  |_,_=>false
def ou(H:List Txn)(f:Fct):Bool:=
 decide (f.j=0)&&decide (f.i≠f.c.a)&&decide (0≤f.i)&&decide (f.i<(H.length:Int))&&
  ((aP H f.i.toNat).reads.any fun x=>decide (x.a=f.c.key)&&decide (x.b=f.c.b))&&aL H [] f.c.a f.i
def axB(H:List Txn)(f:Fct):Bool:=decide (f.i=0)&&decide (f.j=0)&&aL H [] f.c.a f.c.b
def Eb(H:List Txn)(level:Int)(L:List Fct)(f:Fct):Bool:=decide (f.i=0)&&decide (f.j=0)&&iE H level (L.map (·.c)++[bD f.c]) f.cyc
def oI(H:List Txn)(level:Int)(L:List Fct)(f:Fct):Bool:=
 if f.kind=1 then axB H f else if f.kind=2 then wT L f else if f.kind=3 then ou H f else if f.kind=4 then Eb H level L f else false
def kI(H:List Txn)(level:Int):Bool:=aG H&&(decide (level=0)||decide (level=1))
def bQ(H:List Txn)(level:Int)(L:List Fct)(f:Fct):Bool:=
 kI H level&&dh H f.c&&(decide (f.kind=4)||decide (f.cyc=[]))&&oI H level L f
def pO(E:aj):Nat→aj
 |0=>E
 |k+1=>fun x y=>pO E k x y||(pO E k x k&&pO E k k y)
def rU(E:aj)(x:Nat):List Nat→Nat→Bool
 |[],y=>E x y
 |a::l,y=>E x a&&rU E a l y
theorem lQ{E:aj}:∀{x:Nat} {a:List Nat} {k:Nat} {b:List Nat} {y:Nat},rU E x (a++k::b) y=(rU E x a k&&rU E k b y)
 |x,[],k,b,y=>rfl
 |x,c::a,k,b,y=>by
  show(E x c&&rU E c (a++k::b) y)=(E x c&&rU E c a k&&rU E k b y);rw[lQ,Bool.and_assoc]
theorem wW{k:Nat}:∀{l:List Nat},k∈l→∃a b,l=a++k::b∧k∉a
 |[],h=>by simp at h
 |c::l,h=>by
  by_cases e:c=k
  ·exact⟨[],l,by rw[e];rfl,by simp⟩
  ·have h2:k∈l:=by
    rw[List.mem_cons]at h;exact h.resolve_left fun g=>e g.symm
   obtain⟨a,b,h3,h4⟩:=wW h2;exact⟨c::a,b,by rw[h3];rfl,by simp;exact⟨fun g=>e g.symm,h4⟩⟩
theorem ji{E:aj}:∀(k:Nat) (x y:Nat),pO E k x y=true→∃l:List Nat,(∀a∈l,a<k)∧rU E x l y=true
 |0,x,y,h=>⟨[],by simp,h⟩
 |k+1,x,y,h=>by
  unfold pO at h;rw[Bool.or_eq_true,Bool.and_eq_true]at h;rcases h with h|⟨h1,h2⟩
  ·obtain⟨l,hl,hw⟩:=ji k x y h;exact⟨l,fun a ha=>by have:=hl a ha;omega,hw⟩
  ·obtain⟨l1,hl1,hw1⟩:=ji k x k h1;obtain⟨l2,hl2,hw2⟩:=ji k k y h2;refine⟨l1++k::l2,fun a ha=> ?_,by rw[lQ,hw1,hw2];rfl⟩;simp only[List.mem_append,List.mem_cons]at ha;rcases ha with ha|rfl|ha
   ·have:=hl1 a ha;omega
   ·omega
   ·have:=hl2 a ha;omega
theorem vD{E:aj}:∀(k:Nat) (m:Nat) (l:List Nat) (x y:Nat),l.length≤m→(∀a∈l,a<k)→rU E x l y=true→pO E k x y=true:=by
 intro k
 induction k with
 |zero=>
  intro m l x y _ hl hw;cases l with
  |nil=>exact hw
  |cons a l=>exact absurd (hl a (by simp)) (by omega)
 |succ k ihk=>
  intro m
  induction m with
  |zero=>
   intro l x y hm hl hw;obtain rfl:l=[]:=List.eq_nil_of_length_eq_zero (by omega);unfold pO;rw[ihk 0 [] x y (by simp) (by simp) hw];rfl
  |succ m ihm=>
   intro l x y hm hl hw;by_cases hk:k∈l
   ·obtain⟨a,b,rfl,hka⟩:=wW hk;rw[lQ,Bool.and_eq_true]at hw;have h1:=ihk a.length a x k (Nat.le_refl _) (fun c hc=>by
     have:=hl c (by simp[hc]);have:c≠k:=fun e=>hka (e▸hc);omega) hw.1
    have h2:=ihm b k y (by simp at hm;omega) (fun c hc=>hl c (by simp[hc])) hw.2;unfold pO at h2⊢;rw[Bool.or_eq_true,Bool.and_eq_true]at h2;have h3:pO E k k y=true:=(by rcases h2 with h|h;exact h;exact h.2);rw[h1,h3];simp
   ·unfold pO;rw[ihk l.length l x y (Nat.le_refl _) (fun c hc=>by
     have:=hl c hc;have:c≠k:=fun e=>hk (e▸hc);omega) hw]
    rfl
def xU(n:Nat)(E:aj):aj:=pO E n
theorem BQ{n:Nat}{E:aj}{x y:Nat}(h:E x y=true):xU n E x y=true:=vD n 0 [] x y (by simp) (by simp) h
theorem Gu{n:Nat}{E:aj}{x y z:Nat}(hy:y<n)(h1:xU n E x y=true)(h2:xU n E y z=true):xU n E x z=true:=by
 obtain⟨a,ha,wa⟩:=ji n x y h1;obtain⟨b,hb,wb⟩:=ji n y z h2;refine vD n _ (a++y::b) x z (Nat.le_refl _) (fun c hc=> ?_) (by rw[lQ,wa,wb];rfl);simp only[List.mem_append,List.mem_cons]at hc;rcases hc with hc|rfl|hc
 ·exact ha c hc
 ·exact hy
 ·exact hb c hc
theorem BR{n:Nat}{E:aj}(f:Nat→Nat)(h:∀x y,x<n→y<n→E x y=true→f x<f y):∀(l:List Nat) (x y:Nat),x<n→y<n→(∀a∈l,a<n)→rU E x l y=true→f x<f y
 |[],x,y,hx,hy,_,hw=>h x y hx hy hw
 |a::l,x,y,hx,hy,hl,hw=>by
  have hw':(E x a&&rU E a l y)=true:=hw;rw[Bool.and_eq_true]at hw';have ha:=hl a (by simp);have h1:=h x a hx ha hw'.1;have h2:=BR f h l a y ha hy (fun b hb=>hl b (by simp[hb])) hw'.2;omega
def AL(n:Nat)(E:aj):Bool:=(List.range n).any fun x=>xU n E x x
theorem Ng{n:Nat}{E:aj}(f:Nat→Nat)(h:∀x y,x<n→y<n→E x y=true→f x<f y):AL n E=false:=by
 unfold AL;rw[List.any_eq_false];intro x hx hc;obtain⟨l,hl,hw⟩:=ji n x x hc;have:=BR f h l x x (List.mem_range.1 hx) (List.mem_range.1 hx) hl hw;omega
theorem qH:∀(A B:List Nat),A.Nodup→(∀x∈A,x∈B)→A.length≤B.length
 |[],_,_,_=>Nat.zero_le _
 |a::A,B,hn,h=>by
  rw[List.nodup_cons]at hn;have h1:=qH A (B.erase a) hn.2 fun x hx=>(List.mem_erase_of_ne (fun e:x=a=>hn.1 (by rw[←e];exact hx))).2 (h x (by simp[hx]));rw[List.length_erase_of_mem (h a (by simp))]at h1;have:=List.length_pos_of_mem (h a (by simp));simp;omega
theorem Gv{n:Nat}{E:aj}{l:List Nat}{v:Nat}(h:jP n E l=some v):v<n∧v∉l∧∀x,x<n→E x v=true→x∈l:=by
 unfold jP at h;have h1:=List.find?_some h;have h2:=List.mem_of_find?_eq_some h;simp only[Bool.and_eq_true,Bool.not_eq_true',List.all_eq_true,List.mem_range,Bool.or_eq_true,List.contains_iff_mem]at h1;refine⟨by simpa using h2,fun hv=> ?_,fun x hx he=> ?_⟩
 ·have:=h1.1;rw[List.contains_iff_mem.2 hv]at this;cases this
 ·rcases h1.2 x hx with g|g
  ·rw[he]at g;cases g
  ·exact g
theorem Ec{n:Nat}{E:aj}{l:List Nat}(h:jP n E l=none){v:Nat}(hv:v<n)(hl:v∉l):∃x,x<n∧x∉l∧E x v=true:=by
 unfold jP at h;rw[List.find?_eq_none]at h;have h1:=h v (List.mem_range.2 hv);have hc:l.contains v=false:=by
  rw[Bool.eq_false_iff];intro e;exact hl (List.contains_iff_mem.1 e)
 rw[hc]at h1;simp only[Bool.not_false,Bool.true_and,List.all_eq_true,List.mem_range,Classical.not_forall]at h1;obtain⟨x,hx,h2⟩:=h1;simp only[Bool.or_eq_true,Bool.not_eq_true',List.contains_iff_mem,not_or]at h2;exact⟨x,hx,h2.2,by simpa using h2.1⟩
structure Rb(n:Nat)(E:aj)(l:List Nat):Prop where
 nd:l.Nodup
 lt:∀x∈l,x<n
 up:∀y∈l,∀x,x<n→E x y=true→x∈l∧l.idxOf x<l.idxOf y
theorem ni{n:Nat}{E:aj}:∀(k:Nat) (l:List Nat),cO n E k=some l→Rb n E l
 |0,l,h=>by
  unfold cO at h;injection h with h
  subst h;exact⟨List.nodup_nil,by simp,by simp⟩
 |k+1,l,h=>by
  unfold cO at h;split at h
  ·cases h
  ·rename_i l0 h0;split at h
   ·cases h
   ·rename_i v hv;injection h with h
    subst h;have ih:=ni k l0 h0;obtain⟨h1,h2,h3⟩:=Gv hv;refine⟨?_,fun x hx=> ?_,fun y hy x hx he=> ?_⟩
    ·rw[List.nodup_append];refine⟨ih.nd,by simp,fun a ha b hb e=> ?_⟩;simp at hb;subst hb;exact h2 (e▸ha)
    ·rw[List.mem_append,List.mem_singleton]at hx;rcases hx with hx|rfl
     ·exact ih.lt x hx
     ·exact h1
    ·rw[List.mem_append,List.mem_singleton]at hy;rcases hy with hy|rfl
     ·obtain⟨g1,g2⟩:=ih.up y hy x hx he;exact⟨List.mem_append.2 (.inl g1),by rw[List.idxOf_append,List.idxOf_append,if_pos g1,if_pos hy];exact g2⟩
     ·have g1:=h3 x hx he;refine⟨List.mem_append.2 (.inl g1),?_⟩;rw[List.idxOf_append,List.idxOf_append,if_pos g1,if_neg h2];have:=List.idxOf_lt_length_of_mem g1;omega
theorem xV{n:Nat}{E:aj}{o:List Nat}(h:fK n E=some o):AL n E=false:=by
 have ht:=ni n o h;have hl:=gH h;have hall:∀y,y<n→y∈o:=fun y hy=>by
  refine Classical.byContradiction fun hno=> ?_;have:=qH (y::o) (List.range n) (List.nodup_cons.2 ⟨hno,ht.nd⟩) (fun x hx=>by
   rw[List.mem_cons]at hx;rw[List.mem_range];rcases hx with rfl|hx
   ·exact hy
   ·exact ht.lt x hx)
  simp at this;omega
 exact Ng (fun x=>o.idxOf x) fun x y hx hy he=>(ht.up y (hall y hy) x hx he).2
theorem Ed{n:Nat}{E:aj}(R:Nat→Prop)(hR:∀v,R v→v<n)(hp:∀v,R v→∃x,R x∧E x v=true):∀(m:Nat) (v:Nat),R v→((List.range n).filter fun x=>xU n E x v).length≤m→AL n E=true
 |m,v,hv,hm=>by
  obtain⟨x,hx,he⟩:=hp v hv;by_cases hc:xU n E x x=true
  ·unfold AL;rw[List.any_eq_true];exact⟨x,List.mem_range.2 (hR x hx),hc⟩
  ·have hlt:((List.range n).filter fun y=>xU n E y x).length+1≤((List.range n).filter fun y=>xU n E y v).length:=by
    have:=qH (x::(List.range n).filter fun y=>xU n E y x) ((List.range n).filter fun y=>xU n E y v) (List.nodup_cons.2 ⟨fun h=>hc (List.mem_filter.1 h).2,List.Pairwise.filter _ List.nodup_range⟩) (fun y hy=>by
     rw[List.mem_cons]at hy;rw[List.mem_filter,List.mem_range];rcases hy with rfl|hy
     ·exact⟨hR y hx,BQ he⟩
     ·rw[List.mem_filter,List.mem_range]at hy;exact⟨hy.1,Gu (hR x hx) hy.2 (BQ he)⟩)
    simpa using this
   match m,hm with
   |0,hm=>omega
   |m+1,hm=>exact Ed R hR hp m x hx (by omega)
theorem qZ{n:Nat}{E:aj}:∀k,cO n E k=none→∃j l,j<k∧cO n E j=some l∧jP n E l=none
 |0,h=>by unfold cO at h;cases h
 |k+1,h=>by
  unfold cO at h;split at h
  ·rename_i h0;obtain⟨j,l,h1,h2⟩:=qZ k h0;exact⟨j,l,by omega,h2⟩
  ·rename_i l0 h0;split at h
   ·rename_i hv;exact⟨k,l0,by omega,h0,hv⟩
   ·cases h
theorem xW{n:Nat}{E:aj}(h:fK n E=none):AL n E=true:=by
 obtain⟨j,l,hj,hl,hx⟩:=qZ n h;have ht:=ni j l hl;have hlen:=gH hl;obtain⟨v,hv,hvl⟩:∃v,v<n∧v∉l:=by
  refine Classical.byContradiction fun hno=> ?_;have:=qH (List.range n) l List.nodup_range fun x hx=>Classical.byContradiction fun hn=>hno ⟨x,List.mem_range.1 hx,hn⟩;simp at this;omega
 refine Ed (fun u=>u<n∧u∉l) (fun u hu=>hu.1) (fun u hu=> ?_) _ v ⟨hv,hvl⟩ (Nat.le_refl _);obtain⟨x,h1,h2,h3⟩:=Ec hx hu.1 hu.2;exact⟨x,⟨h1,h2⟩,h3⟩
theorem Gw(n:Nat)(E:aj):(fK n E).isSome= !AL n E:=by
 cases h:fK n E with
 |none=>rw[xW h];rfl
 |some o=>rw[xV h];rfl
def cB(n:Nat)(E:aj)(v:Nat):Nat→Nat→Nat
 |0,x=>if E x v=true then 1 else 0
 |k+1,x=>if cB n E v k x≠0 then cB n E v k x else if((List.range n).any fun y=>E x y&&decide (cB n E v k y=k+1))=true then k+2 else 0
section
variable{n:Nat}{E:aj}{v:Nat}
theorem mD{k x:Nat}(h:cB n E v k x≠0):cB n E v (k+1) x=cB n E v k x:=by
 show(if _ then _ else _)=_;rw[if_pos h]
theorem mE{k x:Nat}(h:cB n E v k x≠0):∀d,cB n E v (k+d) x=cB n E v k x
 |0=>rfl
 |d+1=>by
  have ih:=mE h d;rw[show k+(d+1)=(k+d)+1 by omega,mD (by rw[ih];exact h),ih]
theorem yu(k x:Nat):cB n E v k x≤k+1:=by
 induction k with
 |zero=>
  show(if _ then _ else _)≤_;split<;>omega
 |succ k ih=>
  show(if _ then _ else _)≤_;split
  ·omega
  ·split
   ·exact Nat.le_refl _
   ·exact Nat.zero_le _
theorem Df{k x j:Nat}(h:cB n E v k x=j+1):j≤k∧cB n E v j x=j+1:=by
 induction k with
 |zero=>
  have:=yu (n:=n) (E:=E) (v:=v) 0 x;obtain rfl:j=0:=(by omega);exact⟨Nat.le_refl _,h⟩
 |succ k ih=>
  by_cases h0:cB n E v k x=0
  ·have h1:cB n E v (k+1) x=(if cB n E v k x≠0 then cB n E v k x else if((List.range n).any fun y=>E x y&&decide (cB n E v k y=k+1))=true then k+2 else 0):=rfl;rw[if_neg (by omega)]at h1;split at h1
   ·obtain rfl:j=k+1:=(by omega);exact⟨Nat.le_refl _,h⟩
   ·omega
  ·rw[mD h0]at h;obtain⟨g1,g2⟩:=ih h;exact⟨by omega,g2⟩
theorem qI{k x:Nat}(h0:cB n E v k x=0):cB n E v (k+1) x=if((List.range n).any fun y=>E x y&&decide (cB n E v k y=k+1))=true then k+2 else 0:=by
 show(if _ then _ else _)=_;rw[if_neg (by omega)]
theorem vE{k x j:Nat}(h:cB n E v k x=j+2):∃y,y<n∧E x y=true∧cB n E v k y=j+1:=by
 obtain⟨h1,h2⟩:=Df (j:=j+1) h;have h0:cB n E v j x=0:=by
  refine Classical.byContradiction fun hne=> ?_;rw[mD hne]at h2;have:=yu (n:=n) (E:=E) (v:=v) j x;omega
 rw[qI h0]at h2;split at h2
 ·rename_i hy;rw[List.any_eq_true]at hy;obtain⟨y,hy,h3⟩:=hy;rw[Bool.and_eq_true]at h3;have h4:=of_decide_eq_true h3.2;have:=mE (n:=n) (E:=E) (v:=v) (k:=j) (x:=y) (by omega) (k-j);rw[show j+(k-j)=k by omega]at this;exact⟨y,List.mem_range.1 hy,h3.1,by omega⟩
 ·omega
theorem Nh{k x:Nat}(h:cB n E v k x=1):E x v=true:=by
 obtain⟨_,h2⟩:=Df (j:=0) h;have h3:(if E x v=true then 1 else 0)=1:=h2;split at h3
 ·assumption
 ·omega
theorem Kl{k x:Nat}(h:E x v=true):cB n E v k x=1:=by
 have h0:cB n E v 0 x=1:=by
  show(if _ then _ else _)=_;rw[if_pos h]
 have:=mE (n:=n) (E:=E) (v:=v) (k:=0) (x:=x) (by omega) k;rw[Nat.zero_add]at this;omega
theorem Qa{k x y j:Nat}(hy:y<n)(he:E x y=true)(h:cB n E v k y=j+1)(hj:j<k):cB n E v k x≠0:=by
 obtain⟨_,h2⟩:=Df h;by_cases h0:cB n E v j x=0
 ·have h3:cB n E v (j+1) x=j+2:=by
   rw[qI h0,if_pos (by rw[List.any_eq_true];exact⟨y,List.mem_range.2 hy,by rw[he,decide_eq_true h2];rfl⟩)]
  have:=mE (n:=n) (E:=E) (v:=v) (k:=j+1) (x:=x) (by omega) (k-(j+1));rw[show j+1+(k-(j+1))=k by omega]at this;omega
 ·have:=mE (n:=n) (E:=E) (v:=v) h0 (k-j);rw[show j+(k-j)=k by omega]at this;omega
theorem rV{k:Nat}:∀(j x:Nat),x<n→cB n E v k x=j+1→∃l:List Nat,l.Nodup∧l.length=j+1∧∀y∈l,y<n∧cB n E v k y≠0∧cB n E v k y≤j+1
 |0,x,hx,h=>⟨[x],by simp,rfl,fun y hy=>by rw[List.mem_singleton]at hy;subst hy;omega⟩
 |j+1,x,hx,h=>by
  obtain⟨y,hy,_,h2⟩:=vE h;obtain⟨l,h3,h4,h5⟩:=rV j y hy h2;refine⟨x::l,List.nodup_cons.2 ⟨fun hm=> ?_,h3⟩,by rw[List.length_cons,h4],fun z hz=> ?_⟩
  ·have:=h5 x hm;omega
  ·rw[List.mem_cons]at hz;rcases hz with rfl|hz
   ·omega
   ·have:=h5 z hz;omega
theorem mF{k x:Nat}(hx:x<n):cB n E v k x≤n:=by
 cases h:cB n E v k x with
 |zero=>omega
 |succ j=>
  obtain⟨l,h1,h2,h3⟩:=rV j x hx h;have:=qH l (List.range n) h1 fun y hy=>List.mem_range.2 (h3 y hy).1;simp at this;omega
theorem BS{k x:Nat}(hx:x<n)(h:cB n E v k x=n){y:Nat}(hy:y<n):cB n E v k y≠0:=by
 intro h0;obtain⟨j,rfl⟩:∃j,n=j+1:=⟨n-1,by omega⟩;obtain⟨l,h1,h2,h3⟩:=rV j x hx h;have:=qH (y::l) (List.range (j+1)) (List.nodup_cons.2 ⟨fun hm=>(h3 y hm).2.1 h0,h1⟩) fun z hz=>by
  rw[List.mem_cons]at hz;rw[List.mem_range];rcases hz with rfl|hz
  ·exact hy
  ·exact(h3 z hz).1
 simp at this;omega
theorem Gx{d x:Nat}(hx:x<n):cB n E v (n-1+d) x=cB n E v (n-1) x:=by
 induction d with
 |zero=>rfl
 |succ d ih=>
  rw[show n-1+(d+1)=n-1+d+1 by omega];by_cases h0:cB n E v (n-1+d) x=0
  ·rw[qI h0];split
   ·rename_i hy;exfalso;rw[List.any_eq_true]at hy;obtain⟨y,hy,h3⟩:=hy;rw[Bool.and_eq_true]at h3;have h4:=of_decide_eq_true h3.2;have h5:=mF (n:=n) (E:=E) (v:=v) (k:=n-1+d) (List.mem_range.1 hy);exact BS (List.mem_range.1 hy) (show cB n E v (n-1+d) y=n by omega) hx h0
   ·omega
  ·rw[mD h0,ih]
theorem Ni{k:Nat}(h:∀x y,x<n→y<n→cB n E v k y=k+1→E x y=false)(d:Nat){x:Nat}(hx:x<n):cB n E v (k+d) x=cB n E v k x:=by
 induction d generalizing x with
 |zero=>rfl
 |succ d ih=>
  rw[show k+(d+1)=k+d+1 by omega];by_cases h0:cB n E v (k+d) x=0
  ·rw[qI h0];split
   ·rename_i hy;exfalso;rw[List.any_eq_true]at hy;obtain⟨y,hy,h3⟩:=hy;have hy:=List.mem_range.1 hy;rw[Bool.and_eq_true]at h3;have h4:=of_decide_eq_true h3.2;rw[ih hy]at h4;have h5:=yu (n:=n) (E:=E) (v:=v) k y;obtain rfl:d=0:=(by omega);rw[h x y hx hy (by omega)]at h3;exact absurd h3.1 (by decide)
   ·rw[←ih hx];exact h0.symm
  ·rw[mD h0,ih hx]
end
def bX(n:Nat)(E:aj)(v x:Nat):Nat:=cB n E v (n-1) x
theorem BU{n:Nat}{E:aj}{v k:Nat}(h:∀x y,x<n→y<n→cB n E v k y=k+1→E x y=false){x:Nat}(hx:x<n):cB n E v k x=bX n E v x:=by
 unfold bX;by_cases hk:k≤n-1
 ·have:=Ni h (n-1-k) hx;rw[show k+(n-1-k)=n-1 by omega]at this;exact this.symm
 ·have:=Gx (n:=n) (E:=E) (v:=v) (d:=k-(n-1)) hx;rw[show n-1+(k-(n-1))=k by omega]at this;exact this
theorem Ee{n:Nat}{E:aj}{v:Nat}:∀(j x:Nat),bX n E v x=j+1→∃l:List Nat,(∀a∈l,a<n)∧rU E x l v=true
 |0,x,h=>⟨[],by simp,Nh h⟩
 |j+1,x,h=>by
  obtain⟨y,hy,he,h2⟩:=vE (n:=n) (E:=E) (v:=v) h;obtain⟨l,hl,hw⟩:=Ee j y h2;exact⟨y::l,by simp;exact⟨hy,hl⟩,by show(E x y&&rU E y l v)=true;rw[he,hw];rfl⟩
theorem Ef{n:Nat}{E:aj}{v:Nat}:∀(l:List Nat) (x:Nat),x<n→(∀a∈l,a<n)→rU E x l v=true→bX n E v x≠0
 |[],x,hx,_,hw=>by
  have hw:E x v=true:=hw;unfold bX;rw[Kl hw];decide
 |a::l,x,hx,hl,hw=>by
  have hw:(E x a&&rU E a l v)=true:=hw;rw[Bool.and_eq_true]at hw;have ha:=hl a (by simp);have ih:=Ef l a ha (fun b hb=>hl b (by simp[hb])) hw.2;unfold bX at ih⊢;obtain⟨j,hj⟩:∃j,cB n E v (n-1) a=j+1:=⟨cB n E v (n-1) a-1,by omega⟩;have Dg:=mF (n:=n) (E:=E) (v:=v) (k:=n-1) ha;by_cases hjn:j+1=n
  ·exact BS ha (hj.trans hjn) hx
  ·exact Qa ha hw.1 hj (by omega)
def wY(n:Nat)(E:aj)(d:Nat→Nat)(x left:Nat):Option Nat:=(List.range n).find? fun y=>E x y&&decide (d y=left)
def oz(n:Nat)(E:aj)(d:Nat→Nat)(x:Nat):Nat→List Nat
 |0=>[]
 |l+1=>match wY n E d x (l+1)with
  |some y=>y::oz n E d y l
  |none=>[]
def fZ(n:Nat)(E:aj):List Nat:=match (List.range n).find? fun v=>bX n E v v !=0 with
 |none=>[]
 |some v=>v::oz n E (bX n E v) v (bX n E v v-1)
theorem rW{n:Nat}{E:aj}{v x l:Nat}(h:bX n E v x=l+2):∃y,wY n E (bX n E v) x (l+1)=some y∧y<n∧E x y=true∧bX n E v y=l+1:=by
 obtain⟨z,hz,he,h2⟩:=vE (n:=n) (E:=E) (v:=v) h;cases hf:wY n E (bX n E v) x (l+1)with
 |none=>
  unfold wY at hf;rw[List.find?_eq_none]at hf;exact absurd (by rw[he,Bool.true_and];exact decide_eq_true h2) (hf z (List.mem_range.2 hz))
 |some y=>
  have h1:=List.find?_some hf;have h3:=List.mem_of_find?_eq_some hf;rw[Bool.and_eq_true]at h1;exact⟨y,rfl,List.mem_range.1 h3,h1.1,of_decide_eq_true h1.2⟩
theorem rX{n:Nat}{E:aj}{d:Nat→Nat}{x y l:Nat}(h:wY n E d x (l+1)=some y):oz n E d x (l+1)=y::oz n E d y l:=by
 show(match wY n E d x (l+1)with|some y=>y::oz n E d y l|none=>[])=_;rw[h]
theorem BX{n:Nat}{E:aj}{v:Nat}:∀(l x:Nat),bX n E v x=l+1→(oz n E (bX n E v) x l).length=l
 |0,x,_=>rfl
 |l+1,x,h=>by
  obtain⟨y,h1,_,_,h4⟩:=rW h;rw[rX h1,List.length_cons,BX l y h4]
theorem Km{n:Nat}{E:aj}:fZ n E=[]↔AL n E=false:=by
 have hcl:∀v,v<n→(bX n E v v≠0↔xU n E v v=true):=fun v hv=>by
  constructor
  ·intro h;obtain⟨l,hl,hw⟩:=Ee (bX n E v v-1) v (show bX n E v v=_ by omega);exact vD n l.length l v v (Nat.le_refl _) hl hw
  ·intro h;obtain⟨l,hl,hw⟩:=ji n v v h;exact Ef l v hv hl hw
 unfold fZ AL;cases hf:(List.range n).find? fun v=>bX n E v v !=0 with
 |none=>
  rw[List.find?_eq_none]at hf;simp only[true_iff];rw[List.any_eq_false];intro v hv hc;exact hf v hv (by rw[bne_iff_ne];exact(hcl v (List.mem_range.1 hv)).2 hc)
 |some v=>
  have h1:=List.find?_some hf;have h2:=List.mem_of_find?_eq_some hf;rw[bne_iff_ne]at h1;constructor
  ·intro h;cases h
  ·intro h;rw[List.any_eq_false]at h;exact absurd ((hcl v (List.mem_range.1 h2)).1 h1) (h v h2)
theorem BZ{n:Nat}{E:aj}:(fZ n E).length≤n+1:=by
 unfold fZ;cases hf:(List.range n).find? fun v=>bX n E v v !=0 with
 |none=>simp
 |some v=>
  have h1:=List.find?_some hf;have hv:=List.mem_range.1 (List.mem_of_find?_eq_some hf);have h0:bX n E v v≠0:=(by simpa using h1);have hle:bX n E v v≤n:=mF hv;rw[List.length_cons,BX (bX n E v v-1) v (by omega)];omega
section
variable{H:List Txn}{l:List Cho}{x y:Nat}
end
def iL(H:List Txn)(level:Int)(l:List Cho):List Int:=(fZ H.length (dW H level l)).map fun(x:Nat)=>(x:Int)
structure Nod where
 c:Cho
 cyc:List Int
deriving DecidableEq
def dA:Cho:=⟨0,0,0⟩
def Eh:Fct:=⟨dA,0,0,0,[]⟩
def ay(L:List Fct):List Cho:=L.map (·.c)
theorem bN(L:List Fct):(ay L).length=L.length:=List.length_map ..
theorem Gy(L:List Fct)(f:Fct):ay (L++[f])=ay L++[f.c]:=by unfold ay;rw[List.map_append];rfl
theorem Gz(L:List Fct)(i:Nat):ay (L.take i)=(ay L).take i:=by unfold ay;rw[List.map_take]
def jk(H:List Txn)(level:Int)(L:List Fct)(n:Nat):Bool:=(List.range n).all fun i=>bQ H level (L.take i) (L.getD i Eh)
def eu(H:List Txn)(level:Int)(L:List Fct):Bool:=jk H level L L.length&&kI H level
theorem Ei(H:List Txn)(level:Int)(L:List Fct)(n:Nat):jk H level L (n+1)=(jk H level L n&&bQ H level (L.take n) (L.getD n Eh)):=by
 unfold jk;rw[List.range_succ,List.all_append];simp
theorem Kn{H:List Txn}{level:Int}{L:List Fct}{n i:Nat}(h:jk H level L n=true)(hi:i<n):bQ H level (L.take i) (L.getD i Eh)=true:=by
 unfold jk at h;rw[List.all_eq_true]at h;exact h i (List.mem_range.2 hi)
theorem Ko{H:List Txn}{level:Int}{L:List Fct}{n i:Nat}(h:bQ H level (L.take i) (L.getD i Eh)=false)(hi:i<n):jk H level L n=false:=by
 unfold jk;rw[List.all_eq_false];exact⟨i,List.mem_range.2 hi,by rw[h];decide⟩
theorem qJ{α:Type}{l:List α}{i:Nat}{d:α}(h:i<l.length):l.getD i d=l[i]:=by rw[List.getD_eq_getElem?_getD,List.getElem?_eq_getElem h];rfl
theorem Nj{H:List Txn}{level:Int}{L:List Fct}(h:eu H level L=true){i:Nat}(hi:i<L.length):bQ H level (L.take i) L[i]=true:=by
 unfold eu at h;rw[Bool.and_eq_true]at h;have:=Kn h.1 hi;rwa[qJ hi]at this
theorem dP{H:List Txn}{level:Int}{L:List Fct}(h:eu H level L=true):kI H level=true:=by
 unfold eu at h;rw[Bool.and_eq_true]at h;exact h.2
theorem gQ{H:List Txn}{level:Int}:kI H level=true↔aG H=true∧(level=0∨level=1):=by
 unfold kI;rw[Bool.and_eq_true,Bool.or_eq_true,decide_eq_true_eq,decide_eq_true_eq]
theorem holds_one{H:List Txn}{level:Int}{L:List Fct}{f:Fct}(h:bQ H level L f=true):dh H f.c=true:=by
 unfold bQ at h;simp only[Bool.and_eq_true]at h;exact h.1.1.2
theorem Ej{H:List Txn}{level:Int}{L:List Fct}(h:eu H level L=true):∀c∈ay L,dh H c=true:=fun c hc=>by
 unfold ay at hc;obtain⟨f,hf,rfl⟩:=List.mem_map.1 hc;obtain⟨i,hi,rfl⟩:=List.getElem_of_mem hf;exact holds_one (Nj h hi)
def El(H:List Txn)(level:Int)(L:List Fct)(i:Nat):Nod:=⟨dA,iL H level (ay (L.take i)++[bD (L.getD i Eh).c])⟩
def fU(H:List Txn)(level:Int)(L:List Fct)(tree:List Nod):List Nod:=
 L.map (fun f=>⟨f.c,[]⟩)++tree++(List.range L.length).map fun k=>El H level L (L.length-1-k)
def mG(H:List Txn)(l:List Cho):Option Cho:=(dD H).find? fun p=> !l.contains p&& !l.contains (bD p)
structure Say where
 said:Int
 order:List Nat
 tree:List Nod
 facts:List Fct
deriving DecidableEq
def vG:Say:=⟨3,[],[],[]⟩
def oC:Say:=⟨0,[],[],[]⟩
def TL(H:List Txn)(at' idle:Int):Bool:=aG H&&decide (0≤idle)&&decide (idle≤((dD H).length:Int))&&decide (0≤at')&&decide (at'<max ((dD H).length:Int) 1)
def JF(H:List Txn)(level:Int)(L:List Fct):Say:=
 match mG H (ay L)with
 |some _=>vG
 |none=>match fK H.length (dW H level (ay L))with
  |some o=>⟨1,o,[],[]⟩
  |none=>⟨2,[],fU H level L [⟨dA,iL H level (ay L)⟩],[]⟩
def TM(c:Cho)(x:Nat×Nat):Fct:=⟨c,2,(x.1:Int),(x.2:Int),[]⟩
def Vg(n:Nat):List (Nat×Nat):=((List.range n).map fun i=>(List.range n).map fun j=>(i,j)).flatten
def JG(H:List Txn)(level:Int)(L:List Fct)(c:Cho):Option Fct:=((Vg L.length).map (TM c)).find? (bQ H level L)
def GA(H:List Txn)(level:Int)(L:List Fct)(p:Cho):Say:=
 match JG H level L p with
 |some f=>⟨0,[],[],[f]⟩
 |none=>match JG H level L (bD p)with
  |some f=>⟨0,[],[],[f]⟩
  |none=>
   let a:=iL H level (ay L++[bD p])
   let b:=iL H level (ay L++[p])
   if a=[]then if b=[]then oC else⟨0,[],[],[⟨bD p,4,0,0,b⟩]⟩
   else if b=[]then⟨0,[],[],[⟨p,4,0,0,a⟩]⟩
   else⟨2,[],fU H level L [⟨p,[]⟩,⟨dA,b⟩,⟨dA,a⟩],[]⟩
def Em(H:List Txn)(level at' idle:Int)(L:List Fct):(Int×Int)×Say:=
 if TL H at' idle&&decide (L.length<20000)&&eu H level L then
  if idle=((dD H).length:Int)then((at',idle),JF H level L)
  else
   let p:=(dD H).getD at'.toNat dA
   let at2:Int:=(((at'.toNat+1)%(dD H).length:Nat):Int)
   if(ay L).contains p||(ay L).contains (bD p)then((at2,idle+1),oC)
   else
    let o:=GA H level L p
    ((at2,if o.facts=[]then idle+1 else 0),o)
 else((at',idle),vG)
theorem Kq(H:List Txn)(level:Int)(L:List Fct)(p:Cho):((GA H level L p).said=0∧(GA H level L p).facts.length≤1)∨((GA H level L p).said=2∧(GA H level L p).facts=[]):=by
 unfold GA;split
 ·exact .inl ⟨rfl,Nat.le_refl _⟩
 ·split
  ·exact .inl ⟨rfl,Nat.le_refl _⟩
  ·dsimp only;split
   ·split
    ·exact .inl ⟨rfl,Nat.zero_le _⟩
    ·exact .inl ⟨rfl,Nat.le_refl _⟩
   ·split
    ·exact .inl ⟨rfl,Nat.le_refl _⟩
    ·exact .inr ⟨rfl,rfl⟩
theorem GD(H:List Txn)(level:Int)(L:List Fct):(JF H level L).said≠0∧(JF H level L).facts=[]:=by
 unfold JF;split
 ·exact⟨by show(3:Int)≠0;decide,rfl⟩
 ·split
  ·exact⟨by show(1:Int)≠0;decide,rfl⟩
  ·exact⟨by show(2:Int)≠0;decide,rfl⟩
end Go.Inq
namespace Go.Proofs.YtpjechjoijjhpaaGreatDoor
open Go.RowKit Go.Inq
set_option maxHeartbeats 1000000
def vH(w:World)(K:Nat→Prop)(cs:List Value)(f:Fct):Prop:=∃A c,cs=[.int .i64 f.c.key,.int .i64 f.c.a,.int .i64 f.c.b,.int .i64 f.kind,.int .i64 f.i,.int .i64 f.j,.slice A f.cyc.length c]∧aM w K (.slice A f.cyc.length c) f.cyc
theorem vH.aS:jR vH:=fun _ _ _ _ _ _ h ha hk=>by
 obtain⟨A,c,h1,h2⟩:=h;exact⟨A,c,h1,aM.keep h2 ha hk⟩
def bM(w:World)(K:Nat→Prop)(v:Value)(l:List Fct):Prop:=SlR 7 vH w K v l
section
variable{w w':World}{K K':Nat→Prop}{v:Value}{l:List Fct}
theorem bM.keep(h:bM w K v l)(ha:Agree K w w')(hk:∀b,K b→K' b):bM w' K' v l:=SlR.keep vH.aS h ha hk
theorem bM.below(h:bM w (Old w) v l)(hb:Below w.heap.size w w'):bM w' (Old w') v l:=SlR.below vH.aS h hb
theorem bM.fit(h:bM w K v l)(hk:∀b,K b→K' b):bM w K' v l:=SlR.fit vH.aS h hk
theorem bM.nil(w:World)(K:Nat→Prop)(A:Option Addr)(c:Nat):bM w K (.slice A 0 c) []:=SlR.nil _ _ _ _ _ _
theorem bM.take{A:Option Addr}{n c:Nat}(h:bM w K (.slice A n c) l){k:Nat}(hk:k≤l.length):bM w K (.slice A k c) (l.take k):=SlR.take h hk
theorem bM.cap{A:Option Addr}{n c:Nat}(h:bM w K (.slice A n c) l):l.length≤c:=by
 obtain⟨_,_,e,h1⟩:=SlR.len h;simp only[Value.slice.injEq]at e;omega
structure TN(w:World)(K:Nat→Prop)(b o:Nat)(f:Fct)(Ay:Option Addr)(cy:Nat):Prop where
 d0:w.cell? ⟨b,o,none⟩=some (.int .i64 f.c.key)
 d1:w.cell? ⟨b,o+1,none⟩=some (.int .i64 f.c.a)
 d2:w.cell? ⟨b,o+2,none⟩=some (.int .i64 f.c.b)
 d3:w.cell? ⟨b,o+3,none⟩=some (.int .i64 f.kind)
 d4:w.cell? ⟨b,o+4,none⟩=some (.int .i64 f.i)
 d5:w.cell? ⟨b,o+5,none⟩=some (.int .i64 f.j)
 d6:w.cell? ⟨b,o+6,none⟩=some (.slice Ay f.cyc.length cy)
 cyc:aM w K (.slice Ay f.cyc.length cy) f.cyc
theorem bM.at_{A:Option Addr}{n c:Nat}(h:bM w K (.slice A n c) l){i:Nat}(hi:i<l.length):∃b off Ay cy,A=some ⟨b,off,none⟩∧K b∧TN w K b (off+i*7) l[i] Ay cy:=by
 obtain⟨b,off,cs,hA,hK,-,⟨Ay,cy,rfl,hy⟩,hc⟩:=SlR.at_ h hi;exact⟨b,off,Ay,cy,hA,hK,hc 0 _ rfl,hc 1 _ rfl,hc 2 _ rfl,hc 3 _ rfl,hc 4 _ rfl,hc 5 _ rfl,hc 6 _ rfl,hy⟩
end
def fu(w:World)(K:Nat→Prop)(cs:List Value)(n:Nod):Prop:=∃A c,cs=[.int .i64 n.c.key,.int .i64 n.c.a,.int .i64 n.c.b,.slice A n.cyc.length c]∧aM w K (.slice A n.cyc.length c) n.cyc
theorem fu.aS:jR fu:=fun _ _ _ _ _ _ h ha hk=>by
 obtain⟨A,c,h1,h2⟩:=h;exact⟨A,c,h1,aM.keep h2 ha hk⟩
def aY(w:World)(K:Nat→Prop)(v:Value)(l:List Nod):Prop:=SlR 4 fu w K v l
section
variable{w w':World}{K K':Nat→Prop}{v:Value}{l:List Nod}
theorem aY.keep(h:aY w K v l)(ha:Agree K w w')(hk:∀b,K b→K' b):aY w' K' v l:=SlR.keep fu.aS h ha hk
theorem aY.below(h:aY w (Old w) v l)(hb:Below w.heap.size w w'):aY w' (Old w') v l:=SlR.below fu.aS h hb
theorem aY.fit(h:aY w K v l)(hk:∀b,K b→K' b):aY w K' v l:=SlR.fit fu.aS h hk
theorem aY.nil(w:World)(K:Nat→Prop)(A:Option Addr)(c:Nat):aY w K (.slice A 0 c) []:=SlR.nil _ _ _ _ _ _
theorem aY.cap{A:Option Addr}{n c:Nat}(h:aY w K (.slice A n c) l):l.length≤c:=by
 obtain⟨_,_,e,h1⟩:=SlR.len h;simp only[Value.slice.injEq]at e;omega
structure TP(w:World)(K:Nat→Prop)(b o:Nat)(n:Nod)(Ay:Option Addr)(cy:Nat):Prop where
 d0:w.cell? ⟨b,o,none⟩=some (.int .i64 n.c.key)
 d1:w.cell? ⟨b,o+1,none⟩=some (.int .i64 n.c.a)
 d2:w.cell? ⟨b,o+2,none⟩=some (.int .i64 n.c.b)
 d3:w.cell? ⟨b,o+3,none⟩=some (.slice Ay n.cyc.length cy)
 cyc:aM w K (.slice Ay n.cyc.length cy) n.cyc
theorem aY.at_{A:Option Addr}{n c:Nat}(h:aY w K (.slice A n c) l){i:Nat}(hi:i<l.length):∃b off Ay cy,A=some ⟨b,off,none⟩∧K b∧TP w K b (off+i*4) l[i] Ay cy:=by
 obtain⟨b,off,cs,hA,hK,-,⟨Ay,cy,rfl,hy⟩,hc⟩:=SlR.at_ h hi;exact⟨b,off,Ay,cy,hA,hK,hc 0 _ rfl,hc 1 _ rfl,hc 2 _ rfl,hc 3 _ rfl,hy⟩
end
def tH(L:List Fct):Prop:=L.length≤1000000∧∀f∈L,f.cyc.length≤1000000
def tJ(l:List Nod):Prop:=l.length≤100000000∧∀n∈l,n.cyc.length≤1000000
end Go.Proofs.YtpjechjoijjhpaaGreatDoor
