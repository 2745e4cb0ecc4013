/-
  Words for memory that all texts of this family share: slices that read as lists, over a set of blocks; no program in sight.
-/
import Derived.WalkKit
import Derived.WalkSpells
import Derived.WalkLawsBesides
import Derived.Handy
import Derived.Deep.QuietTactic
import Derived.BigQuiet
import Derived.Deep.RegionHeld3
import Derived.Deep.DrawnRows
import Derived.Below
import Derived.Laws.OwnMore
import Derived.Deep.AppendLies
import Derived.Deep.Draws
import Derived.Laws.Rows
import Derived.Maps.AppendAt
import Derived.RegionTactic
import Derived.OwnWalk
import Derived.Deep.Light
import Derived.Deep.LoopGhost
import Derived.Deep.DeepCutAuto
import Derived.BigGuardPart
import Derived.StillTailTactics
import Derived.Deep.AppendSrc
import Derived.OrdersHeld
import Derived.StillTail
import Derived.Conc.Events
import Derived.Laws.AppendOwn
import Derived.Laws.Panics
import Derived.KernelRfl
import Derived.Lib.SlicesCompact
import Derived.Laws.BitsAllLaws
import Derived.Lib.TrailingZeros
set_option linter.unusedVariables false
set_option linter.unusedSimpArgs false
namespace Go.Inq
open Go Go.RowKit
theorem hide{p:Prop}(h:p):Hid p:=h
theorem bP{a b:Bool}(h:a=b):Ending.returned (.bool a)= .returned (.bool b):=by rw[h]
theorem dP{k:IntKind}{a b:Int}(h:a=b):Ending.returned (.int k a)= .returned (.int k b):=by rw[h]
def Agree(K:Nat→Prop)(w w':World):Prop:=∀b,K b→w'.heap[b]?=w.heap[b]?
section
variable{K K':Nat→Prop}{w w' w'':World}
theorem Agree.refl(K:Nat→Prop)(w:World):Agree K w w:=fun _ _=>rfl
theorem Agree.trans(h:Agree K w w')(h':Agree K w' w''):Agree K w w'':=fun b hb=>(h' b hb).trans (h b hb)
theorem Agree.mono(h:Agree K w w')(hk:∀b,K' b→K b):Agree K' w w':=fun b hb=>h b (hk b hb)
theorem Agree.cell(h:Agree K w w'){p:Addr}(hp:K p.block):w'.cell? p=w.cell? p:=World.cell?_of_block (h _ hp)
theorem Agree.frozen(h:Agree K w w'){p:Addr}(hp:K p.block):w'.frozen? p=w.frozen? p:=World.frozen?_of_block (h _ hp)
theorem Agree.drew(K:Nat→Prop)(w:World):Agree K w w.drew:=fun _ _=>rfl
theorem Agree.drewN(K:Nat→Prop)(w:World)(n:Nat):Agree K w (w.drewN n):=fun _ _=>rfl
theorem Agree.alloc(hk:∀b,K b→b<w.heap.size)(o:Obj):Agree K w (w.alloc o):=fun b hb=>Below.heap_alloc w o b (hk b hb)
theorem Agree.setCell(p:Addr)(hk:¬K p.block)(u:Value):Agree K w (w.setCell p u):=
 fun b hb=>Below.heap_setCell w p u b (fun e=>hk (e▸hb))
theorem Agree.below{B:Nat}(h:Below B w w')(hk:∀b,K b→b<B):Agree K w w':=fun b hb=>h.block b (hk b hb)
theorem Agree.grown{row:Option Nat}(h:w.grownBy w' row)(hk:∀b,K b→b<w.heap.size∧some b≠row):Agree K w w':=fun b hb=>h.block b (hk b hb).1 (hk b hb).2
end
def SlR{α:Type}(size:Nat)(R:World→(Nat→Prop)→List Value→α→Prop)(w:World)(K:Nat→Prop)(v:Value)(l:List α):Prop:=
 ∃(A:Option Addr) (c:Nat) (xs:List (List Value)),v= .slice A l.length c∧l.length≤c∧xs.length=l.length∧
  (∀(i:Nat) cs x,xs[i]?=some cs→l[i]?=some x→cs.length=size∧R w K cs x)∧
  (0<l.length→∃b off,A=some ⟨b,off,none⟩∧K b∧∀(i j:Nat) cs u,xs[i]?=some cs→cs[j]?=some u→w.cell? ⟨b,off+i*size+j,none⟩=some u)
def jD{α:Type}(R:World→(Nat→Prop)→List Value→α→Prop):Prop:=
 ∀w w' K K' cs x,R w K cs x→Agree K w w'→(∀b,K b→K' b)→R w' K' cs x
theorem SlR.keep {α:Type} {size:Nat} {R:World→(Nat→Prop)→List Value→α→Prop} (hR:jD R) {w w':World} {K K':Nat→Prop} {v:Value} {l:List α}
 (h:SlR size R w K v l) (ha:Agree K w w') (hk:∀b,K b→K' b):SlR size R w' K' v l:=by
 obtain⟨A,c,xs,hv,hc,hl,he,hm⟩:=h;refine⟨A,c,xs,hv,hc,hl,fun i cs x h1 h2=>⟨(he i cs x h1 h2).1,hR _ _ _ _ _ _ (he i cs x h1 h2).2 ha hk⟩,fun h0=> ?_⟩;obtain⟨b,off,hA,hb,hcell⟩:=hm h0;exact⟨b,off,hA,hk b hb,fun i j cs u h1 h2=>(ha.cell (p:=⟨b,off+i*size+j,none⟩) hb).trans (hcell i j cs u h1 h2)⟩
def Old(w:World):Nat→Prop:=fun b=>b<w.heap.size
theorem SlR.below {α:Type} {size:Nat} {R:World→(Nat→Prop)→List Value→α→Prop} (hR:jD R) {w w':World} {v:Value} {l:List α}
 (h:SlR size R w (Old w) v l) (hb:Below w.heap.size w w'):SlR size R w' (Old w') v l:=
 h.keep hR (Agree.below hb fun _ h=>h) fun _ h=>Nat.lt_of_lt_of_le h hb.size
theorem SlR.fit {α:Type} {size:Nat} {R:World→(Nat→Prop)→List Value→α→Prop} (hR:jD R) {w:World} {K K':Nat→Prop} {v:Value} {l:List α}
 (h:SlR size R w K v l) (hk:∀b,K b→K' b):SlR size R w K' v l:=h.keep hR (Agree.refl _ _) hk
def Flat{α:Type}(enc:α→List Value):World→(Nat→Prop)→List Value→α→Prop:=fun _ _ cs x=>cs=enc x
theorem Flat.bE{α:Type}(enc:α→List Value):jD (Flat enc):=fun _ _ _ _ _ _ h _ _=>h
theorem SlR.len{α:Type}{size:Nat}{R:World→(Nat→Prop)→List Value→α→Prop}{w:World}{K:Nat→Prop}{v:Value}{l:List α}(h:SlR size R w K v l):
 ∃A c,v= .slice A l.length c∧l.length≤c:=by
 obtain⟨A,c,xs,hv,hc,_⟩:=h;exact⟨A,c,hv,hc⟩
theorem SlR.nil{α:Type}(size:Nat)(R:World→(Nat→Prop)→List Value→α→Prop)(w:World)(K:Nat→Prop)(c:Nat)(A:Option Addr):SlR size R w K (.slice A 0 c) ([]:List α):=
 ⟨A,c,[],rfl,Nat.zero_le _,rfl,fun i cs x h=>by simp at h,fun h=>by simp at h⟩
theorem SlR.at_{α:Type}{size:Nat}{R:World→(Nat→Prop)→List Value→α→Prop}{w:World}{K:Nat→Prop}{A:Option Addr}{n c:Nat}{l:List α}(h:SlR size R w K (.slice A n c) l){i:Nat}(hi:i<l.length):
 ∃b off cs,A=some ⟨b,off,none⟩∧K b∧cs.length=size∧R w K cs l[i]∧∀(j:Nat) u,cs[j]?=some u→w.cell? ⟨b,off+i*size+j,none⟩=some u:=by
 obtain⟨A',c',xs,hv,hc,hl,he,hm⟩:=h;obtain⟨b,off,hA,hb,hcell⟩:=hm (by omega);injection hv with h1 h2 h3
 have hx:xs[i]?=some (xs[i]'(by omega)):=List.getElem?_eq_getElem (by omega);have:=he i _ l[i] hx (List.getElem?_eq_getElem hi);exact⟨b,off,xs[i]'(by omega),by rw[h1,hA],hb,this.1,this.2,fun j u hj=>hcell i j _ u hx hj⟩
theorem SlR.cells{α:Type}{size:Nat}{R:World→(Nat→Prop)→List Value→α→Prop}{w:World}{K:Nat→Prop}{b off n c:Nat}{l:List α}(h:SlR size R w K (.slice (some ⟨b,off,none⟩) n c) l){i:Nat}(hi:i<l.length):
 ∃cs,K b∧cs.length=size∧R w K cs l[i]∧∀(j:Nat) u,cs[j]?=some u→w.cell? ⟨b,off+i*size+j,none⟩=some u:=by
 obtain⟨b',off',cs,hA,h1,h2,h3,h4⟩:=h.at_ hi;injection hA with hA
 injection hA with hb ho
 subst hb ho;exact⟨cs,h1,h2,h3,h4⟩
theorem SlR.take{α:Type}{size:Nat}{R:World→(Nat→Prop)→List Value→α→Prop}{w:World}{K:Nat→Prop}{A:Option Addr}{n c:Nat}{l:List α}(h:SlR size R w K (.slice A n c) l){k:Nat}(hk:k≤l.length):
 SlR size R w K (.slice A k c) (l.take k):=by
 obtain⟨A',c',xs,hv,hc,hl,he,hm⟩:=h;injection hv with h1 h2 h3
 subst h1 h3;have hlk:(l.take k).length=k:=(by rw[List.length_take];omega);refine⟨A,c,xs.take k,by rw[hlk],by omega,by rw[List.length_take,List.length_take];omega,fun i cs x h1 h2=> ?_,fun h0=> ?_⟩
 ·rw[List.getElem?_take]at h1 h2;split at h1
  ·rename_i hik;rw[if_pos hik]at h2;exact he i cs x h1 h2
  ·cases h1
 ·obtain⟨b,off,hA,hb,hcell⟩:=hm (by omega);refine⟨b,off,hA,hb,fun i j cs u h1 h2=> ?_⟩;rw[List.getElem?_take]at h1;split at h1
  ·exact hcell i j cs u h1 h2
  ·cases h1
theorem SlR.drop{α:Type}{size:Nat}{R:World→(Nat→Prop)→List Value→α→Prop}{w:World}{K:Nat→Prop}{A:Option Addr}{n c:Nat}{l:List α}(h:SlR size R w K (.slice A n c) l){k:Nat}(hk:k≤l.length):
 SlR size R w K (.slice (if c=k then A else A.map (·.add (k*size))) (n-k) (c-k)) (l.drop k):=by
 obtain⟨A',c',xs,hv,hc,hl,he,hm⟩:=h;injection hv with h1 h2 h3
 subst h1 h3;have hlk:(l.drop k).length=l.length-k:=List.length_drop;refine⟨_,_,xs.drop k,by rw[hlk,h2],by rw[hlk];omega,by rw[List.length_drop,List.length_drop,hl],fun i cs x h1 h2=> ?_,fun h0=> ?_⟩
 ·rw[List.getElem?_drop]at h1 h2;exact he _ cs x h1 h2
 ·rw[hlk]at h0;obtain⟨b,off,hA,hb,hcell⟩:=hm (by omega);rw[if_neg (by omega),hA];refine⟨b,off+k*size,?_,hb,fun i j cs u h1 h2=> ?_⟩
  ·simp only[Option.map_some,Addr.add];split
   ·rename_i h0;rw[h0];rfl
   ·rfl
  ·rw[List.getElem?_drop]at h1;have:=hcell (k+i) j cs u h1 h2;rw[Nat.add_mul,←Nat.add_assoc]at this;exact this
theorem SlR.mq {α:Type} {size:Nat} {R:World→(Nat→Prop)→List Value→α→Prop} {w:World} {K:Nat→Prop} {base:Nat} {e:TypeId} {v:Value} {n:Nat} {xs:List Value} {l:List α} {ys:List (List Value)}
 (h:w.ownsRow base e size v n xs) (hn:n=l.length) (hx:xs=ys.flatten) (hy:ys.length=l.length) (he:∀(i:Nat) cs x,ys[i]?=some cs→l[i]?=some x→cs.length=size∧R w K cs x)
 (hK:∀g,v.ownBlock=some g→K g):SlR size R w K v l:=by
 have hcell:∀g,v.ownBlock=some g→∀j u,xs[j]?=some u→w.cell? ⟨g,j,none⟩=some u:=by
  intro g hg j u hu;have:=h.cells hg j u hu;rwa[show(⟨g,0,none⟩:Addr).add j=⟨g,j,none⟩ by unfold Addr.add;split<;>simp_all]at this
 have Pz:∀(ys:List (List Value)) (i j:Nat) cs u,(∀(i:Nat) cs,ys[i]?=some cs→cs.length=size)→ys[i]?=some cs→cs[j]?=some u→ys.flatten[i*size+j]?=some u:=by
  intro ys
  induction ys with
  |nil=>intro i j cs u _ h;simp at h
  |cons y ys ih=>
   intro i j cs u hs h1 h2;have hy:=hs 0 y rfl;cases i with
   |zero=>
    simp at h1;subst h1;have hj:j<y.length:=by
     rcases Nat.lt_or_ge j y.length with h|h
     ·exact h
     ·rw[List.getElem?_eq_none h]at h2;cases h2
    rw[List.flatten_cons,List.getElem?_append_left (by omega)];simpa using h2
   |succ i=>
    simp at h1;rw[List.flatten_cons,List.getElem?_append_right (by rw[hy,Nat.add_mul];omega),hy,show(i+1)*size+j-size=i*size+j by rw[Nat.add_mul];omega];exact ih i j cs u (fun i cs h=>hs (i+1) cs (by simpa using h)) h1 h2
 have hsz:∀(i:Nat) cs,ys[i]?=some cs→cs.length=size:=by
  intro i cs h1;have hi:i<l.length:=by
   rw[←hy];rcases Nat.lt_or_ge i ys.length with h|h
   ·exact h
   ·rw[List.getElem?_eq_none h]at h1;cases h1
  exact(he i cs l[i] h1 (List.getElem?_eq_getElem hi)).1
 rcases h.2 with⟨hv,h0⟩|⟨g,cap,cur,hv,hg,hh,hn',hcap,hcs,htake⟩
 ·subst hv;have:l=[]:=List.eq_nil_of_length_eq_zero (by omega);subst this;exact SlR.nil _ _ _ _ _ _
 ·refine⟨some ⟨g,0,none⟩,cap,ys,by rw[hv,hn],by omega,hy,he,fun _=>⟨g,0,rfl,hK g (by rw[hv];rfl),fun i j cs u h1 h2=> ?_⟩⟩;rw[Nat.zero_add];exact hcell g (by rw[hv];rfl) _ u (by rw[hx];exact Pz ys i j cs u hsz h1 h2)
theorem SlR.of_flat {α:Type} {size:Nat} {enc:α→List Value} {w:World} {K:Nat→Prop} {base:Nat} {e:TypeId} {v:Value} {n:Nat} {l:List α}
 (h:w.ownsRow base e size v n (l.map enc).flatten) (hn:n=l.length) (hs:∀x,(enc x).length=size) (hK:∀g,base≤g→g<w.heap.size→K g):SlR size (Flat enc) w K v l:=by
 refine SlR.mq (ys:=l.map enc) h hn rfl (by simp) (fun i cs x h1 h2=> ?_) (fun g hg=>hK g (h.lt g hg).1 (h.lt g hg).2);rw[List.getElem?_map,h2]at h1;injection h1 with h1
 exact⟨by rw[←h1];exact hs x,h1.symm⟩
def Blk(w:World)(g:Nat)(t:TypeId)(cs:Array Value):Prop:=w.heap[g]?=some (.cells cs t (0,0))
section
variable{w w':World}{g:Nat}{t:TypeId}{cs:Array Value}
theorem Blk.lt(h:Blk w g t cs):g<w.heap.size:=by
 rcases Nat.lt_or_ge g w.heap.size with hlt|hge
 ·exact hlt
 ·unfold Blk at h;rw[Array.getElem?_eq_none hge]at h;cases h
theorem Blk.cell(h:Blk w g t cs)(i:Nat):w.cell? ⟨g,i,none⟩=cs[i]?:=cell_of_row w g i cs t (0,0) h
theorem Blk.frozen(h:Blk w g t cs)(i:Nat):w.frozen? ⟨g,i,none⟩=false:=by
 unfold Blk at h;simp[World.frozen?,h]
theorem Blk.new(w:World)(t:TypeId)(cs:Array Value):Blk (w.alloc (.cells cs t)) w.heap.size t cs:=heap_alloc_new w _
theorem Blk.drew(h:Blk w g t cs):Blk w.drew g t cs:=h
theorem Blk.drewN(h:Blk w g t cs)(n:Nat):Blk (w.drewN n) g t cs:=h
theorem Blk.alloc(h:Blk w g t cs)(o:Obj):Blk (w.alloc o) g t cs:=(Below.heap_alloc w o g h.lt).trans h
theorem Blk.aD(h:Blk w g t cs)(i:Nat)(u:Value):Blk (w.setCell ⟨g,i,none⟩ u) g t (cs.setIfInBounds i u):=by
 unfold Blk at h⊢;simp[World.setCell,Array.getElem?_modify,h]
theorem Blk.far(h:Blk w g t cs){p:Addr}(hp:g≠p.block)(u:Value):Blk (w.setCell p u) g t cs:=(Below.heap_setCell w p u g hp).trans h
theorem Blk.below{B:Nat}(h:Blk w g t cs)(hb:Below B w w')(hg:g<B):Blk w' g t cs:=(hb.block g hg).trans h
theorem Blk.grown{row:Option Nat}(h:Blk w g t cs)(hb:w.grownBy w' row)(hg:some g≠row):Blk w' g t cs:=(hb.block g h.lt hg).trans h
theorem Blk.agree{K:Nat→Prop}(h:Blk w g t cs)(ha:Agree K w w')(hg:K g):Blk w' g t cs:=(ha g hg).trans h
theorem own_below{base B:Nat}{e:TypeId}{size n:Nat}{v:Value}{xs:List Value}(h:w.ownsRow base e size v n xs)(hb:Below B w w')(hB:w.heap.size≤B):w'.ownsRow base e size v n xs:=
 h.kept (row:=none) ⟨hb.os,hb.tape,hb.output,hb.size,fun k hk _=>hb.block k (by omega)⟩ (by cases v.ownBlock<;>simp)
theorem nU{base:Nat}{e:TypeId}{size n:Nat}{v:Value}{xs:List Value}(h:w.ownsRow base e size v n xs){p:Addr}(hp:v.ownBlock≠some p.block)(u:Value):(w.setCell p u).ownsRow base e size v n xs:=by
 refine⟨h.1,?_⟩;rcases h.2 with h2|⟨g,cap,cur,hv,hg,hh,r⟩
 ·exact .inl h2
 ·refine .inr ⟨g,cap,cur,hv,hg,?_,r⟩;rw[Below.heap_setCell _ _ _ _ (fun e=>hp (by rw[hv];simp[Value.ownBlock,e]))];exact hh
theorem bY{base:Nat}{e:TypeId}{size n:Nat}{v:Value}{xs:List Value}(h:w.ownsRow base e size v n xs):∃A c,v= .slice A n c:=by
 rcases h.2 with⟨h1,h2⟩|⟨g,cap,cur,hv,_⟩
 ·subst h2;exact⟨none,0,h1⟩
 ·exact⟨_,_,hv⟩
theorem own_drewN{base:Nat}{e:TypeId}{size n:Nat}{v:Value}{xs:List Value}(h:w.ownsRow base e size v n xs)(k:Nat):(w.drewN k).ownsRow base e size v n xs:=h
end
theorem take_snoc'{α:Type}{l:List α}{k:Nat}(h:k<l.length):l.take (k+1)=l.take k++[l[k]]:=by rw[List.take_succ_eq_append_getElem h]
theorem gA{α:Type}{l:List α}{i:Nat}:l.toArray[i]?=l[i]?:=List.getElem?_toArray ..
theorem gZ{α:Type}{a:α}{l:List α}:(a::l)[0]?=some a:=List.getElem?_cons_zero ..
theorem gS{α:Type}{a:α}{l:List α}{i:Nat}:(a::l)[i+1]?=l[i]?:=List.getElem?_cons_succ ..
theorem sA{α:Type}{l:List α}{i:Nat}{a:α}:l.toArray.setIfInBounds i a=(l.set i a).toArray:=List.setIfInBounds_toArray ..
theorem sZ{α:Type}{a b:α}{l:List α}:(a::l).set 0 b=b::l:=List.set_cons_zero ..
theorem sS{α:Type}{a b:α}{l:List α}{n:Nat}:(a::l).set (n+1) b=a::l.set n b:=List.set_cons_succ ..
theorem Blk.n0{w:World}{g:Nat}{t:TypeId}{x0:Value}{l:List Value}(h:Blk w g t (x0::l).toArray):w.cell? ⟨g,0,none⟩=some x0:=h.cell 0
theorem Blk.n1{w:World}{g:Nat}{t:TypeId}{x0 x1:Value}{l:List Value}(h:Blk w g t (x0::x1::l).toArray):w.cell? ⟨g,1,none⟩=some x1:=h.cell 1
theorem Blk.n2{w:World}{g:Nat}{t:TypeId}{x0 x1 x2:Value}{l:List Value}(h:Blk w g t (x0::x1::x2::l).toArray):w.cell? ⟨g,2,none⟩=some x2:=h.cell 2
theorem Blk.n3{w:World}{g:Nat}{t:TypeId}{x0 x1 x2 x3:Value}{l:List Value}(h:Blk w g t (x0::x1::x2::x3::l).toArray):w.cell? ⟨g,3,none⟩=some x3:=h.cell 3
theorem Blk.n4{w:World}{g:Nat}{t:TypeId}{x0 x1 x2 x3 x4:Value}{l:List Value}(h:Blk w g t (x0::x1::x2::x3::x4::l).toArray):w.cell? ⟨g,4,none⟩=some x4:=h.cell 4
theorem Blk.n5{w:World}{g:Nat}{t:TypeId}{x0 x1 x2 x3 x4 x5:Value}{l:List Value}(h:Blk w g t (x0::x1::x2::x3::x4::x5::l).toArray):w.cell? ⟨g,5,none⟩=some x5:=h.cell 5
theorem Blk.n6{w:World}{g:Nat}{t:TypeId}{x0 x1 x2 x3 x4 x5 x6:Value}{l:List Value}(h:Blk w g t (x0::x1::x2::x3::x4::x5::x6::l).toArray):w.cell? ⟨g,6,none⟩=some x6:=h.cell 6
theorem Blk.n7{w:World}{g:Nat}{t:TypeId}{x0 x1 x2 x3 x4 x5 x6 x7:Value}{l:List Value}(h:Blk w g t (x0::x1::x2::x3::x4::x5::x6::x7::l).toArray):w.cell? ⟨g,7,none⟩=some x7:=h.cell 7
theorem Blk.n8{w:World}{g:Nat}{t:TypeId}{x0 x1 x2 x3 x4 x5 x6 x7 x8:Value}{l:List Value}(h:Blk w g t (x0::x1::x2::x3::x4::x5::x6::x7::x8::l).toArray):w.cell? ⟨g,8,none⟩=some x8:=h.cell 8
theorem Blk.n9{w:World}{g:Nat}{t:TypeId}{x0 x1 x2 x3 x4 x5 x6 x7 x8 x9:Value}{l:List Value}(h:Blk w g t (x0::x1::x2::x3::x4::x5::x6::x7::x8::x9::l).toArray):w.cell? ⟨g,9,none⟩=some x9:=h.cell 9
structure Ev where
 kind:Int
 bL:Int
 key:Int
 val:Int
deriving DecidableEq
def Ev.enc(e:Ev):List Value:=[.int .i64 e.kind,.int .i64 e.bL,.int .i64 e.key,.int .i64 e.val]
def eG(n m:Int):Bool:=decide (0≤n)&&decide (n<m)
def PD(k:Int):Bool:=k==1||k==2
def Ev.right(e:Ev):Bool:=eG e.kind 5&&eG e.bL 8&&(if PD e.kind then eG e.key 16&&eG e.val 2147483648 else e.key==0&&e.val==0)
def EvS(w:World)(K:Nat→Prop)(v:Value)(l:List Ev):Prop:=SlR 4 (Flat Ev.enc) w K v l
theorem EvS.keep{w w':World}{K K':Nat→Prop}{v:Value}{l:List Ev}(h:EvS w K v l)(ha:Agree K w w')(hk:∀b,K b→K' b):EvS w' K' v l:=
 SlR.keep (Flat.bE _) h ha hk
theorem EvS.at_{w:World}{K:Nat→Prop}{A:Option Addr}{n c:Nat}{l:List Ev}(h:EvS w K (.slice A n c) l){i:Nat}(hi:i<l.length):
 ∃b off,A=some ⟨b,off,none⟩∧K b∧w.cell? ⟨b,off+i*4,none⟩=some (.int .i64 l[i].kind)∧w.cell? ⟨b,off+i*4+1,none⟩=some (.int .i64 l[i].bL)∧
  w.cell? ⟨b,off+i*4+2,none⟩=some (.int .i64 l[i].key)∧w.cell? ⟨b,off+i*4+3,none⟩=some (.int .i64 l[i].val):=by
 obtain⟨b,off,cs,hA,hK,_,hR,hc⟩:=SlR.at_ h hi;unfold Flat at hR;subst hR;exact⟨b,off,hA,hK,hc 0 _ rfl,hc 1 _ rfl,hc 2 _ rfl,hc 3 _ rfl⟩
theorem EvS.below{w w':World}{v:Value}{l:List Ev}(h:EvS w (Old w) v l)(hb:Below w.heap.size w w'):EvS w' (Old w') v l:=SlR.below (Flat.bE _) h hb
theorem EvS.fit{w:World}{K K':Nat→Prop}{v:Value}{l:List Ev}(h:EvS w K v l)(hk:∀b,K b→K' b):EvS w K' v l:=SlR.fit (Flat.bE _) h hk
theorem EvS.cells{w:World}{K:Nat→Prop}{b off n c:Nat}{l:List Ev}(h:EvS w K (.slice (some ⟨b,off,none⟩) n c) l){i:Nat}(hi:i<l.length):
 K b∧w.cell? ⟨b,off+i*4,none⟩=some (.int .i64 l[i].kind)∧w.cell? ⟨b,off+i*4+1,none⟩=some (.int .i64 l[i].bL)∧
  w.cell? ⟨b,off+i*4+2,none⟩=some (.int .i64 l[i].key)∧w.cell? ⟨b,off+i*4+3,none⟩=some (.int .i64 l[i].val):=by
 obtain⟨cs,hK,_,hR,hc⟩:=SlR.cells h hi;unfold Flat at hR;subst hR;exact⟨hK,hc 0 _ rfl,hc 1 _ rfl,hc 2 _ rfl,hc 3 _ rfl⟩
structure It where
 a:Int
 b:Int
deriving DecidableEq
def It.enc(e:It):List Value:=[.int .i64 e.a,.int .i64 e.b]
def ItS(w:World)(K:Nat→Prop)(v:Value)(l:List It):Prop:=SlR 2 (Flat It.enc) w K v l
theorem ItS.keep{w w':World}{K K':Nat→Prop}{v:Value}{l:List It}(h:ItS w K v l)(ha:Agree K w w')(hk:∀b,K b→K' b):ItS w' K' v l:=
 SlR.keep (Flat.bE _) h ha hk
theorem ItS.below{w w':World}{v:Value}{l:List It}(h:ItS w (Old w) v l)(hb:Below w.heap.size w w'):ItS w' (Old w') v l:=SlR.below (Flat.bE _) h hb
theorem ItS.fit{w:World}{K K':Nat→Prop}{v:Value}{l:List It}(h:ItS w K v l)(hk:∀b,K b→K' b):ItS w K' v l:=SlR.fit (Flat.bE _) h hk
theorem ItS.cells{w:World}{K:Nat→Prop}{b off n c:Nat}{l:List It}(h:ItS w K (.slice (some ⟨b,off,none⟩) n c) l){i:Nat}(hi:i<l.length):
 K b∧w.cell? ⟨b,off+i*2,none⟩=some (.int .i64 l[i].a)∧w.cell? ⟨b,off+i*2+1,none⟩=some (.int .i64 l[i].b):=by
 obtain⟨cs,hK,_,hR,hc⟩:=SlR.cells h hi;unfold Flat at hR;subst hR;exact⟨hK,hc 0 _ rfl,hc 1 _ rfl⟩
theorem ItS.at_{w:World}{K:Nat→Prop}{A:Option Addr}{n c:Nat}{l:List It}(h:ItS w K (.slice A n c) l){i:Nat}(hi:i<l.length):
 ∃b off,A=some ⟨b,off,none⟩∧K b∧w.cell? ⟨b,off+i*2,none⟩=some (.int .i64 l[i].a)∧w.cell? ⟨b,off+i*2+1,none⟩=some (.int .i64 l[i].b):=by
 obtain⟨b,off,cs,hA,hK,_,hR,hc⟩:=SlR.at_ h hi;unfold Flat at hR;subst hR;exact⟨b,off,hA,hK,hc 0 _ rfl,hc 1 _ rfl⟩
def PE(l:List Ev)(k:Int):Int:=((l[k.toNat]?).map (·.val)).getD 0
def JY(key:Int):List Ev→Nat→Int
 |[],_=> -1
 |x::r,k=>if x.key=key then k else JY key r (k+1)
def D7(l:List Ev)(key:Int)(k:Nat):Int:=JY key (l.drop k) k
def Oa(l:List Ev)(k:Int):Int:=((l[k.toNat]?).map (·.kind)).getD 0
def Ob(l:List Ev)(key:Int):Option It:=if 0≤D7 l key 0∧Oa l (D7 l key 0)=1 then some ⟨key,PE l (D7 l key 0)⟩else none
def cZ(l:List Ev)(n:Nat):List It:=(List.range n).filterMap fun(k:Nat)=>Ob l (k:Int)
theorem nV(l:List Ev)(n:Nat):(cZ l n).length≤n:=by
 unfold cZ;exact Nat.le_trans (List.length_filterMap_le _ _) (by simp)
structure Tx where
 bL:Int
 done:Bool
 first:Int
 ops:List Ev
structure Txn where
 bL:Int
 writes:List Int
 reads:List It
deriving DecidableEq
def isW(x:It)(e:Ev):Bool:=e.kind==2&&e.key==x.a&&e.val==x.b
def wr(ops:List Ev)(many:Nat)(x:It):Nat:=((ops.take many).filter (isW x)).length
def JZ:List Tx→Int→Option Nat
 |[],_=>none
 |t::r,s=>match JZ r s with
  |some k=>some (k+1)
  |none=>if t.bL=s then some 0 else none
structure Grp where
 out:List Tx
 opn:List Bool
def Grp.at_(g:Grp)(s:Int):Option Nat:=match JZ g.out s with
 |some k=>if g.opn[k]?=some true then some k else none
 |none=>none
def PG(t:Tx)(e:Ev):Tx:={t with ops:=t.ops++[e]}
def PI(t:Tx)(b:Bool):Tx:={t with done:=b}
def PK:Tx:=⟨0,false,0,[]⟩
def Grp.next(g:Grp)(i:Nat)(e:Ev):Grp:=
 if e.kind=0 then⟨g.out++[⟨e.bL,false,i,[]⟩],g.opn++[true]⟩
 else match g.at_ e.bL with
  |none=>g
  |some k=>if e.kind=1∨e.kind=2 then⟨g.out.set k (PG (g.out[k]?.getD PK) e),g.opn⟩
   else⟨g.out.set k (PI (g.out[k]?.getD PK) (decide (e.kind=3))),g.opn.set k false⟩
def jE(l:List Int):Int:=(l.getLast?).getD (-1)
theorem GU:jE []= -1:=rfl
theorem mD(l:List Int)(k:Int):jE (l++[k])=k:=by simp[jE]
def wF(l:List Int)(j:Nat):Bool:=match l[j]? with|some k=>decide (jE (l.take j)<k)&&decide (k<16)|none=>true
theorem zf{l:List Int}{j:Nat}(h:j<l.length):wF l j=(decide (jE (l.take j)<l[j])&&decide (l[j]<16)):=by
 unfold wF;rw[List.getElem?_eq_getElem h]
def wFs(l:List Int)(n:Nat):List Bool:=(List.range n).map (wF l)
theorem rR(l:List Int)(n:Nat):wFs l (n+1)=wFs l n++[wF l n]:=by unfold wFs;rw[List.range_succ,List.map_append];rfl
def J2(H:List Txn)(i:Int):List Int:=((H[i.toNat]?).map (·.writes)).getD []
def jh(H:List Txn)(n:Nat)(x:It):Bool:=x.b== -1||(decide (0≤x.b)&&decide (x.b<(H.length:Int))&&x.b !=(n:Int)&&(J2 H x.b).contains x.a)
def rF(H:List Txn)(n:Nat)(l:List It)(j:Nat):Bool:=match l[j]? with|some x=>decide (jE ((l.take j).map (·.a))<x.a)&&decide (x.a<16)&&jh H n x|none=>true
theorem J3{H:List Txn}{n:Nat}{l:List It}{j:Nat}(h:j<l.length):rF H n l j=(decide (jE ((l.take j).map (·.a))<l[j].a)&&decide (l[j].a<16)&&jh H n l[j]):=by
 unfold rF;rw[List.getElem?_eq_getElem h]
def rFs(H:List Txn)(m:Nat)(l:List It)(n:Nat):List Bool:=(List.range n).map (rF H m l)
theorem wJ(H:List Txn)(m:Nat)(l:List It)(n:Nat):rFs H m l (n+1)=rFs H m l n++[rF H m l n]:=by unfold rFs;rw[List.range_succ,List.map_append];rfl
def txF(H:List Txn)(n:Nat):List Bool:=match H[n]? with
 |some t=>wFs t.writes t.writes.length++rFs H n t.reads t.reads.length++[eG t.bL 8]
 |none=>[]
theorem tZ{H:List Txn}{n:Nat}(h:n<H.length):txF H n=wFs H[n].writes H[n].writes.length++rFs H n H[n].reads H[n].reads.length++[eG H[n].bL 8]:=by
 unfold txF;rw[List.getElem?_eq_getElem h]
def iY(H:List Txn)(n:Nat):List Bool:=((List.range n).map (txF H)).flatten
theorem qx(H:List Txn)(n:Nat):iY H (n+1)=iY H n++txF H n:=by
 unfold iY;rw[List.range_succ,List.map_append,List.flatten_append];simp
def fu(H:List Txn):List Bool:=decide (H.length≤32)::iY H H.length
def aC(H:List Txn):Bool:=(fu H).all id
theorem pI{l p:List Bool}(h:p<+:l)(hf:false∈p):l.all id=false:=by
 rw[List.all_eq_false];exact⟨false,h.subset hf,by simp⟩
theorem BL(l:List Int)(n:Nat)(hn:n≤l.length):(wFs l n).all id=true↔(l.take n).Pairwise (·<·)∧∀k∈l.take n,0≤k∧k<16:=by
 induction n with
 |zero=>simp[wFs]
 |succ n ih=>
  rw[rR,List.all_append,Bool.and_eq_true,ih (by omega),List.take_succ_eq_append_getElem (by omega),List.pairwise_append];rw[show([wF l n].all id=true)=(wF l n=true) by simp,zf (by omega),Bool.and_eq_true,decide_eq_true_eq,decide_eq_true_eq];have hmid:∀(P:List Int) (k:Int),P.Pairwise (·<·)→(∀y∈P,0≤y∧y<16)→(jE P<k↔(∀y∈P,y<k)∧0≤k):=by
   intro P k h1 h2;rcases List.eq_nil_or_concat P with rfl|⟨Q,z,rfl⟩
   ·simp[jE];omega
   ·rw[List.concat_eq_append]at*;rw[mD];have hz:=h2 z (by simp);constructor
    ·intro g;refine⟨fun y hy=> ?_,by omega⟩;rcases List.mem_append.1 hy with hy|hy
     ·have:=(List.pairwise_append.1 h1).2.2 y hy z (by simp);omega
     ·simp at hy;omega
    ·intro g;exact g.1 z (by simp)
  constructor
  ·rintro⟨⟨h1,h2⟩,h3,h4⟩;have:=(hmid _ _ h1 h2).1 h3;refine⟨⟨h1,by simp,fun y hy z hz=> ?_⟩,fun k hk=> ?_⟩
   ·simp at hz;subst hz;exact this.1 y hy
   ·rcases List.mem_append.1 hk with hk|hk
    ·exact h2 k hk
    ·simp at hk;subst hk;exact⟨this.2,h4⟩
  ·rintro⟨⟨h1,_,h3⟩,h4⟩;have g2:∀k∈l.take n,0≤k∧k<16:=fun k hk=>h4 k (List.mem_append.2 (.inl hk));have g3:=h4 l[n] (List.mem_append.2 (.inr (by simp)));exact⟨⟨h1,g2⟩,(hmid _ _ h1 g2).2 ⟨fun y hy=>h3 y hy _ (by simp),g3.1⟩,g3.2⟩
theorem GX(H:List Txn)(m:Nat)(l:List It)(n:Nat)(hn:n≤l.length):(rFs H m l n).all id=true↔(wFs (l.map (·.a)) n).all id=true∧∀x∈l.take n,jh H m x=true:=by
 induction n with
 |zero=>simp[wFs,rFs]
 |succ n ih=>
  rw[wJ,rR,List.all_append,List.all_append,Bool.and_eq_true,Bool.and_eq_true,ih (by omega),List.take_succ_eq_append_getElem (by omega)];rw[show([wF (l.map (·.a)) n].all id=true)=(wF (l.map (·.a)) n=true) by simp,show([rF H m l n].all id=true)=(rF H m l n=true) by simp,J3 (by omega),zf (by rw[List.length_map];omega),List.getElem_map,←List.map_take,Bool.and_eq_true (_&&_)];constructor
  ·rintro⟨⟨h1,h2⟩,h3,h4⟩;refine⟨⟨h1,h3⟩,fun x hx=> ?_⟩;rcases List.mem_append.1 hx with hx|hx
   ·exact h2 x hx
   ·simp at hx;subst hx;exact h4
  ·rintro⟨⟨h1,h2⟩,h3⟩;exact⟨⟨h1,fun x hx=>h3 x (List.mem_append.2 (.inl hx))⟩,h2,h3 _ (List.mem_append.2 (.inr (by simp)))⟩
structure J4(H:List Txn)(n:Nat)(t:Txn):Prop where
 Sd:t.writes.Pairwise (·<·)
 PL:∀k∈t.writes,0≤k∧k<16
 J5:(t.reads.map (·.a)).Pairwise (·<·)
 Sk:∀x∈t.reads,0≤x.a∧x.a<16
 there:∀x∈t.reads,jh H n x=true
 bL:0≤t.bL∧t.bL<8
theorem Ai{H:List Txn}{n:Nat}(h:n<H.length):(txF H n).all id=true↔J4 H n H[n]:=by
 rw[tZ h,List.all_append,List.all_append,Bool.and_eq_true,Bool.and_eq_true,BL _ _ (Nat.le_refl _),GX _ _ _ _ (Nat.le_refl _),BL _ _ (by simp)];rw[List.take_length,List.take_length,List.take_of_length_le (show(H[n].reads.map (·.a)).length≤H[n].reads.length by simp)];have hs:([eG H[n].bL 8].all id=true)↔0≤H[n].bL∧H[n].bL<8:=(by simp[eG]);rw[hs];constructor
 ·rintro⟨⟨⟨h1,h2⟩,⟨h3,h4⟩,h5⟩,h6⟩;exact⟨h1,h2,h3,fun x hx=>h4 _ (List.mem_map_of_mem hx),h5,h6⟩
 ·rintro⟨h1,h2,h3,h4,h5,h6⟩;exact⟨⟨⟨h1,h2⟩,⟨h3,fun k hk=>by obtain⟨x,hx,rfl⟩:=List.mem_map.1 hk;exact h4 x hx⟩,h5⟩,h6⟩
theorem Aj(H:List Txn)(n:Nat)(hn:n≤H.length):(iY H n).all id=true↔∀j (hj:j<H.length),j<n→J4 H j H[j]:=by
 induction n with
 |zero=>simp[iY]
 |succ n ih=>
  rw[qx,List.all_append,Bool.and_eq_true,ih (by omega),Ai (by omega)];constructor
  ·rintro⟨h1,h2⟩ j hj hjn;by_cases e:j=n
   ·subst e;exact h2
   ·exact h1 j hj (by omega)
  ·intro h;exact⟨fun j hj hjn=>h j hj (by omega),h n (by omega) (by omega)⟩
theorem aA(H:List Txn):aC H=true↔H.length≤32∧∀j (hj:j<H.length),J4 H j H[j]:=by
 unfold aC fu;rw[List.all_cons,Bool.and_eq_true,Aj H _ (Nat.le_refl _)];constructor
 ·rintro⟨h1,h2⟩;exact⟨by simpa using h1,fun j hj=>h2 j hj hj⟩
 ·rintro⟨h1,h2⟩;exact⟨by simpa using h1,fun j hj _=>h2 j hj⟩
theorem qG(H:List Txn)(n:Nat)(x:It):jh H n x=true↔x.b= -1∨∃k,∃hk:k<H.length,x.b=(k:Int)∧k≠n∧x.a∈H[k].writes:=by
 unfold jh;rw[Bool.or_eq_true,Bool.and_eq_true,Bool.and_eq_true,Bool.and_eq_true,decide_eq_true_eq,decide_eq_true_eq,beq_iff_eq,bne_iff_ne,List.contains_iff_mem];constructor
 ·rintro(h|⟨⟨⟨h1,h2⟩,h3⟩,h4⟩)
  ·exact .inl h
  ·refine .inr ⟨x.b.toNat,by omega,by omega,by omega,?_⟩;unfold J2 at h4;rw[List.getElem?_eq_getElem (by omega)]at h4;exact h4
 ·rintro(h|⟨k,hk,h1,h2,h3⟩)
  ·exact .inl h
  ·refine .inr ⟨⟨⟨by omega,by omega⟩,by omega⟩,?_⟩;unfold J2;rw[h1,Int.toNat_natCast,List.getElem?_eq_getElem hk];exact h3
def aW{α:Type}(size:Nat)(R:World→(Nat→Prop)→List Value→α→Prop)(w:World)(K:Nat→Prop)(base:Nat)(e:TypeId)(v:Value)(l:List α):Prop:=
 ∃ys:List (List Value),w.ownsRow base e size v l.length ys.flatten∧ys.length=l.length∧∀(i:Nat) cs x,ys[i]?=some cs→l[i]?=some x→cs.length=size∧R w K cs x
section
variable{α:Type}{size:Nat}{R:World→(Nat→Prop)→List Value→α→Prop}{w w':World}{K K':Nat→Prop}{base:Nat}{e:TypeId}{v:Value}{l:List α}
theorem aW.nil(size:Nat)(R:World→(Nat→Prop)→List Value→α→Prop)(w:World)(K:Nat→Prop)(base:Nat)(e:TypeId):aW size R w K base e (.slice none 0 0) ([]:List α):=
 ⟨[],World.ownsRow_nil _ _ _ _,rfl,fun i cs x h=>by simp at h⟩
theorem aW.lt(h:aW size R w K base e v l):∀k,v.ownBlock=some k→base≤k∧k<w.heap.size:=by
 obtain⟨ys,h1,_⟩:=h;exact h1.lt
theorem aW.form(h:aW size R w K base e v l):∃A c,v= .slice A l.length c:=by
 obtain⟨ys,h1,_⟩:=h;exact bY h1
theorem aW.sl(h:aW size R w K base e v l)(hK:∀g,v.ownBlock=some g→K g):SlR size R w K v l:=by
 obtain⟨ys,h1,h2,h3⟩:=h;exact SlR.mq h1 rfl rfl h2 h3 hK
theorem aW.keep(hR:jD R)(h:aW size R w K base e v l)(ha:Agree K w w')(hk:∀b,K b→K' b)(hr:∀g,v.ownBlock=some g→w'.heap[g]?=w.heap[g]?):aW size R w' K' base e v l:=by
 obtain⟨ys,h1,h2,h3⟩:=h;refine⟨ys,⟨h1.1,?_⟩,h2,fun i cs x a b=>⟨(h3 i cs x a b).1,hR _ _ _ _ _ _ (h3 i cs x a b).2 ha hk⟩⟩;rcases h1.2 with h4|⟨g,cap,cur,hv,hg,hh,r⟩
 ·exact .inl h4
 ·exact .inr ⟨g,cap,cur,hv,hg,by rw[hr g (by rw[hv];rfl)];exact hh,r⟩
theorem aW.flat{enc:α→List Value}(h:w.ownsRow base e size v l.length (l.map enc).flatten)(hs:∀x,(enc x).length=size):aW size (Flat enc) w K base e v l:=
 ⟨l.map enc,h,by simp,fun i cs x h1 h2=>by
  rw[List.getElem?_map,h2]at h1;injection h1 with h1
  exact⟨by rw[←h1];exact hs x,h1.symm⟩⟩
end
theorem qH {P:Program} (w:World) (base:Nat) (t ty e:TypeId) (i:TypeInfo) (size:Nat) (ht:P.underlying t=some (.slice e)) (hi:P.info? e=some i)
 (v:Value) (n:Nat) (xs:List Value) (hown:w.ownsRow base e size v n xs) (c:Nat):
 (Builtin.append_ #[t,t] ty #[v,.slice none 0 c]).run P w= .ok v w:=by
 rcases hown.2 with⟨rfl,rfl⟩|⟨g,cap,cur,rfl,_,_,hnc,_⟩
 ·simp[Builtin.append_,run_underlying ht,sizeOf,typeInfo,hi,Builtin.lenOf,Builtin.firstCells]
 ·simp[Builtin.append_,run_underlying ht,sizeOf,typeInfo,hi,Builtin.lenOf,Builtin.firstCells,hnc,storeCells]
theorem qI{size:Nat}:∀(ys:List (List Value)) (j:Nat) (u:Value),(∀(i:Nat) cs,ys[i]?=some cs→cs.length=size)→ys.flatten[j]?=some u→∃i k cs,j=i*size+k∧ys[i]?=some cs∧cs[k]?=some u
 |[],j,u,_,h=>by simp at h
 |y::ys,j,u,hs,h=>by
  have hy:=hs 0 y rfl;rw[List.flatten_cons]at h;rcases Nat.lt_or_ge j y.length with hj|hj
  ·rw[List.getElem?_append_left hj]at h;exact⟨0,j,y,by simp,rfl,h⟩
  ·rw[List.getElem?_append_right hj]at h;obtain⟨i,k,cs,h1,h2,h3⟩:=qI ys (j-y.length) u (fun i cs h=>hs (i+1) cs (by simpa using h)) h;exact⟨i+1,k,cs,by rw[Nat.add_mul];omega,by simpa using h2,h3⟩
theorem jF {P:Program} {w:World} {ops:Array Oper} {rest:List Oper} {o:Oper} {a:Act} {Q:Exit→Act→World→Prop} {α:Type} {R:World→(Nat→Prop)→List Value→α→Prop}
 (hgd:o.guard=none) (s x:Operand) (t:TypeId) (ho:o.op= .call {callee:= .builtin .append,args:=#[s,x],argTypes:=#[t,t]})
 (base:Nat) (e:TypeId) (i:TypeInfo) (z:Value) (size bytes:Nat) (ht:P.underlying t=some (.slice e)) (hi:P.info? e=some i) (hz:i.zero=some z)
 (hsize:i.size=size) (hby:i.bytes=bytes) (hzs:z.cells.size=size) (hsz:0<size)
 (v:Value) (K:Nat→Prop) (l:List α) (hs:a.eval s=v) (hown:aW size R w K base e v l)
 (vx:Value) (l2:List α) (hx:a.eval x=vx) (hsrc:SlR size R w K vx l2)
 (h1:∀cs x,R w K cs x→∀u∈cs,u.oneCell'=true) (h63:l.length+l2.length≤maxLen) (hbytes:(l.length+l2.length)*bytes≤140737488355328) (hbase:base≤w.heap.size)
 (hA:∀w',w.grownBy w' v.ownBlock→∀cs x,R w K cs x→R w' K cs x)
 (h:∀v' w',aW size R w' K base e v' (l++l2)→w.grownBy w' v.ownBlock→(v'.ownBlock=v.ownBlock∨v'.ownBlock=some w.heap.size)→wpList P ops Q rest (a.put o.dst v') w'):
 wpList P ops Q (o::rest) a w:=by
 obtain⟨ys,hy,hyl,hyR⟩:=hown;obtain⟨A,c,xs,rfl,hc,hxl,hxR,hxc⟩:=hsrc;have join:∀w',w.grownBy w' v.ownBlock→∀(i:Nat) cs x,(ys++xs)[i]?=some cs→(l++l2)[i]?=some x→cs.length=size∧R w' K cs x:=fun w' ha i cs x g1 g2=>by
  by_cases hil:i<l.length
  ·rw[List.getElem?_append_left (by omega)]at g1 g2;exact⟨(hyR i cs x g1 g2).1,hA w' ha _ _ (hyR i cs x g1 g2).2⟩
  ·rw[List.getElem?_append_right (by omega)]at g1 g2;rw[hyl]at g1;exact⟨(hxR _ cs x g1 g2).1,hA w' ha _ _ (hxR _ cs x g1 g2).2⟩
 have fin:∀v' w',w'.ownsRow base e size v' (l.length+l2.length) (ys.flatten++xs.flatten)→w.grownBy w' v.ownBlock→aW size R w' K base e v' (l++l2):=fun v' w' g1 g2=>
  ⟨ys++xs,by rw[List.length_append,List.flatten_append];exact g1,by simp[hyl,hxl],join w' g2⟩
 have hlen:∀(i:Nat) cs,xs[i]?=some cs→cs.length=size:=fun i cs g=>by
  have hil:i<l2.length:=by
   rw[←hxl];rcases Nat.lt_or_ge i xs.length with h|h
   ·exact h
   ·rw[List.getElem?_eq_none h]at g;cases g
  exact(hxR i cs l2[i] g (List.getElem?_eq_getElem hil)).1
 have hnl:xs.flatten.length=l2.length*size:=by
  rw[←hxl];clear join fin hxR hxc hxl hx
  induction xs with
  |nil=>simp
  |cons y ys ih=>
   rw[List.flatten_cons,List.length_append,hlen 0 y rfl,ih (fun i cs h=>hlen (i+1) cs (by simpa using h)),List.length_cons,Nat.add_mul];omega
 have hone:∀u∈xs.flatten,u.oneCell'=true:=fun u hu=>by
  obtain⟨cs,hcs,hu⟩:=List.mem_flatten.1 hu;obtain⟨i,hi⟩:=List.getElem?_of_mem hcs;have hil:i<l2.length:=by
   rw[←hxl];rcases Nat.lt_or_ge i xs.length with h|h
   ·exact h
   ·rw[List.getElem?_eq_none h]at hi;cases hi
  exact h1 cs l2[i] (hxR i cs l2[i] hi (List.getElem?_eq_getElem hil)).2 u hu
 cases A with
 |some ad=>
  refine wpList_append_own_at w hgd s x t ho base e i z size bytes ht hi hz hsize hby hzs hsz v l.length ys.flatten hs hy ad l2.length c xs.flatten hx hnl (fun j u hj=> ?_) hone h63 hbytes hbase (fun v' w' g1 g2 _ g3=>h v' w' (fin v' w' g1 g2) g2 g3);have hpos:0<l2.length:=by
   rcases Nat.lt_or_ge 0 l2.length with h|h
   ·exact h
   ·have:xs=[]:=List.eq_nil_of_length_eq_zero (by omega);subst this;simp at hj
  obtain⟨b,off,hA,hb,hcell⟩:=hxc hpos;injection hA with hA
  subst hA;obtain⟨i,k,cs,hj2,hi2,hk2⟩:=qI xs j u hlen hj;rw[Addr.add_lit,hj2,←Nat.add_assoc];exact hcell i k cs u hi2 hk2
 |none=>
  have hz2:l2=[]:=by
   rcases Nat.lt_or_ge 0 l2.length with h|h
   ·obtain⟨b,off,hA,_⟩:=hxc h;cases hA
   ·exact List.eq_nil_of_length_eq_zero (by omega)
  subst hz2;have hr:=qH (P:=P) w base t o.type e i size ht hi v l.length ys.flatten hy c;refine wpList_plain hgd fun K' hK'=> ?_;unfold Oper.wp execOp;simp only[ho,resolve,invoke,builtin,Sem.run_bind,Sem.run_pure,Result.andThen_ok,List.map_toArray,List.map_cons,List.map_nil,hs,hx,List.length_nil,hr];refine hK' _ _ (h v w (by rw[List.append_nil];exact⟨ys,hy,hyl,hyR⟩) ⟨rfl,rfl,rfl,Nat.le_refl _,fun _ _ _=>rfl⟩ (.inl rfl))
theorem aW.raw{α:Type}{size:Nat}{enc:α→List Value}{w:World}{K:Nat→Prop}{base:Nat}{e:TypeId}{v:Value}{l:List α}(h:aW size (Flat enc) w K base e v l):w.ownsRow base e size v l.length (l.map enc).flatten:=by
 obtain⟨ys,h1,h2,h3⟩:=h;have:ys=l.map enc:=by
  refine List.ext_getElem (by simp[h2]) fun i g1 g2=> ?_;have:=(h3 i _ _ (List.getElem?_eq_getElem g1) (List.getElem?_eq_getElem (by omega))).2;rw[List.getElem_map];exact this
 rw[←this];exact h1
theorem dM {P:Program} {w:World} {ops:Array Oper} {rest:List Oper} {o:Oper} {a:Act} {Q:Exit→Act→World→Prop} {α:Type} {enc:α→List Value}
 (hgd:o.guard=none) (s x:Operand) (t:TypeId) (ho:o.op= .call {callee:= .builtin .append,args:=#[s,x],argTypes:=#[t,t]})
 (base:Nat) (e:TypeId) (i:TypeInfo) (z:Value) (size bytes:Nat) (ht:P.underlying t=some (.slice e)) (hi:P.info? e=some i) (hz:i.zero=some z)
 (hsize:i.size=size) (hby:i.bytes=bytes) (hzs:z.cells.size=size) (hsz:0<size)
 (v:Value) (K:Nat→Prop) (l:List α) (hs:a.eval s=v) (hown:w.ownsRow base e size v l.length (l.map enc).flatten) (hen:∀x,(enc x).length=size)
 (vx:Value) (l2:List α) (hx:a.eval x=vx) (hsrc:SlR size (Flat enc) w K vx l2)
 (h1:∀x,∀u∈enc x,u.oneCell'=true) (h63:l.length+l2.length≤maxLen) (hbytes:(l.length+l2.length)*bytes≤140737488355328) (hbase:base≤w.heap.size)
 (h:∀v' w',w'.ownsRow base e size v' (l++l2).length ((l++l2).map enc).flatten→w.grownBy w' v.ownBlock→(v'.ownBlock=v.ownBlock∨v'.ownBlock=some w.heap.size)→wpList P ops Q rest (a.put o.dst v') w'):
 wpList P ops Q (o::rest) a w:=
 jF hgd s x t ho base e i z size bytes ht hi hz hsize hby hzs hsz v K l hs (aW.flat hown hen) vx l2 hx hsrc (fun cs x g u hu=>h1 x u (by unfold Flat at g;rw[←g];exact hu)) h63 hbytes hbase
  (fun _ _ _ _ g=>g) fun v' w' g1 g2 g3=>h v' w' g1.raw g2 g3
theorem SlR.one{α:Type}{size:Nat}{R:World→(Nat→Prop)→List Value→α→Prop}{w:World}{K:Nat→Prop}{g:Nat}{t:TypeId}{cs:Array Value}{x:α}(h:Blk w g t cs)(hl:cs.size=size)(hR:R w K cs.toList x)(hK:K g):
 SlR size R w K (.slice (some ⟨g,0,none⟩) 1 1) [x]:=by
 refine⟨some ⟨g,0,none⟩,1,[cs.toList],rfl,by simp,rfl,fun i ds y h1 h2=> ?_,fun _=>⟨g,0,rfl,hK,fun i j ds u h1 h2=> ?_⟩⟩
 ·cases i with
  |zero=>simp at h1 h2;subst h1 h2;exact⟨by simpa using hl,hR⟩
  |succ i=>simp at h1
 ·cases i with
  |zero=>
   simp at h1;subst h1;have:=h.cell j;simp only[Nat.zero_mul,Nat.zero_add];rw[this];simpa using h2
  |succ i=>simp at h1
def encI(n:Int):List Value:=[.int .i64 n]
def aI(w:World)(K:Nat→Prop)(v:Value)(l:List Int):Prop:=SlR 1 (Flat Go.Inq.encI) w K v l
section
variable{w w':World}{K K':Nat→Prop}{v:Value}{l:List Int}
theorem aI.keep(h:aI w K v l)(ha:Agree K w w')(hk:∀b,K b→K' b):aI w' K' v l:=SlR.keep (Flat.bE _) h ha hk
theorem aI.below(h:aI w (Old w) v l)(hb:Below w.heap.size w w'):aI w' (Old w') v l:=SlR.below (Flat.bE _) h hb
theorem aI.fit(h:aI w K v l)(hk:∀b,K b→K' b):aI w K' v l:=SlR.fit (Flat.bE _) h hk
theorem aI.form(h:aI w K v l):∃A c,v= .slice A l.length c:=by
 obtain⟨A,c,hv,_⟩:=SlR.len h;exact⟨A,c,hv⟩
theorem aI.at_{A:Option Addr}{n c:Nat}(h:aI w K (.slice A n c) l){i:Nat}(hi:i<l.length):∃b off,A=some ⟨b,off,none⟩∧K b∧w.cell? ⟨b,off+i,none⟩=some (.int .i64 l[i]):=by
 obtain⟨b,off,cs,hA,hK,_,hR,hc⟩:=SlR.at_ h hi;unfold Flat at hR;subst hR;have:=hc 0 _ rfl;rw[Nat.mul_one,Nat.add_zero]at this;exact⟨b,off,hA,hK,this⟩
theorem aI.cells{b off n c:Nat}(h:aI w K (.slice (some ⟨b,off,none⟩) n c) l){i:Nat}(hi:i<l.length):K b∧w.cell? ⟨b,off+i,none⟩=some (.int .i64 l[i]):=by
 obtain⟨cs,hK,_,hR,hc⟩:=SlR.cells h hi;unfold Flat at hR;subst hR;have:=hc 0 _ rfl;rw[Nat.mul_one,Nat.add_zero]at this;exact⟨hK,this⟩
theorem aI.nil(w:World)(K:Nat→Prop)(A:Option Addr)(c:Nat):aI w K (.slice A 0 c) []:=SlR.nil _ _ _ _ _ _
theorem aI.bB{g:Nat}{t:TypeId}(h:Blk w g t (l.map (Value.int .i64)).toArray)(hK:K g):aI w K (.slice (some ⟨g,0,none⟩) l.length l.length) l:=by
 refine⟨some ⟨g,0,none⟩,l.length,l.map Go.Inq.encI,rfl,Nat.le_refl _,by simp,fun i cs x h1 h2=> ?_,fun _=>⟨g,0,rfl,hK,fun i j cs u h1 h2=> ?_⟩⟩
 ·rw[List.getElem?_map,h2]at h1;injection h1 with h1
  exact⟨by rw[←h1];rfl,h1.symm⟩
 ·rw[List.getElem?_map]at h1;cases hl:l[i]? with
  |none=>rw[hl]at h1;cases h1
  |some x=>
   rw[hl]at h1;injection h1 with h1
   subst h1;cases j with
   |zero=>
    injection h2 with h2
    rw[Nat.zero_add,Nat.mul_one,Nat.add_zero,h.cell,gA,List.getElem?_map,hl,←h2];rfl
   |succ j=>simp[Go.Inq.encI]at h2
end
theorem fH:∀(x:Int),∀u∈Go.Inq.encI x,u.oneCell'=true:=by
 intro x u hu;simp[Go.Inq.encI]at hu;subst hu;rfl
theorem SlR.form{α:Type}{size:Nat}{R:World→(Nat→Prop)→List Value→α→Prop}{w:World}{K:Nat→Prop}{v:Value}{l:List α}(h:SlR size R w K v l):∃A c,v= .slice A l.length c:=by
 obtain⟨A,c,hv,_⟩:=SlR.len h;exact⟨A,c,hv⟩
def TxR(w:World)(K:Nat→Prop)(cs:List Value)(t:Tx):Prop:=∃vo,cs=[.int .i64 t.bL,.bool t.done,.int .i64 t.first,vo]∧EvS w K vo t.ops
theorem TxR.bE:jD TxR:=fun _ _ _ _ _ _ h ha hk=>by
 obtain⟨vo,h1,h2⟩:=h;exact⟨vo,h1,EvS.keep h2 ha hk⟩
theorem TxR.one{w:World}{K:Nat→Prop}{cs:List Value}{t:Tx}(h:TxR w K cs t):∀u∈cs,u.oneCell'=true:=by
 obtain⟨vo,rfl,h2⟩:=h;obtain⟨A,c,rfl⟩:=SlR.form h2;intro u hu;simp at hu;rcases hu with rfl|rfl|rfl|rfl<;>rfl
def TxS(w:World)(K:Nat→Prop)(v:Value)(l:List Tx):Prop:=SlR 4 TxR w K v l
section
variable{w w':World}{K K':Nat→Prop}{v:Value}{l:List Tx}
theorem TxS.keep(h:TxS w K v l)(ha:Agree K w w')(hk:∀b,K b→K' b):TxS w' K' v l:=SlR.keep TxR.bE h ha hk
theorem TxS.below(h:TxS w (Old w) v l)(hb:Below w.heap.size w w'):TxS w' (Old w') v l:=SlR.below TxR.bE h hb
theorem TxS.fit(h:TxS w K v l)(hk:∀b,K b→K' b):TxS w K' v l:=SlR.fit TxR.bE h hk
theorem TxS.at_{A:Option Addr}{n c:Nat}(h:TxS w K (.slice A n c) l){i:Nat}(hi:i<l.length):
 ∃b off A' c',A=some ⟨b,off,none⟩∧K b∧w.cell? ⟨b,off+i*4,none⟩=some (.int .i64 l[i].bL)∧w.cell? ⟨b,off+i*4+1,none⟩=some (.bool l[i].done)∧
  w.cell? ⟨b,off+i*4+2,none⟩=some (.int .i64 l[i].first)∧w.cell? ⟨b,off+i*4+3,none⟩=some (.slice A' l[i].ops.length c')∧EvS w K (.slice A' l[i].ops.length c') l[i].ops:=by
 obtain⟨b,off,cs,hA,hK,_,⟨vo,hcs,hev⟩,hc⟩:=SlR.at_ h hi;obtain⟨A',c',rfl⟩:=SlR.form hev;subst hcs;exact⟨b,off,A',c',hA,hK,hc 0 _ rfl,hc 1 _ rfl,hc 2 _ rfl,hc 3 _ rfl,hev⟩
end
def yM(w:World)(K:Nat→Prop)(cs:List Value)(t:Txn):Prop:=∃vw vr,cs=[.int .i64 t.bL,vw,vr]∧aI w K vw t.writes∧ItS w K vr t.reads
theorem yM.bE:jD yM:=fun _ _ _ _ _ _ h ha hk=>by
 obtain⟨vw,vr,h1,h2,h3⟩:=h;exact⟨vw,vr,h1,aI.keep h2 ha hk,ItS.keep h3 ha hk⟩
theorem yM.one{w:World}{K:Nat→Prop}{cs:List Value}{t:Txn}(h:yM w K cs t):∀u∈cs,u.oneCell'=true:=by
 obtain⟨vw,vr,rfl,h2,h3⟩:=h;obtain⟨A,c,rfl⟩:=SlR.form h2;obtain⟨A',c',rfl⟩:=SlR.form h3;intro u hu;simp at hu;rcases hu with rfl|rfl|rfl<;>rfl
def aF(w:World)(K:Nat→Prop)(v:Value)(l:List Txn):Prop:=SlR 3 yM w K v l
section
variable{w w':World}{K K':Nat→Prop}{v:Value}{l:List Txn}
theorem aF.keep(h:aF w K v l)(ha:Agree K w w')(hk:∀b,K b→K' b):aF w' K' v l:=SlR.keep yM.bE h ha hk
theorem aF.below(h:aF w (Old w) v l)(hb:Below w.heap.size w w'):aF w' (Old w') v l:=SlR.below yM.bE h hb
theorem aF.fit(h:aF w K v l)(hk:∀b,K b→K' b):aF w K' v l:=SlR.fit yM.bE h hk
theorem aF.nil(w:World)(K:Nat→Prop)(A:Option Addr)(c:Nat):aF w K (.slice A 0 c) []:=SlR.nil _ _ _ _ _ _
theorem aF.at_{A:Option Addr}{n c:Nat}(h:aF w K (.slice A n c) l){i:Nat}(hi:i<l.length):
 ∃b off Aw cw Ar cr,A=some ⟨b,off,none⟩∧K b∧w.cell? ⟨b,off+i*3,none⟩=some (.int .i64 l[i].bL)∧w.cell? ⟨b,off+i*3+1,none⟩=some (.slice Aw l[i].writes.length cw)∧
  w.cell? ⟨b,off+i*3+2,none⟩=some (.slice Ar l[i].reads.length cr)∧aI w K (.slice Aw l[i].writes.length cw) l[i].writes∧ItS w K (.slice Ar l[i].reads.length cr) l[i].reads:=by
 obtain⟨b,off,cs,hA,hK,_,⟨vw,vr,hcs,h1,h2⟩,hc⟩:=SlR.at_ h hi;obtain⟨Aw,cw,rfl⟩:=SlR.form h1;obtain⟨Ar,cr,rfl⟩:=SlR.form h2;subst hcs;exact⟨b,off,Aw,cw,Ar,cr,hA,hK,hc 0 _ rfl,hc 1 _ rfl,hc 2 _ rfl,h1,h2⟩
end
end Go.Inq
namespace Go.Inq
open Go
def Clear{α:Type}(e:Sem α):Prop:=∀(P:Program) w v w',e.run P w= .ok v w'→w'=w∧∀u,e.run P u= .ok v u
section
variable{α β:Type}
theorem Clear.pure(a:α):Clear (Pure.pure a:Sem α):=fun P w v w' h=>by
 simp at h;obtain⟨rfl,rfl⟩:=h;exact⟨rfl,fun u=>by simp⟩
theorem Clear.halt(x:Halt):Clear (Sem.halt x:Sem α):=fun P w v w' h=>by simp[Sem.run]at h
theorem Clear.never{e:Sem α}(h:∀(P:Program) w v w',e.run P w≠ .ok v w'):Clear e:=fun P w v w' h'=>absurd h' (h P w v w')
theorem Clear.bind{e:Sem α}{f:α→Sem β}(he:Clear e)(hf:∀a,Clear (f a)):Clear (e>>=f):=fun P w v w' h=>by
 rw[Sem.run_bind]at h;cases hr:e.run P w with
 |halt x w1=>rw[hr]at h;simp[Result.andThen]at h
 |ok a w1=>
  rw[hr]at h;obtain⟨rfl,h1⟩:=he P w a w1 hr;simp only[Result.andThen]at h;obtain⟨rfl,h2⟩:=hf a P _ v w' h;exact⟨rfl,fun u=>by rw[Sem.run_bind,h1 u];simp only[Result.andThen];exact h2 u⟩
theorem Clear.program:Clear Go.program:=fun P w v w' h=>by
 simp[Go.program,Sem.run]at h;obtain⟨rfl,rfl⟩:=h;exact⟨rfl,fun u=>by simp[Go.program,Sem.run]⟩
theorem Clear.bounds(k:IntKind)(x y:Int)(c:BoundsCode):Clear (boundsPanic k x y c:Sem α):=Clear.never fun P w v w' h=>by
 obtain⟨s,w2,h2⟩:=run_boundsPanic (α:=α) (P:=P) (w:=w) k x y c;rw[h2]at h;cases h
theorem Clear.underlying(t:TypeId):Clear (Go.underlying t):=Clear.bind Clear.program fun p=>by
 split
 ·exact Clear.pure _
 ·exact Clear.halt _
theorem Clear.typeInfo(t:TypeId):Clear (Go.typeInfo t):=Clear.bind Clear.program fun p=>by
 split
 ·exact Clear.pure _
 ·exact Clear.halt _
theorem Clear.sizeOf(t:TypeId):Clear (Go.sizeOf t):=Clear.bind (Clear.typeInfo t) fun _=>Clear.pure _
theorem Clear.zeroValue(t:TypeId):Clear (Go.zeroValue t):=Clear.bind (Clear.typeInfo t) fun _=>by
 split
 ·exact Clear.pure _
 ·exact Clear.halt _
theorem Clear.nilDeref{α:Type}:Clear (runtimePanic .nilDeref:Sem α):=by
 unfold runtimePanic;exact Clear.bind Clear.program fun p=>Clear.halt _
theorem Clear.sureAddr(v:Value):Clear (Instr.sureAddr v):=by
 unfold Instr.sureAddr;split
 ·exact Clear.pure _
 ·exact Clear.halt _
theorem Clear.asIntOf(v:Value):Clear (asIntOf v):=by
 unfold Go.asIntOf;split
 ·exact Clear.pure _
 ·exact Clear.halt _
 ·exact Clear.halt _
theorem Clear.asBool(v:Value):Clear (asBool v):=by
 unfold Go.asBool;split
 ·exact Clear.pure _
 ·exact Clear.halt _
theorem Clear.mapM{γ δ:Type}(f:γ→Sem δ)(hf:∀a,Clear (f a)):∀(l:List γ),Clear (l.mapM f)
 |[]=>by rw[List.mapM_nil];exact Clear.pure _
 |a::l=>by
  rw[List.mapM_cons];exact Clear.bind (hf a) fun _=>Clear.bind (Clear.mapM f hf l) fun _=>Clear.pure _
theorem Clear.GY{γ δ:Type}(f:γ→Sem δ)(hf:∀a,Clear (f a))(xs:Array γ):Clear (xs.mapM f):=by
 obtain⟨l⟩:=xs;rw[List.mapM_toArray];have h:=Clear.mapM f hf l;intro P w v w' hr;rw[Sem.run_map]at hr;cases hl:(l.mapM f).run P w with
 |halt x w1=>rw[hl]at hr;simp[Result.andThen]at hr
 |ok a w1=>
  rw[hl]at hr;simp only[Result.andThen]at hr;obtain⟨rfl,h1⟩:=h P w a w1 hl;injection hr with e1 e2
  exact⟨e2.symm,fun u=>by rw[Sem.run_map,h1 u];simp only[Result.andThen];rw[e1]⟩
theorem Clear.indexAt(t:TypeId)(x i:Value):Clear (Instr.indexAt t x i):=by
 unfold Instr.indexAt;refine Clear.bind (Clear.asIntOf i) fun ki=> ?_;obtain⟨k,i⟩:=ki;refine Clear.bind (Clear.underlying t) fun d=> ?_
 extract_lets jp
 have hj:∀q,Clear (jp q):=by
  rintro⟨base,len,elem⟩;refine Clear.bind (Clear.underlying t) fun d2=> ?_
  extract_lets tiny
  split
  ·split
   ·exact Clear.bind (Clear.sizeOf _) fun _=>Clear.pure _
   ·split
    ·exact Clear.halt _
    ·exact Clear.bounds _ _ _ _
  ·exact Clear.bounds _ _ _ _
 split
 ·exact Clear.bind (Clear.sureAddr _) fun _=>Clear.bind (Clear.pure _) hj
 ·exact Clear.bind (Clear.pure _) hj
 ·exact Clear.bind (Clear.halt _) hj
theorem Clear.build(t:TypeId)(parts:Array (Nat×Value)):Clear (Instr.build t parts):=by
 unfold Instr.build;refine Clear.bind (Clear.zeroValue t) fun z=> ?_;refine Clear.bind (Clear.underlying t) fun d=> ?_;split
 ·refine Clear.bind (Clear.GY _ (fun f=>Clear.bind (Clear.sizeOf _) fun _=>Clear.pure _) _) fun ps=> ?_;split
  ·exact Clear.pure _
  ·exact Clear.halt _
 ·refine Clear.bind (Clear.sizeOf _) fun s=> ?_;split
  ·exact Clear.pure _
  ·exact Clear.halt _
 ·exact Clear.halt _
theorem Clear.extract(v:Value)(i:Nat):Clear (Instr.extract v i):=by
 unfold Instr.extract;split
 ·split
  ·exact Clear.pure _
  ·exact Clear.halt _
 ·exact Clear.halt _
end
theorem Clear.isAgg(t:TypeId):Clear (Go.isAgg t):=Clear.bind (Clear.underlying t) fun _=>by
 split
 ·exact Clear.pure _
 ·exact Clear.pure _
 ·exact Clear.pure _
theorem Clear.part(t:TypeId)(cs:Array Value)(i:Nat):Clear (Go.part t cs i):=by
 unfold Go.part;refine Clear.bind (Clear.isAgg _) fun b=> ?_;split
 ·exact Clear.bind (Clear.sizeOf _) fun _=>Clear.pure _
 ·split
  ·exact Clear.pure _
  ·exact Clear.halt _
theorem Clear.followBlind:∀(l:List FieldStep) (t:TypeId) (x:Option Value),Clear (Go.followBlind l t x)
 |[],t,x=>Clear.pure _
 |s::rest,t,x=>by
  unfold Go.followBlind;refine Clear.bind (Clear.underlying _) fun d=> ?_;split
  ·split
   ·split
    ·exact Clear.pure _
    ·exact Clear.followBlind rest _ _
    ·exact Clear.halt _
    ·exact Clear.pure _
    ·exact Clear.bind (Clear.part _ _ _) fun _=>Clear.followBlind rest _ _
    ·exact Clear.halt _
    ·exact Clear.followBlind rest _ _
   ·exact Clear.halt _
  ·exact Clear.halt _
theorem Clear.nilAhead:∀(n:Nat) (t:TypeId) (v:Value) (name:String),Clear (Go.nilAhead n t v name)
 |0,_,_,_=>Clear.pure _
 |n+1,t,v,name=>by
  unfold Go.nilAhead;refine Clear.bind (Clear.typeInfo _) fun i=> ?_;split
  ·refine Clear.bind (Clear.followBlind _ _ _) fun r=> ?_;split
   ·exact Clear.pure _
   ·split
    ·exact Clear.nilAhead n _ _ _
    ·exact Clear.pure _
    ·exact Clear.halt _
    ·exact Clear.pure _
    ·exact Clear.pure _
    ·refine Clear.bind (Clear.underlying _) fun d=> ?_;split<;>exact Clear.pure _
  ·exact Clear.halt _
def worldless(P:Program):Op→Bool
 | .move _| .assign _| .pick .. | .build .. | .indexAddr .. | .extract .. | .makeFunc .. | .nilCheck _=>true
 | .fieldAddr s _ f=>match P.underlying s with
  |some (.struct fs)=>match fs[f]? with
   |some g=>match P.info? g.type with
    |some i=>i.size !=0
    |none=>false
   |none=>false
  |_=>false
 |_=>false
theorem jG{P:Program}{ρ:Operand→Value}{o:Oper}(h:worldless P o.op=true){w w':World}{n:Next}(hr:(execOp ρ o).run P w= .ok n w'):
 ∀u,(execOp ρ o).run P u= .ok n u:=by
 have lift:∀(s:Sem Value),Clear s→(do pure (.value (←s)):Sem Next).run P w= .ok n w'→∀u,(do pure (.value (←s)):Sem Next).run P u= .ok n u:=
  fun s hs h u=>(Clear.bind hs (fun _=>Clear.pure _) P w n w' h).2 u
 cases ho:o.op<;>rw[ho]at h<;>simp[worldless]at h;case move x=>
  have e:execOp ρ o=Pure.pure (.value (ρ x)):=(by unfold execOp;rw[ho]);rw[e]at hr⊢;exact(Clear.pure _ P w n w' hr).2
 case assign x=>
  have e:execOp ρ o=Pure.pure (.value (ρ x)):=(by unfold execOp;rw[ho]);rw[e]at hr⊢;exact(Clear.pure _ P w n w' hr).2
 case nilCheck x=>
  have c:Clear (execOp ρ o):=by
   unfold execOp;rw[ho];dsimp only;split
   ·exact Clear.nilDeref
   ·exact Clear.nilDeref
   ·exact Clear.nilDeref
   ·split
    ·exact Clear.nilDeref
    ·refine Clear.bind Clear.program fun p=> ?_;refine Clear.bind (Clear.nilAhead _ _ _ _) fun r=> ?_;split
     ·exact Clear.bind (Clear.halt _) fun _=>Clear.pure _
     ·exact Clear.pure _
    ·exact Clear.pure _
   ·exact Clear.pure _
  exact(c P w n w' hr).2
 case pick c a b=>
  have e:execOp ρ o=(do Pure.pure (.value (if←asBool (ρ c)then ρ a else ρ b))):=(by unfold execOp;rw[ho]);rw[e]at hr⊢;exact(Clear.bind (Clear.asBool _) (fun _=>Clear.pure _) P w n w' hr).2
 case build t ps=>
  have e:execOp ρ o=(do Pure.pure (.value (←Instr.build t (ps.map fun(i,x)=>(i,ρ x))))):=(by unfold execOp;rw[ho]);rw[e]at hr⊢;exact lift _ (Clear.build _ _) hr
 case makeFunc fn a b=>
  have e:execOp ρ o=(do Pure.pure (.value (←Instr.makeFunc fn (a.map ρ) (b.map ρ)))):=(by unfold execOp;rw[ho]);rw[e]at hr⊢;exact lift _ (Clear.pure _) hr
 case indexAddr t x i=>
  have e:execOp ρ o=(do Pure.pure (.value (←Instr.indexAt t (ρ x) (ρ i)))):=(by unfold execOp;rw[ho]);rw[e]at hr⊢;exact lift _ (Clear.indexAt _ _ _) hr
 case extract t i=>
  have e:execOp ρ o=(do Pure.pure (.value (←Instr.extract (ρ t) i))):=(by unfold execOp;rw[ho]);rw[e]at hr⊢;exact lift _ (Clear.extract _ _) hr
 case fieldAddr s x f=>
  have e:execOp ρ o=(do Pure.pure (.value (←Instr.fieldAt s (ρ x) f))):=(by unfold execOp;rw[ho]);rw[e]at hr⊢;split at h;case h_2=>cases h
  case h_1 fs hu=>
   split at h;case h_2=>cases h
   case h_1 g hg=>
    split at h;case h_2=>cases h
    case h_1 i hi=>
     have hsz:i.size≠0:=(by simpa using h);have key:∀u,(Instr.fieldAt s (ρ x) f).run P u=(Instr.sureAddr (ρ x)>>=fun a=>Pure.pure (Value.pointer (some (a.add g.offset)))).run P u:=fun u=>by
      unfold Instr.fieldAt;rw[Sem.run_bind];have h1:(Go.underlying s).run P u= .ok (.struct fs) u:=(by simp[Go.underlying,Go.program,Sem.run,hu]);rw[h1];simp only[Result.andThen,hg];rw[Sem.run_bind,Sem.run_bind];congr 1;funext a u';have h2:(Go.fieldPlace a g).run P u'= .ok (a.add g.offset) u':=by
       unfold Go.fieldPlace;simp[Go.sizeOf,Go.typeInfo,Go.program,Sem.run,hi,hsz]
      rw[Sem.run_bind,h2];rfl
     have c:Clear (Instr.sureAddr (ρ x)>>=fun a=>(Pure.pure (Value.pointer (some (a.add g.offset))):Sem Value)):=Clear.bind (Clear.sureAddr _) fun _=>Clear.pure _;have both:∀u,(do Pure.pure (.value (←Instr.fieldAt s (ρ x) f)):Sem Next).run P u=(do Pure.pure (.value (←(Instr.sureAddr (ρ x)>>=fun a=>(Pure.pure (Value.pointer (some (a.add g.offset))):Sem Value)))):Sem Next).run P u:=fun u=>by
      rw[Sem.run_bind,Sem.run_bind,key u]
     intro u;exact(both u).trans (lift _ c ((both w).symm.trans hr) u)
def Ext(w w':World):Prop:=w.heap.size≤w'.heap.size∧∀b,b<w.heap.size→w'.heap[b]?=w.heap[b]?
theorem Ext.refl(w:World):Ext w w:=⟨Nat.le_refl _,fun _ _=>rfl⟩
theorem Ext.trans{a b c:World}(h:Ext a b)(h':Ext b c):Ext a c:=⟨Nat.le_trans h.1 h'.1,fun k hk=>(h'.2 k (Nat.lt_of_lt_of_le hk h.1)).trans (h.2 k hk)⟩
def Stb{α:Type}(e:Sem α):Prop:=∀(P:Program) w v w',e.run P w= .ok v w'→w'=w∧∀u,Ext w u→e.run P u= .ok v u
theorem Clear.stb{α:Type}{e:Sem α}(h:Clear e):Stb e:=fun P w v w' hr=>⟨(h P w v w' hr).1,fun u _=>(h P w v w' hr).2 u⟩
theorem Stb.bind{α β:Type}{e:Sem α}{f:α→Sem β}(he:Stb e)(hf:∀a,Stb (f a)):Stb (e>>=f):=fun P w v w' h=>by
 rw[Sem.run_bind]at h;cases hr:e.run P w with
 |halt x w1=>rw[hr]at h;simp[Result.andThen]at h
 |ok a w1=>
  rw[hr]at h;obtain⟨rfl,h1⟩:=he P w a w1 hr;simp only[Result.andThen]at h;obtain⟨rfl,h2⟩:=hf a P _ v w' h;exact⟨rfl,fun u hu=>by rw[Sem.run_bind,h1 u hu];simp only[Result.andThen];exact h2 u hu⟩
theorem GZ{P:Program}{w:World}{at_:Addr}{t:TypeId}{k:Addr}{b:Bool}{r}(h:w.seen P at_ t k b= .ok r):∃c e f,w.heap[at_.block]?=some (.cells c e f):=by
 cases hh:w.heap[at_.block]? with
 |none=>
  exfalso;unfold World.seen at h;rw[hh]at h;simp only[bind,Except.bind]at h;repeat' split at h
  all_goals first|cases h|(rename_i hx;cases hx)
 |some o=>
  cases o with
  |cells c e f=>exact⟨c,e,f,rfl⟩
  |_=>
   exfalso;unfold World.seen at h;rw[hh]at h;simp only[bind,Except.bind]at h;repeat' split at h
   all_goals first|cases h|(rename_i hx;cases hx)
theorem D8{P:Program}{w u:World}{at_:Addr}{t:TypeId}{k:Addr}{b:Bool}(h:u.heap[at_.block]?=w.heap[at_.block]?):u.seen P at_ t k b=w.seen P at_ t k b:=by
 unfold World.seen;rw[h]
theorem lt_of_some{w:World}{b:Nat}{o:Obj}(h:w.heap[b]?=some o):b<w.heap.size:=(Array.getElem?_eq_some_iff.1 h).1
theorem Stb.load(a:Addr):Stb (Go.load a):=fun P w v w' h=>by
 unfold Go.load at h⊢;simp only[Sem.run]at h⊢;cases hc:w.cell? a with
 |some x=>
  rw[hc]at h;simp only[Result.ok.injEq]at h;obtain⟨rfl,rfl⟩:=h;refine⟨rfl,fun u hu=> ?_⟩;have hb:a.block<w.heap.size:=World.block_lt_of_cell? w a hc;rw[World.cell?_of_block (w:=w) (hu.2 _ hb),hc]
 |none=>
  rw[hc]at h;dsimp only at h;unfold World.farLoad at h⊢;cases hh:w.heap[a.block]? with
  |none=>rw[hh]at h;simp at h
  |some o=>
   have hb:=lt_of_some hh;have hcu:∀u,Ext w u→u.cell? a=none:=fun u hu=>(by rw[World.cell?_of_block (w:=w) (hu.2 _ hb),hc]);rw[hh]at h;cases o with
   |view at_ t=>
    dsimp only at h;cases hv:w.viewLoad P at_ t a (Mode.plain==Mode.atomic)with
    |error e=>rw[hv]at h;simp at h
    |ok r=>
     rw[hv]at h;dsimp only at h;simp only[Result.ok.injEq]at h;obtain⟨rfl,rfl⟩:=h;refine⟨rfl,fun u hu=> ?_⟩;rw[hcu u hu];dsimp only;rw[hu.2 _ hb,hh];dsimp only;have hs:∃r,w.seen P at_ t a (Mode.plain==Mode.atomic)= .ok r:=by
      cases hsn:w.seen P at_ t a (Mode.plain==Mode.atomic)with
      |error e=>unfold World.viewLoad at hv;rw[hsn]at hv;cases hv
      |ok r=>exact⟨r,rfl⟩
     obtain⟨r2,hs⟩:=hs;obtain⟨c,e,f,hcc⟩:=GZ hs;have hvu:u.viewLoad P at_ t a (Mode.plain==Mode.atomic)=w.viewLoad P at_ t a (Mode.plain==Mode.atomic):=by
      unfold World.viewLoad;rw[D8 (hu.2 _ (lt_of_some hcc))]
     rw[hvu,hv]
   |_=>simp at h
theorem Stb.loadCellsFrom(a:Addr):∀(n i:Nat) (acc:Array Value),Stb (Go.loadCellsFrom a i n acc)
 |0,i,acc=>by unfold Go.loadCellsFrom;exact(Clear.pure _).stb
 |n+1,i,acc=>by unfold Go.loadCellsFrom;exact Stb.bind (Stb.load _) fun v=>Stb.loadCellsFrom a n (i+1) _
theorem Stb.loadAt(t:TypeId)(v:Value):Stb (Instr.loadAt t v):=by
 unfold Instr.loadAt;refine Stb.bind (Clear.sureAddr v).stb fun a=> ?_;unfold Go.loadVar;refine Stb.bind (Clear.isAgg t).stb fun b=> ?_;split
 ·exact Stb.bind (Clear.sizeOf t).stb fun n=>Stb.bind (by unfold Go.loadCells;exact Stb.loadCellsFrom a n 0 _) fun _=>(Clear.pure _).stb
 ·exact Stb.load a
def Grow{α:Type}(e:Sem α):Prop:=∀(P:Program) w v w',e.run P w= .ok v w'→Ext w w'
theorem Clear.grow{α:Type}{e:Sem α}(h:Clear e):Grow e:=fun P w v w' hr=>by rw[(h P w v w' hr).1];exact Ext.refl _
theorem Grow.bind{α β:Type}{e:Sem α}{f:α→Sem β}(he:Grow e)(hf:∀a,Grow (f a)):Grow (e>>=f):=fun P w v w' h=>by
 rw[Sem.run_bind]at h;cases hr:e.run P w with
 |halt x w1=>rw[hr]at h;simp[Result.andThen]at h
 |ok a w1=>
  rw[hr]at h;simp only[Result.andThen]at h;exact(he P w a w1 hr).trans (hf a P _ v w' h)
theorem Grow.newObj(o:Obj):Grow (Go.newObj o):=fun P w v w' h=>by
 unfold Go.newObj at h;simp only[Sem.run,Result.ok.injEq]at h;obtain⟨_,rfl⟩:=h;refine⟨by simp,fun b hb=> ?_⟩;show(w.heap.push o)[b]?=_;rw[Array.getElem?_push,if_neg (by omega)]
theorem Grow.newVar(t:TypeId)(v:Value):Grow (Go.newVar t v):=by
 unfold Go.newVar Go.newRow;exact Grow.bind (Grow.newObj _) fun _=>(Clear.pure _).grow
def gV:Op→Bool
 | .alloc _| .box .. | .buildSlice .. =>true
 |_=>false
theorem AA{P:Program}{ρ:Operand→Value}{o:Oper}(h:gV o.op=true){w w':World}{n:Next}(hr:(execOp ρ o).run P w= .ok n w'):Ext w w'∧∃v,n= .value v:=by
 have lift:∀(s:Sem Value),Grow s→(do Pure.pure (.value (←s)):Sem Next).run P w= .ok n w'→Ext w w'∧∃v,n= .value v:=fun s hs hr=>by
  refine⟨Grow.bind hs (fun _=>(Clear.pure _).grow) P w n w' hr,?_⟩;rw[Sem.run_bind]at hr;cases h1:s.run P w with
  |halt x w1=>rw[h1]at hr;simp[Result.andThen]at hr
  |ok a w1=>rw[h1]at hr;simp[Result.andThen]at hr;exact⟨a,hr.1.symm⟩
 cases ho:o.op<;>rw[ho]at h<;>simp[gV]at h;case alloc t=>
  have e:execOp ρ o=(do Pure.pure (.value (←Instr.alloc t true (.tuple #[])))):=(by unfold execOp;rw[ho]);rw[e]at hr;refine lift _ ?_ hr;unfold Instr.alloc;refine Grow.bind (Clear.zeroValue t).grow fun z=> ?_;exact Grow.bind (Grow.newVar _ _) fun _=>(Clear.pure _).grow
 case box t x=>
  have e:execOp ρ o=(do Pure.pure (.value (←Instr.box t (ρ x)))):=(by unfold execOp;rw[ho]);rw[e]at hr;refine lift _ ?_ hr;unfold Instr.box;exact Grow.bind (Grow.newVar _ _) fun _=>(Clear.pure _).grow
 case buildSlice t k ps=>
  have e:execOp ρ o=(do Pure.pure (.value (←Instr.buildSlice t k (ps.map fun(i,x)=>(i,ρ x))))):=(by unfold execOp;rw[ho]);rw[e]at hr;refine lift _ ?_ hr;unfold Instr.buildSlice;refine Grow.bind (Clear.underlying t).grow fun d=> ?_;split
  ·refine Grow.bind (Clear.sizeOf _).grow fun sz=> ?_
   extract_lets jp jp2
   have hj:∀z,Grow (jp z):=by
    intro z;dsimp only[jp];split
    ·exact Grow.bind (by unfold Go.newRow;exact Grow.bind (Grow.newObj _) fun _=>(Clear.pure _).grow) fun _=>(Clear.pure _).grow
    ·exact(Clear.halt _).grow
   have hj2:∀u,Grow (jp2 u):=by
    intro u;dsimp only[jp2];split
    ·exact Grow.bind (Clear.pure _).grow hj
    ·exact Grow.bind (Clear.zeroValue _).grow fun _=>Grow.bind (Clear.pure _).grow hj
   split
   ·exact Grow.bind (Clear.halt _).grow hj2
   ·exact hj2 ()
  ·exact(Clear.halt _).grow
def mE:Op→Bool
 | .move _| .assign _| .pick .. | .build .. | .load .. | .binOp .. | .unOp .. | .convert .. | .slice .. | .fieldAddr .. | .field .. | .indexAddr .. | .index .. | .extract .. | .makeFunc .. =>true
 | .call {callee:= .builtin b,..}=>match b with| .len| .cap| .min| .max=>true|_=>false
 | .nilCheck _=>true
 |_=>false
def Val(s:Sem Next):Prop:=∀(P:Program) w n w',s.run P w= .ok n w'→∃v,n= .value v
theorem Val.pure(u:Value):Val (Pure.pure (.value u)):=fun P w n w' h=>by
 simp at h;exact⟨u,h.1.symm⟩
theorem Val.halt(x:Halt):Val (Sem.halt x):=fun P w n w' h=>by simp[Sem.run]at h
theorem Val.bind{α:Type}{e:Sem α}{f:α→Sem Next}(hf:∀a,Val (f a)):Val (e>>=f):=fun P w n w' h=>by
 rw[Sem.run_bind]at h;cases hr:e.run P w with
 |halt x w1=>rw[hr]at h;simp[Result.andThen]at h
 |ok a w1=>
  rw[hr]at h;exact hf a P _ _ _ h
theorem Val.panic(x:RuntimeError):Val (runtimePanic x):=by
 unfold runtimePanic;refine Val.bind fun p=> ?_;cases x<;>first|exact Val.halt _|exact Val.bind fun _=>Val.bind fun _=>Val.halt _
theorem jr{P:Program}{ρ:Operand→Value}{o:Oper}(h:mE o.op=true){w w':World}{n:Next}(hr:(execOp ρ o).run P w= .ok n w'):∃v,n= .value v:=by
 suffices hv:Val (execOp ρ o) from hv P w n w' hr
 clear hr;unfold execOp;cases ho:o.op<;>rw[ho]at h<;>simp[mE]at h;case call c=>
  obtain⟨callee,args,ats⟩:=c;cases callee with
  |value f=>simp at h
  |invoke r m=>simp at h
  |builtin b=>
   intro P w n w' hr;rw[Sem.run_bind]at hr;simp only[resolve,Sem.run_pure,Result.andThen_ok,invoke,builtin]at hr;cases b<;>simp at h<;>exact(Val.bind fun _=>Val.pure _) P _ _ _ hr
 case nilCheck x=>
  dsimp only;split
  ·exact Val.panic _
  ·exact Val.panic _
  ·exact Val.panic _
  ·split
   ·exact Val.panic _
   ·refine Val.bind fun p=>Val.bind fun b=> ?_
    extract_lets
    split
    ·exact Val.bind fun _=>Val.pure _
    ·exact Val.pure _
   ·exact Val.pure _
  ·exact Val.pure _
 all_goals first
  |exact Val.pure _
  |exact Val.bind fun _=>Val.pure _
section
variable{P:Program}{ops:Array Oper}{Q:Exit→Act→World→Prop}{md:Region.Mode}
def bC(md:Region.Mode)(ops:Array Oper):Nat→Nat→Nat→Bool
 |0,_,_=>false
 |f+1,j,i=>match ops[j]? with
  |some oj=>oj.after.any fun e=>Region.binds md e&&(e.on==i||bC md ops f e.on i)
  |none=>false
def Closed(md:Region.Mode)(ops:Array Oper)(listed:Array Bool):Prop:=
 ∀(j:Nat) oj,ops[j]?=some oj→listed.getD j false=true→∀e∈oj.after,Region.binds md e=true→listed.getD e.on false=true
theorem Closed.start(md:Region.Mode)(ops:Array Oper)(n:Nat):Closed md ops (Array.replicate n false):=fun j oj _ h=>by
 rw[getD_replicate_false]at h;cases h
theorem Closed.aD{listed:Array Bool}{i:Nat}(h:Closed md ops listed)(hi:i∈Region.ready md ops listed):Closed md ops (listed.setIfInBounds i true):=by
 obtain⟨_,oi,hoi,hall⟩:=mem_ready.1 hi;intro j oj hj hl e he hb;by_cases hij:i=j
 ·subst hij;have:oj=oi:=Option.some.inj (hj.symm.trans hoi);subst this;exact getD_set_true (hall e he hb)
 ·rw[getD_set_ne false hij]at hl;exact getD_set_true (h j oj hj hl e he hb)
theorem Closed.waits{listed:Array Bool}(h:Closed md ops listed):∀(f j i:Nat),bC md ops f j i=true→listed.getD j false=true→listed.getD i false=true
 |0,_,_,hw,_=>by cases hw
 |f+1,j,i,hw,hl=>by
  unfold bC at hw;split at hw
  ·rename_i oj hoj;obtain⟨e,he,hb⟩:=Array.any_eq_true'.1 hw;simp only[Bool.and_eq_true,Bool.or_eq_true,beq_iff_eq]at hb;have h1:=h j oj hoj hl e he hb.1;rcases hb.2 with h2|h2
   ·rw[←h2];exact h1
   ·exact Closed.waits h f _ _ h2 h1
  ·cases hw
theorem Closed.ready{listed:Array Bool}(h:Closed md ops listed){f j i:Nat}(hw:bC md ops f j i=true)(hj:j∈Region.ready md ops listed):listed.getD i false=true:=by
 obtain⟨_,oj,hoj,hall⟩:=mem_ready.1 hj;cases f with
 |zero=>cases hw
 |succ f=>
  unfold bC at hw;rw[hoj]at hw;obtain⟨e,he,hb⟩:=Array.any_eq_true'.1 hw;simp only[Bool.and_eq_true,Bool.or_eq_true,beq_iff_eq]at hb;have h1:=hall e he hb.1;rcases hb.2 with h2|h2
  ·rw[←h2];exact h1
  ·exact h.waits f _ _ h2 h1
def nW(P:Program)(md:Region.Mode)(ops:Array Oper)(Q:Exit→Act→World→Prop)(cls:Nat→Nat):Nat→Array Bool→Act→World→Prop
 |0,listed,a,w=>Region.ready md ops listed=[]∧Q .normal a w
 |fuel+1,listed,a,w=>
  (Region.ready md ops listed=[]→Q .normal a w)∧
  ∀i∈Region.ready md ops listed,wpOp P ops Q i (fun a' w'=>((cls i=0→w'=w)∧(cls i=1→Ext w w'))∧nW P md ops Q cls fuel (listed.setIfInBounds i true) a' w') a w
theorem qJ{cls:Nat→Nat}:∀(fuel:Nat) (listed:Array Bool) (a:Act) (w:World),nW P md ops Q cls fuel listed a w→wpAny P md ops Q fuel listed a w
 |0,_,_,_,h=>h
 |fuel+1,_,_,_,h=>⟨h.1,fun i hi=>wpOp_mono (fun a' w' h'=>qJ fuel _ a' w' h'.2) (h.2 i hi)⟩
theorem dV {cls:Nat→Nat} {S:World→Prop} {i:Nat} {oi:Oper} {v:Value} (hi:ops[i]?=some oi) (hsel:∀(j:Nat) (o:Oper) cs b,ops[j]?=some o→o.op≠ .select cs b)
 (hQ:∀c a w,Q (.panic c) (a.put oi.dst v) w→Q (.panic c) a w)
 (hkeep:∀(listed:Array Bool) (j:Nat),Closed md ops listed→j∈Region.ready md ops listed→listed.getD i false=false→∀w w',S w→(cls j=0→w'=w)∧(cls j=1→Ext w w')→S w'):
 ∀(fuel:Nat) (listed:Array Bool) (a:Act) (w:World),Closed md ops listed→
  (∀j oj,ops[j]?=some oj→j≠i→listed.getD j true=false→(∀e∈oj.after,Region.binds md e=true→e.on≠i)→oi.apart ops oj=true)→
  i∈Region.ready md ops listed→YieldsIf P ops S oi v a→S w→
  nW P md ops Q cls fuel (listed.setIfInBounds i true) (a.put oi.dst v) w→nW P md ops Q cls (fuel+1) listed a w:=by
 intro fuel
 induction fuel with
 |zero=>
  intro listed a w _ _ hr hy hS H;refine⟨fun h=>(by rw[h]at hr;cases hr),fun j hj=> ?_⟩;by_cases hji:j=i
  ·subst hji;exact hy.wpOp hi hS ⟨⟨fun _=>rfl,fun _=>Ext.refl _⟩,H⟩
  ·have:=ready_mono hj hji;rw[H.1]at this;cases this
 |succ fuel ih=>
  intro listed a w hcl hfree hr hy hS H;refine⟨fun h=>(by rw[h]at hr;cases hr),fun j hj=> ?_⟩;by_cases hji:j=i
  ·subst hji;exact hy.wpOp hi hS ⟨⟨fun _=>rfl,fun _=>Ext.refl _⟩,H⟩
  ·have h1:=H.2 j (ready_mono hj hji);obtain⟨hjun,oj,hoj,hall⟩:=mem_ready.1 hj;have PN:listed.getD i false=false:=getD_both (mem_ready.1 hr).1;have hnot:∀e∈oj.after,Region.binds md e=true→e.on≠i:=fun e he hb heq=>by
    have h1:=hall e he hb;rw[heq,PN]at h1;cases h1
   have h2:=wpOp_putIf hoj (hfree j oj hoj hji hjun hnot) (fun cs b=>hsel i oi cs b hi) (fun cs b=>hsel j oj cs b hoj) hQ hy h1;have hfree':∀k ok,ops[k]?=some ok→k≠i→(listed.setIfInBounds j true).getD k true=false→
    (∀e∈ok.after,Region.binds md e=true→e.on≠i)→oi.apart ops ok=true:=fun k ok hk hki hun hno=>by
    refine hfree k ok hk hki ?_ hno;by_cases hjk:j=k
    ·subst hjk;exact hjun
    ·rw[getD_set_ne true hjk]at hun;exact hun
   refine wpOp_mono (fun a' w' h3=> ?_) h2;obtain⟨hy',hc,hP⟩:=h3;refine⟨hc,ih (listed.setIfInBounds j true) a' w' (hcl.aD hj) hfree' (ready_mono hr (Ne.symm hji)) hy' (hkeep listed j hcl hj PN w w' hS hc) ?_⟩;rw[Array.setIfInBounds_comm _ _ hji];exact hP
def bT{α:Type}(e:Sem α):Prop:=∀(P:Program) w es,noRoomEvent∈(e.runT P w es).2→noRoomEvent∈es
theorem bT.pure{α:Type}(a:α):bT (Pure.pure a:Sem α):=fun P w es h=>by
 have:(Pure.pure a:Sem α)=Sem.pure a:=rfl;rw[this]at h;simpa only[Sem.runT]using h
theorem bT.halt{α:Type}(x:Halt):bT (Sem.halt x:Sem α):=fun P w es h=>by simpa only[Sem.runT]using h
theorem bT.program:bT Go.program:=fun P w es h=>by
 unfold Go.program at h;simpa only[Sem.runT]using h
theorem bT.bind{α β:Type}{e:Sem α}{f:α→Sem β}(he:bT e)(hf:∀a,bT (f a)):bT (e>>=f):=fun P w es h=>by
 have:(e>>=f)=e.bind f:=rfl;rw[this,Sem.runT_bind']at h;have h1:=he P w es;generalize e.runT P w es=r at h h1;obtain⟨r,es'⟩:=r;cases r with
 |ok a w'=>exact h1 (hf a P w' es' h)
 |halt x w'=>exact h1 h
theorem bT.underlying(t:TypeId):bT (Go.underlying t):=bT.bind bT.program fun p=>by
 split
 ·exact bT.pure _
 ·exact bT.halt _
def mF:Op→Bool
 | .move _| .assign _| .pick .. | .extract .. =>true
 |_=>false
theorem wL{P:Program}{o:Op}(h:mF o=true):worldless P o=true:=by
 cases o<;>simp_all [mF,worldless]
theorem D9{o:Op}(h:mF o=true):mE o=true:=by
 cases o<;>simp_all [mF,mE]
theorem G5{P:Program}{ρ:Operand→Value}{o:Oper}(h:mF o.op=true):(∀w x w',(execOp ρ o).run P w≠ .halt (.panic x) w')∧∀w,noRoomEvent∉((execOp ρ o).runT P w #[]).2:=by
 have no:∀{e:Sem Next},bT e→∀w,noRoomEvent∉(e.runT P w #[]).2:=fun h w hh=>(by have:=h P w #[] hh;simp at this);cases ho:o.op<;>rw[ho]at h<;>simp[mF]at h;case move x=>
  have e:execOp ρ o=Pure.pure (.value (ρ x)):=(by unfold execOp;rw[ho]);rw[e];exact⟨fun w x w'=>by simp,no (bT.pure _)⟩
 case assign x=>
  have e:execOp ρ o=Pure.pure (.value (ρ x)):=(by unfold execOp;rw[ho]);rw[e];exact⟨fun w x w'=>by simp,no (bT.pure _)⟩
 case pick c a b=>
  have e:execOp ρ o=(do Pure.pure (.value (if←asBool (ρ c)then ρ a else ρ b))):=(by unfold execOp;rw[ho]);rw[e];have hb:bT (asBool (ρ c)):=by
   unfold asBool;split
   ·exact bT.pure _
   ·exact bT.halt _
  refine⟨fun w x w'=> ?_,no (bT.bind hb fun _=>bT.pure _)⟩;rw[Sem.run_bind];unfold asBool;split<;>simp[stuck,Result.andThen]
 case extract t i=>
  have e:execOp ρ o=(do Pure.pure (.value (←Instr.extract (ρ t) i))):=(by unfold execOp;rw[ho]);rw[e];have hb:bT (Instr.extract (ρ t) i):=by
   unfold Instr.extract;split
   ·split
    ·exact bT.pure _
    ·exact bT.halt _
   ·exact bT.halt _
  refine⟨fun w x w'=> ?_,no (bT.bind hb fun _=>bT.pure _)⟩;rw[Sem.run_bind];unfold Instr.extract;split
  ·split<;>simp[stuck,Result.andThen]
  ·simp[stuck,Result.andThen]
theorem nX{t:Nat}{o:Oper}{a:Act}{w:World}{K:Act→World→Prop}(ho:ops[t]?=some o)(hc:mF o.op=true)(h:wpOp P ops Q t K a w):
 ∃v,YieldsIf P ops (fun _=>True) o v a∧K (a.put o.dst v) w:=by
 unfold wpOp at h;rw[ho]at h;dsimp only at h;by_cases hw:Region.wanted o (yielded ops a.tmps)=true
 ·rw[if_pos hw]at h;obtain⟨hp,hm⟩:=G5 (P:=P) (ρ:=a.eval) hc;rcases h with h|⟨⟨h,_⟩,_⟩
  ·unfold Oper.wp at h;generalize hr:(execOp a.eval o).run P w=r at h;cases r with
   |halt x w'=>cases x<;>simp only[Oper.upon]at h;exact absurd hr (hp w _ w')
   |ok n w'=>
    obtain⟨v,rfl⟩:=jr (D9 hc) hr;have hall:=jG (wL (P:=P) hc) hr;have hww:w'=w:=(by have:=(hall w).symm.trans hr;injection this with _ e;exact e.symm);subst hww;exact⟨v,.inl ⟨hw,fun u _=>hall u⟩,h⟩
  ·exact absurd h (hm w)
 ·rw[if_neg hw]at h;exact⟨undef,.inr ⟨by simpa using hw,rfl⟩,h⟩
theorem wM{t:Nat}{o:Oper}{a:Act}{w:World}{K:Act→World→Prop}(ho:ops[t]?=some o)(hc:gV o.op=true)(h:wpOp P ops Q t K a w):wpOp P ops Q t (fun a' w'=>Ext w w'∧K a' w') a w:=by
 unfold wpOp at*;rw[ho]at h⊢;dsimp only at*;by_cases hw:Region.wanted o (yielded ops a.tmps)=true
 ·rw[if_pos hw]at h⊢;refine h.imp (fun h=> ?_) id;unfold Oper.wp at*;generalize hr:(execOp a.eval o).run P w=r at*;cases r with
  |halt x w'=>cases x<;>simp only[Oper.upon]at h⊢<;>exact h
  |ok n w'=>
   obtain⟨he,v,rfl⟩:=AA hc hr;exact⟨he,h⟩
 ·rw[if_neg hw]at h⊢;exact⟨Ext.refl _,h⟩
def gI(ops:Array Oper)(ts:List Nat)(j:Nat):Nat:=
 if ts.contains j then(match ops[j]? with|some o=>if gV o.op then 1 else 2|none=>2)else 0
def BM(md:Region.Mode)(ops:Array Oper):List Nat→Array Bool→Bool
 |[],listed=>(Region.ready md ops listed).isEmpty
 |t::ts,listed=>(Region.ready md ops listed==[t]||
  ((Region.ready md ops listed).contains t&&Region.free md ops listed t&&(match ops[t]? with|some o=>mF o.op|none=>false)))&&BM md ops ts (listed.setIfInBounds t true)
theorem nY{us:List Nat}(hQ:∀c a (d:Option Tmp) v w,Q (.panic c) (a.put d v) w→Q (.panic c) a w)(hs:Region.noSelect ops=true):∀(ts:List Nat) (listed:Array Bool) (a:Act) (w:World),Closed md ops listed→(∀t∈ts,us.contains t=true)→BM md ops ts listed=true→
 wpOps P ops Q ts a w→nW P md ops Q (gI ops us) ts.length listed a w
 |[],_,_,_,_,_,hB,h=>⟨by simpa[BM]using hB,h⟩
 |t::ts,listed,a,w,hcl,hf,hB,h=>by
  simp only[BM,Bool.and_eq_true,Bool.or_eq_true,beq_iff_eq]at hB;rw[wpOps_cons]at h;have hc0:gI ops us t≠0:=by
   unfold gI;rw[if_pos (hf t (by simp))];split
   ·split<;>simp
   ·simp
  have h1:wpOp P ops Q t (fun a' w'=>(gI ops us t=1→Ext w w')∧wpOps P ops Q ts a' w') a w:=by
   cases ho:ops[t]? with
   |none=>unfold wpOp at*;rw[ho]at h⊢;exact⟨fun _=>Ext.refl _,h⟩
   |some o=>
    by_cases hal:gV o.op=true
    ·exact wpOp_mono (fun a' w' h=>⟨fun _=>h.1,h.2⟩) (wM ho hal h)
    ·refine wpOp_mono (fun a' w' h=>⟨fun h1=> ?_,h⟩) h;unfold gI at h1;rw[if_pos (hf t (by simp)),ho]at h1;simp[hal]at h1
  rcases hB.1 with hB1|⟨⟨hr,hfr⟩,hc⟩
  ·refine⟨fun h0=>(by rw[hB1]at h0;cases h0),fun i hi=> ?_⟩;have hi':=hi;rw[hB1]at hi;have:i=t:=(by simpa using hi);subst this;exact wpOp_mono (fun a' w' h'=>⟨⟨fun h0=>absurd h0 hc0,h'.1⟩,nY hQ hs ts _ a' w' (hcl.aD hi') (fun t ht=>hf t (by simp[ht])) hB.2 h'.2⟩) h1
  ·have hr':t∈Region.ready md ops listed:=(by simpa using hr);cases ho:ops[t]? with
   |none=>rw[ho]at hc;cases hc
   |some o=>
    rw[ho]at hc;obtain⟨v,hy,hK⟩:=nX ho hc h;exact dV (S:=fun _=>True) ho (Region.noSelect_spec hs) (fun c a w=>hQ c a _ _ w) (fun _ _ _ _ _ _ _ _ _=>trivial) _ listed a w hcl (Region.free_spec ho hfr) hr' hy trivial
     (nY hQ hs ts _ _ w (hcl.aD hr') (fun t ht=>hf t (by simp[ht])) hB.2 hK)
def lF:Op→Bool
 | .load .. =>true
 |_=>false
def AB(P:Program)(md:Region.Mode)(ops:Array Oper)(ts:List Nat):List Nat→Array Bool→Bool
 |[],listed=>BM md ops ts listed
 |i::es,listed=>(Region.ready md ops listed).contains i&&Region.free md ops listed i&& !ts.contains i&&
  (match ops[i]? with
   |some o=>mE o.op&&(worldless P o.op||(ts.all fun j=>bC md ops ops.size j i||(lF o.op&&(match ops[j]? with|some oj=>gV oj.op|none=>false))))
   |none=>false)&&
  AB P md ops ts es (listed.setIfInBounds i true)
theorem j4 {o:Oper} {a:Act} {K:Act→Prop} {w:World} (hv:mE o.op=true)
 (h:if Region.wanted o (yielded ops a.tmps)then o.still P a w K else K (a.put o.dst undef)):
 ∃v,YieldsIf P ops (fun u=>u=w) o v a∧(worldless P o.op=true→YieldsIf P ops (fun _=>True) o v a)∧(lF o.op=true→YieldsIf P ops (fun u=>Ext w u) o v a)∧K (a.put o.dst v):=by
 by_cases hw:Region.wanted o (yielded ops a.tmps)=true
 ·rw[if_pos hw]at h;unfold Oper.still at h;generalize hr:(execOp a.eval o).run P w=r at h;cases r with
  |halt x w'=>simp only[Oper.stillUpon]at h
  |ok n w'=>
   obtain⟨v,rfl⟩:=jr hv hr;simp only[Oper.stillUpon]at h;obtain⟨rfl,hK⟩:=h;refine⟨v,.inl ⟨hw,fun u hu=>by rw[hu];exact hr⟩,fun hl=> .inl ⟨hw,fun u _=>jG hl hr u⟩,fun hl=> .inl ⟨hw,fun u hu=> ?_⟩,hK⟩;cases ho:o.op<;>rw[ho]at hl<;>simp[lF]at hl;case load t x=>
    have e:execOp a.eval o=(do Pure.pure (.value (←Instr.loadAt t (a.eval x)))):=(by unfold execOp;rw[ho]);rw[e]at hr⊢;exact(Stb.bind (Stb.loadAt _ _) (fun _=>(Clear.pure _).stb) P _ _ _ hr).2 u hu
 ·rw[if_neg hw]at h;exact⟨undef,.inr ⟨by simpa using hw,rfl⟩,fun _=> .inr ⟨by simpa using hw,rfl⟩,fun _=> .inr ⟨by simpa using hw,rfl⟩,h⟩
theorem rT{w:World}(hQ:∀c a (d:Option Tmp) v w,Q (.panic c) (a.put d v) w→Q (.panic c) a w)(hs:Region.noSelect ops=true)(ts:List Nat):∀(es:List Nat) (listed:Array Bool) (a:Act),Closed md ops listed→
 AB P md ops ts es listed=true→wpStill P ops w (fun a'=>wpOps P ops Q ts a' w) (es.filterMap (ops[·]?)) a→nW P md ops Q (gI ops ts) (es.length+ts.length) listed a w
 |[],listed,a,hcl,hB,h=>by
  simp only[List.length_nil,Nat.zero_add];exact nY hQ hs ts listed a w hcl (fun t ht=>by simpa using ht) hB h
 |i::es,listed,a,hcl,hB,h=>by
  simp only[AB,Bool.and_eq_true]at hB;obtain⟨⟨⟨⟨hr,hf⟩,hnt⟩,hk⟩,hrest⟩:=hB;have hr':i∈Region.ready md ops listed:=(by simpa using hr);cases ho:ops[i]? with
  |none=>rw[ho]at hk;cases hk
  |some o=>
   rw[ho]at hk;simp only[Bool.and_eq_true,Bool.or_eq_true]at hk;rw[List.filterMap_cons_some ho]at h;obtain⟨v,hy,hy0,hyl,hK⟩:=j4 (K:=wpStill P ops w (fun a'=>wpOps P ops Q ts a' w) (es.filterMap (ops[·]?))) hk.1 h;have IH:=rT hQ hs ts es (listed.setIfInBounds i true) _ (hcl.aD hr') hrest hK;rw[List.length_cons,show es.length+1+ts.length=(es.length+ts.length)+1 by omega];rcases hk.2 with hl|hl
   ·exact dV (S:=fun _=>True) ho (Region.noSelect_spec hs) (fun c a w=>hQ c a _ _ w) (fun _ _ _ _ _ _ _ _ _=>trivial) _ listed a w hcl (Region.free_spec ho hf) hr' (hy0 hl) trivial IH
   ·by_cases hld:lF o.op=true
    ·refine dV (S:=fun u=>Ext w u) ho (Region.noSelect_spec hs) (fun c a w=>hQ c a _ _ w) (fun listed' j hcl' hj hun u u' hu hc=> ?_) _ listed a w hcl (Region.free_spec ho hf) hr' (hyl hld) (Ext.refl _) IH;cases hfj:ts.contains j with
     |false=>
      have:gI ops ts j=0:=(by unfold gI;rw[if_neg (by rw[hfj];simp)]);rw[hc.1 this];exact hu
     |true=>
      have hwj:=List.all_eq_true.1 hl j (by simpa using hfj);simp only[Bool.or_eq_true,Bool.and_eq_true]at hwj;rcases hwj with hwj|⟨_,hwj⟩
      ·rw[hcl'.ready hwj hj]at hun;cases hun
      ·cases hoj:ops[j]? with
       |none=>rw[hoj]at hwj;cases hwj
       |some oj=>
        rw[hoj]at hwj;have:gI ops ts j=1:=(by unfold gI;rw[if_pos hfj,hoj];simp[hwj]);exact hu.trans (hc.2 this)
    ·refine dV (S:=fun u=>u=w) ho (Region.noSelect_spec hs) (fun c a w=>hQ c a _ _ w) (fun listed' j hcl' hj hun u u' hu hc=> ?_) _ listed a w hcl (Region.free_spec ho hf) hr' hy rfl IH;cases hfj:ts.contains j with
     |false=>
      have:gI ops ts j=0:=(by unfold gI;rw[if_neg (by rw[hfj];simp)]);rw[hc.1 this];exact hu
     |true=>
      have hwj:=List.all_eq_true.1 hl j (by simpa using hfj);simp only[Bool.or_eq_true,Bool.and_eq_true]at hwj;rcases hwj with hwj|⟨h2,_⟩
      ·rw[hcl'.ready hwj hj]at hun;cases hun
      ·exact absurd h2 hld
def NI(P:Program)(ops:Array Oper)(es ts:List Nat):Bool:=
 Region.noSelect ops&&(es.length+ts.length==ops.size)&&AB P .any ops ts es (Array.replicate ops.size false)
theorem yN(ts:List Nat):∀(a:Act) (w:World),wpList P ops Q (ts.filterMap (ops[·]?)) a w→wpOps P ops Q ts a w:=by
 induction ts with
 |nil=>intro a w h;exact h
 |cons t ts ih=>
  intro a w h;rw[wpOps_cons];unfold wpOp;cases ho:ops[t]? with
  |none=>
   rw[List.filterMap_cons_none ho]at h;exact ih a w h
  |some o=>
   rw[List.filterMap_cons_some ho]at h;unfold wpList at h;dsimp only;split at h
   ·rename_i hw;rw[if_pos hw];exact h.imp (Oper.wp_mono fun a w=>ih a w) id
   ·rename_i hw;rw[if_neg hw];exact ih _ _ h
theorem mG{w:World}{K K':Act→Prop}(hk:∀a,K a→K' a):∀(os:List Oper) (a:Act),wpStill P ops w K os a→wpStill P ops w K' os a
 |[],a,h=>hk a h
 |o::os,a,h=>by
  unfold wpStill at h⊢;by_cases hw:Region.wanted o (yielded ops a.tmps)=true
  ·rw[if_pos hw]at h⊢;exact Oper.still_mono (fun a h=>mG hk os a h) h
  ·rw[if_neg hw]at h⊢;exact mG hk os _ h
theorem aY {id:Nat} {a:Act} {w:World} {l:List Oper} (es ts:List Nat) (hm:P.follows .mixedOrders=true) (hB:NI P l.toArray es ts=true)
 (hQ:∀c a (d:Option Tmp) v w,Q (.panic c) (a.put d v) w→Q (.panic c) a w)
 (h:wpStill P l.toArray w.drew (fun a'=>wpList P l.toArray Q (ts.filterMap (l[·]?)) a' w.drew) (es.filterMap (l[·]?)) a):(Code.region id l.toArray true).wp P Q a w:=by
 simp only[NI,Bool.and_eq_true,beq_iff_eq]at hB;obtain⟨⟨hs,hn⟩,hE⟩:=hB;refine wp_region_any hm (qJ (cls:=gI l.toArray ts) _ _ _ _ ?_);rw[←hn];refine rT (w:=w.drew) hQ hs ts es _ a (Closed.start _ _ _) (by rw[hn];exact hE) ?_;have e1:(fun(i:Nat)=>l.toArray[i]?)=fun(i:Nat)=>l[i]?:=(by funext i;simp);rw[e1];refine mG (fun a' h=>yN ts a' _ ?_) _ _ h;rw[e1];exact h
end
end Go.Inq
namespace Go.Inq
open Go.Lib
theorem rU(d:Array Int)(hs:∀i j,i≤j→j<d.size→d[i]!≤d[j]!):∀m,m≤d.size→
 (compactUpTo d m).Pairwise (·<·)∧∀x,x∈compactUpTo d m↔∃j,j<m∧d[j]! =x
 |0,_=>⟨by simp[compactUpTo],fun x=>by simp[compactUpTo]⟩
 |m+1,hm=>by
  obtain⟨h1,h2⟩:=rU d hs m (by omega);rw[compactUpTo_succ];by_cases hk:keeps d m=true
  ·rw[if_pos hk];refine⟨List.pairwise_append.2 ⟨h1,by simp,fun a ha b hb=> ?_⟩,fun x=> ?_⟩
   ·obtain rfl:b=d[m]! :=(by simpa using hb);obtain⟨j,hj,rfl⟩:=(h2 a).1 ha;have hne:d[m]!≠d[m-1]! :=by
     unfold keeps at hk;have:=of_decide_eq_true hk;rcases this with h|h
     ·omega
     ·exact h
    have e1:=hs j (m-1) (by omega) (by omega);have e2:=hs (m-1) m (by omega) (by omega);omega
   ·rw[List.mem_append,h2];constructor
    ·rintro(⟨j,hj,e⟩|h)
     ·exact⟨j,by omega,e⟩
     ·exact⟨m,by omega,by simpa using(List.mem_singleton.1 h).symm⟩
    ·rintro⟨j,hj,e⟩;by_cases he:j=m
     ·subst he;exact .inr (by simp[e])
     ·exact .inl ⟨j,by omega,e⟩
  ·rw[if_neg hk,List.append_nil];refine⟨h1,fun x=> ?_⟩;rw[h2];have hk2:¬(m=0∨d[m]!≠d[m-1]!):=fun h=>hk (by unfold keeps;exact decide_eq_true h);constructor
   ·rintro⟨j,hj,e⟩;exact⟨j,by omega,e⟩
   ·rintro⟨j,hj,e⟩;by_cases he:j=m
    ·subst he;exact⟨j-1,by omega,by rw[←e];exact Eq.symm (Classical.byContradiction fun h=>hk2 (.inr h))⟩
    ·exact⟨j,by omega,e⟩
theorem Gj:∀{a b:List Int},a.Pairwise (·<·)→b.Pairwise (·<·)→(∀x,x∈a↔x∈b)→a=b
 |[],[],_,_,_=>rfl
 |[],y::_,_,_,h=>by have:=(h y).2 (by simp);cases this
 |x::_,[],_,_,h=>by have:=(h x).1 (by simp);cases this
 |x::a,y::b,ha,hb,h=>by
  rw[List.pairwise_cons]at ha hb;have hxy:x=y:=by
   have h1:=(h x).1 (by simp);have h2:=(h y).2 (by simp);rw[List.mem_cons]at h1 h2;rcases h1 with h1|h1
   ·exact h1
   ·rcases h2 with h2|h2
    ·exact h2.symm
    ·have:=ha.1 _ h2;have:=hb.1 _ h1;omega
  subst hxy;rw[Gj ha.2 hb.2 (fun z=> ?_)];have hz:=h z;rw[List.mem_cons,List.mem_cons]at hz;constructor
  ·intro hm;rcases hz.1 (.inr hm)with e|e
   ·have:=ha.1 _ hm;omega
   ·exact e
  ·intro hm;rcases hz.2 (.inr hm)with e|e
   ·have:=hb.1 _ hm;omega
   ·exact e
theorem nZ(l:List Int):(compact (l.mergeSort fun x y=>decide (x≤y))).Pairwise (·<·)∧∀x,x∈compact (l.mergeSort fun x y=>decide (x≤y))↔x∈l:=by
 have hp:=List.pairwise_mergeSort (le:=fun x y:Int=>decide (x≤y)) (fun a b c h1 h2=>by simp at*;omega) (fun a b=>by simp;omega) l;have hm:∀x,x∈(l.mergeSort fun x y=>decide (x≤y))↔x∈l:=fun x=>List.mem_mergeSort;generalize(l.mergeSort fun x y=>decide (x≤y))=s at*;have hs:∀i j,i≤j→j<s.toArray.size→s.toArray[i]!≤s.toArray[j]! :=by
  intro i j hij hj;have hj':j<s.length:=(by simpa using hj);rw[getElem!_pos s.toArray i (by simp;omega),getElem!_pos s.toArray j hj];rcases Nat.lt_or_eq_of_le hij with h|h
  ·have:=List.pairwise_iff_getElem.1 hp i j (by omega) hj' h;simpa using this
  ·subst h;exact Int.le_refl _
 obtain⟨h1,h2⟩:=rU s.toArray hs s.length (by simp);refine⟨h1,fun x=> ?_⟩;unfold compact;rw[h2,←hm];constructor
 ·rintro⟨j,hj,rfl⟩;rw[getElem!_pos s.toArray j (by simpa using hj)];simp
 ·intro h;obtain⟨j,hj,rfl⟩:=List.getElem_of_mem h;exact⟨j,hj,by rw[getElem!_pos s.toArray j (by simpa using hj)];simp⟩
structure Cho where
 key:Int
 a:Int
 b:Int
deriving DecidableEq
def aL(H:List Txn)(t:Nat):Txn:=H.getD t ⟨0,[],[]⟩
theorem aO{H:List Txn}{t:Nat}(h:t<H.length):aL H t=H[t]:=by unfold aL;rw[List.getD_eq_getElem?_getD,List.getElem?_eq_getElem h];rfl
def fO(H:List Txn)(key:Int)(n:Nat):List Nat:=(List.range n).filter fun t=>(aL H t).writes.contains key
def fE(H:List Txn)(key:Int):List Nat:=fO H key H.length
theorem wP(H:List Txn)(key:Int)(n:Nat):fO H key (n+1)=fO H key n++(if(aL H n).writes.contains key then[n]else[]):=by
 unfold fO;rw[List.range_succ,List.filter_append];congr 1;rw[List.filter_cons,List.filter_nil]
theorem jH{H:List Txn}{key:Int}{t:Nat}:t∈fE H key↔t<H.length∧key∈(aL H t).writes:=by
 unfold fE fO;rw[List.mem_filter,List.mem_range,List.contains_iff_mem]
theorem G6(H:List Txn)(key:Int):(fE H key).Pairwise (·<·):=List.Pairwise.filter _ List.pairwise_lt_range
theorem og(H:List Txn)(key:Int):(fE H key).length≤H.length:=Nat.le_trans (List.length_filter_le _ _) (by simp)
def dW(H:List Txn):List Int:=compact ((H.map (·.writes)).flatten.mergeSort fun x y=>decide (x≤y))
theorem zh{H:List Txn}{k:Int}:k∈dW H↔∃t,t∈H∧k∈t.writes:=by
 unfold dW;rw[(nZ _).2,List.mem_flatten];constructor
 ·rintro⟨l,hl,hk⟩;obtain⟨t,ht,rfl⟩:=List.mem_map.1 hl;exact⟨t,ht,hk⟩
 ·rintro⟨t,ht,hk⟩;exact⟨t.writes,List.mem_map_of_mem ht,hk⟩
theorem Ea(H:List Txn):(dW H).Pairwise (·<·):=(nZ _).1
theorem wQ{H:List Txn}(h:∀t∈H,∀k∈t.writes,0≤k∧k<16):dW H=((List.range 16).filter fun(k:Nat)=>decide (fE H (k:Int)≠[])).map fun(k:Nat)=>(k:Int):=by
 refine Gj (Ea H) ?_ (fun x=> ?_)
 ·refine List.pairwise_map.2 ?_;exact(List.Pairwise.filter _ List.pairwise_lt_range).imp (fun hab=>by omega)
 ·rw[zh];constructor
  ·rintro⟨t,ht,hx⟩;have hb:=h t ht x hx;obtain⟨i,hi,rfl⟩:=List.getElem_of_mem ht;refine List.mem_map.2 ⟨x.toNat,List.mem_filter.2 ⟨by simp;omega,?_⟩,by omega⟩;rw[show((x.toNat:Nat):Int)=x by omega];refine decide_eq_true (fun e=> ?_);have:i∈fE H x:=jH.2 ⟨hi,by rw[aO hi];exact hx⟩;rw[e]at this;cases this
  ·intro hx;obtain⟨k,hk,rfl⟩:=List.mem_map.1 hx;obtain⟨_,hk2⟩:=List.mem_filter.1 hk;have hk3:=of_decide_eq_true hk2;cases hw:fE H (k:Int)with
   |nil=>exact absurd hw hk3
   |cons t r=>
    have:t∈fE H (k:Int):=(by rw[hw];simp);obtain⟨h1,h2⟩:=jH.1 this;rw[aO h1]at h2;exact⟨_,List.getElem_mem h1,h2⟩
def fJ(key:Int):List Nat→List Cho
 |[]=>[]
 |a::r=>r.map (fun(b:Nat)=>(⟨key,a,b⟩:Cho))++fJ key r
def aM(H:List Txn):List Cho:=((dW H).map fun k=>fJ k (fE H k)).flatten
def yO(H:List Txn)(key src:Int):List Nat:=((List.range H.length).map fun t=>((aL H t).reads.filter fun r=>decide (r.a=key)&&decide (r.b=src)).map fun _=>t).flatten
theorem wR{H:List Txn}{key src:Int}{t:Nat}:t∈yO H key src↔t<H.length∧∃r∈(aL H t).reads,r.a=key∧r.b=src:=by
 unfold yO;rw[List.mem_flatten];constructor
 ·rintro⟨l,hl,ht⟩;obtain⟨u,hu,rfl⟩:=List.mem_map.1 hl;obtain⟨r,hr,rfl⟩:=List.mem_map.1 ht;obtain⟨h1,h2⟩:=List.mem_filter.1 hr;exact⟨by simpa using hu,r,h1,by simpa using h2⟩
 ·rintro⟨h,r,hr,hk⟩;exact⟨_,List.mem_map.2 ⟨t,by simpa using h,rfl⟩,List.mem_map.2 ⟨r,List.mem_filter.2 ⟨hr,by simpa using hk⟩,rfl⟩⟩
end Go.Inq
namespace Go.Inq
def aV(p:Nat→Bool):Nat→Nat
 |0=>0
 |n+1=>aV p n|||(if p n then 2^n else 0)
theorem aP(p:Nat→Bool):∀(n i:Nat),(aV p n).testBit i=(decide (i<n)&&p i)
 |0,i=>by simp[aV]
 |n+1,i=>by
  unfold aV;rw[Nat.testBit_or,aP p n i];by_cases h:i=n
  ·subst h;cases hp:p i<;>simp[hp,Nat.testBit_two_pow]
  ·have h2:(if p n=true then 2^n else 0).testBit i=false:=by
    split
    ·rw[Nat.testBit_two_pow];simp;omega
    ·simp
   rw[h2];have h3:decide (i<n+1)=decide (i<n):=(by simp;omega);rw[h3];simp
theorem j5(p:Nat→Bool)(n:Nat):aV p n<2^n:=by
 refine Nat.lt_pow_two_of_testBit _ (fun i hi=> ?_);rw[aP];simp;omega
theorem AJ{p:Nat→Bool}{n x:Nat}(hx:x<2^n)(h:∀i,i<n→x.testBit i=p i):x=aV p n:=by
 refine Nat.eq_of_testBit_eq (fun i=> ?_);rw[aP];by_cases hi:i<n
 ·rw[h i hi];simp[hi]
 ·rw[Nat.testBit_lt_two_pow (Nat.lt_of_lt_of_le hx (Nat.pow_le_pow_right (by decide) (by omega)))];simp[hi]
theorem dN{p q:Nat→Bool}{n:Nat}(h:∀i,i<n→p i=q i):aV p n=aV q n:=
 AJ (j5 p n) (fun i hi=>by rw[aP,h i hi];simp[hi])
theorem Oc(x i:Nat)(j:Nat):(x|||2^i).testBit j=(x.testBit j||decide (i=j)):=by
 rw[Nat.testBit_or,Nat.testBit_two_pow]
theorem and_one(x i:Nat):(x&&&2^i=0)↔x.testBit i=false:=by
 constructor
 ·intro h;have:=congrArg (fun y=>y.testBit i) h;simpa[Nat.testBit_and,Nat.testBit_two_pow]using this
 ·intro h;refine Nat.eq_of_testBit_eq (fun j=> ?_);rw[Nat.testBit_and,Nat.testBit_two_pow];by_cases e:i=j
  ·subst e;simp[h]
  ·simp[e]
def dI(n:Nat)(E:Nat→Nat→Bool):List Nat:=(List.range n).map fun a=>aV (E a) n
theorem aQ(n:Nat)(E:Nat→Nat→Bool):(dI n E).length=n:=by simp[dI]
theorem fT{n:Nat}{E:Nat→Nat→Bool}{a:Nat}(h:a<n):(dI n E)[a]'(by rw[aQ];exact h)=aV (E a) n:=by simp[dI]
theorem uM{n:Nat}{E F:Nat→Nat→Bool}(h:∀a b,a<n→b<n→E a b=F a b):dI n E=dI n F:=by
 unfold dI;refine List.map_congr_left (fun a ha=>dN (fun b hb=>h a b (by simpa using ha) hb))
def iP(x:Nat):List Nat:=(List.range 64).filter fun i=>x.testBit i
theorem rV(p:Nat→Bool)(k:Nat)(hk:p k=true)(hl:∀i,i<k→p i=false):∀n,k<n→(List.range n).filter p=k::(List.range n).filter (fun i=>p i&&decide (i≠k))
 |0,h=>absurd h (by omega)
 |n+1,h=>by
  rw[List.range_succ,List.filter_append,List.filter_append];by_cases e:k=n
  ·subst e;have h1:(List.range k).filter p=[]:=by
    rw[List.filter_eq_nil_iff];intro i hi;rw[hl i (by simpa using hi)];simp
   have h2:(List.range k).filter (fun i=>p i&&decide (i≠k))=[]:=by
    rw[List.filter_eq_nil_iff];intro i hi;rw[hl i (by simpa using hi)];simp
   rw[h1,h2];simp[hk]
  ·rw[rV p k hk hl n (by omega)];have e2:decide (n≠k)=true:=(by simp;omega);simp only[List.filter_cons,List.filter_nil,e2,Bool.and_true,List.cons_append]
theorem AL(k m i:Nat):(2^k*(2*m+1)).testBit i=(decide (k≤i)&&(decide (i=k)||m.testBit (i-k-1))):=by
 rw[Nat.mul_comm,Nat.testBit_mul_two_pow];by_cases h:k≤i
 ·by_cases e:i=k
  ·subst e;simp[Nat.testBit_zero]
  ·obtain⟨j,rfl⟩:∃j,i=k+(j+1):=⟨i-k-1,by omega⟩;rw[show k+(j+1)-k=j+1 by omega,Nat.testBit_succ,show(2*m+1)/2=m by omega,show j+1-1=j by omega];simp
 ·simp[h]
theorem J6(k m i:Nat):(2^k*(2*m+1)-1).testBit i=(decide (i<k)||(decide (k<i)&&m.testBit (i-k-1))):=by
 have e:2^k*(2*m+1)-1=2^k*(2*m)+(2^k-1):=by
  have:=Nat.two_pow_pos k;rw[Nat.mul_add,Nat.mul_one];omega
 rw[e,Nat.testBit_two_pow_mul_add _ (by have:=Nat.two_pow_pos k;omega)];by_cases h:i<k
 ·rw[if_pos h,Nat.testBit_two_pow_sub_one];simp[h]
 ·rw[if_neg h];by_cases e:i=k
  ·subst e;simp[Nat.testBit_zero]
  ·obtain⟨j,rfl⟩:∃j,i=k+(j+1):=⟨i-k-1,by omega⟩;rw[show k+(j+1)-k=j+1 by omega,Nat.testBit_succ,show 2*m/2=m by omega,show j+1-1=j by omega,decide_eq_false h,decide_eq_true (show k<k+(j+1) by omega)];simp
theorem J7(x:Nat)(h0:x≠0)(hx:x<2^64):x.testBit (Lib.ctz 64 x)=true∧(∀i,i<Lib.ctz 64 x→x.testBit i=false)∧Lib.ctz 64 x<64∧∀i,(x&&&(x-1)).testBit i=(x.testBit i&&decide (i≠Lib.ctz 64 x)):=by
 have e:Lib.ctz 64 x=Lib.ctzFrom 64 x:=(by unfold Lib.ctz;rw[if_neg h0]);rw[e];obtain⟨m,hm,hk⟩:=Lib.ctzFrom_spec 64 x (by omega) hx;generalize Lib.ctzFrom 64 x=k at*;subst hm;refine⟨?_,?_,hk,?_⟩
 ·rw[AL];simp
 ·intro i hi;rw[AL];simp;omega
 ·intro i;rw[Nat.testBit_and,AL,J6];by_cases h1:i<k
  ·have:¬k≤i:=(by omega);simp[this]
  ·by_cases h2:i=k
   ·subst h2;simp
   ·have h3:k<i:=(by omega);have h4:k≤i:=(by omega);simp[h1,h2,h3,h4]
theorem qK(x:Nat)(h0:x≠0)(hx:x<2^64):iP x=Lib.ctz 64 x::iP (x&&&(x-1)):=by
 obtain⟨h1,h2,h3,h4⟩:=J7 x h0 hx;unfold iP;rw[rV _ _ h1 h2 64 h3];congr 1;refine List.filter_congr (fun i _=>(h4 i).symm)
theorem Eb:iP 0=[]:=by simp[iP]
theorem J8(x:Nat)(hx:x<2^64):x&&&(x-1)<2^64:=Nat.lt_of_le_of_lt Nat.and_le_left hx
theorem G7(x:Nat):(iP x).length≤64:=Nat.le_trans (List.length_filter_le _ _) (by simp)
theorem BN{n:Nat}{E:Nat→Nat→Bool}{x:Nat}(h:x∈dI n E):x<2^n:=by
 unfold dI at h;obtain⟨a,_,rfl⟩:=List.mem_map.1 h;exact j5 _ _
abbrev aj:=Nat→Nat→Bool
def orE(E F:aj):aj:=fun a b=>E a b||F a b
def j6(n:Nat)(E F:aj):aj:=fun a c=>(List.range n).any fun b=>E a b&&F b c
def eT(E:aj):aj:=fun a b=>E b a
def soE(H:List Txn):aj:=fun a b=>decide (a<b)&&decide ((aL H a).bL=(aL H b).bL)
def wrE(H:List Txn):aj:=fun a b=>decide (a≠b)&&(aL H b).reads.any fun r=>decide (r.b=(a:Int))
def lK(H:List Txn):aj:=fun a b=>decide (a≠b)&&(aL H a).reads.any fun r=>decide (r.b= -1)&&(aL H b).writes.contains r.a
def dX(H:List Txn):aj:=orE (soE H) (wrE H)
def wwE(l:List Cho):aj:=fun a b=>l.any fun c=>decide (c.a=(a:Int))&&decide (c.b=(b:Int))
def rwE(H:List Txn)(l:List Cho):aj:=fun t b=>lK H t b||l.any fun c=>decide (c.b=(b:Int))&&decide (t≠b)&&(aL H t).reads.any fun r=>decide (r.a=c.key)&&decide (r.b=c.a)
def bK(H:List Txn)(level:Int)(l:List Cho):aj:=
 let d:=orE (dX H) (wwE l)
 orE d (if level=1 then j6 H.length d (rwE H l)else rwE H l)
theorem G8{H:List Txn}{a b:Nat}(ha:a<H.length)(hb:b<H.length):lK H a b=true↔a≠b∧∃k∈dW H,a∈yO H k (-1)∧b∈fE H k:=by
 unfold lK;rw[Bool.and_eq_true,List.any_eq_true];constructor
 ·rintro⟨h1,r,hr,h2⟩;rw[Bool.and_eq_true,List.contains_iff_mem]at h2;refine⟨of_decide_eq_true h1,r.a,zh.2 ⟨H[b],List.getElem_mem hb,by rw[←aO hb];exact h2.2⟩,wR.2 ⟨ha,r,hr,rfl,of_decide_eq_true h2.1⟩,jH.2 ⟨hb,h2.2⟩⟩
 ·rintro⟨h1,k,_,hr,hw⟩;obtain⟨_,r,hr2,rfl,e⟩:=wR.1 hr;exact⟨decide_eq_true h1,r,hr2,by rw[Bool.and_eq_true,List.contains_iff_mem];exact⟨decide_eq_true e,(jH.1 hw).2⟩⟩
def jm(n:Nat)(E:aj)(l:List Nat):Option Nat:=(List.range n).find? fun v=> !l.contains v&&(List.range n).all fun x=> !E x v||l.contains x
def bX(n:Nat)(E:aj):Nat→Option (List Nat)
 |0=>some []
 |k+1=>match bX n E k with
  |none=>none
  |some l=>match jm n E l with
   |none=>none
   |some v=>some (l++[v])
def fK(n:Nat)(E:aj):Option (List Nat):=bX n E n
theorem fU{n:Nat}{E:aj}:∀{k:Nat} {l:List Nat},bX n E k=some l→l.length=k
 |0,l,h=>by unfold bX at h;injection h with h;subst h;rfl
 |k+1,l,h=>by
  unfold bX at h;split at h
  ·cases h
  ·rename_i l0 h0;split at h
   ·cases h
   ·injection h with h;subst h;simp[fU h0]
structure Wd where
 width:Int
 cut:Bool
 path:List Int
 left:List (List Int)
deriving DecidableEq
end Go.Inq
namespace Go.Proofs.YtfhnamomiaekdaaGreatDoor
open Go.RowKit Go.Inq
def AO(l:List Int)(x:Int):Int:=match l.findIdx? (·==x)with|some k=>k|none=> -1
theorem J9{l:List Int}{x:Int}{k:Nat}(hk:k<l.length)(h:l[k]=x)(h0:∀j (hj:j<l.length),j<k→l[j]≠x):AO l x=k:=by
 unfold AO;have:l.findIdx? (·==x)=some k:=by
  rw[List.findIdx?_eq_some_iff_getElem];exact⟨hk,by simpa using h,fun j hj=>by simpa using h0 j (by omega) hj⟩
 rw[this]
theorem zi{l:List Int}{x:Int}(h0:∀j (hj:j<l.length),l[j]≠x):AO l x= -1:=by
 unfold AO;have:l.findIdx? (·==x)=none:=by
  rw[List.findIdx?_eq_none_iff];intro y hy;obtain⟨j,hj,rfl⟩:=List.getElem_of_mem hy;simpa using h0 j hj
 rw[this]
theorem yP(l:List Int)(x:Int):decide (0≤AO l x)=l.contains x:=by
 by_cases h:x∈l
 ·rw[List.contains_iff_mem.2 h];unfold AO;cases hf:l.findIdx? (·==x)with
  |none=>
   rw[List.findIdx?_eq_none_iff]at hf;have:=hf x h;simp at this
  |some k=>simp
 ·have:l.contains x=false:=(by simpa using h);rw[this,zi (fun j hj e=>h (by rw[←e];exact List.getElem_mem hj))];rfl
end Go.Proofs.YtfhnamomiaekdaaGreatDoor
