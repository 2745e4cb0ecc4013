/-
  A whole row copied into a row of the call's own; no program in sight.
-/
import Derived.Laws.CopyOwn
import Derived.Test.YtpjechjoijjhpaaGreatDoorZ02
set_option linter.unusedVariables false
set_option linter.unusedSimpArgs false
namespace Go.Inq
open Go Go.RowKit
theorem tN {P:Program} {w:World} {ops:Array Oper} {rest:List Oper} {o:Oper} {a:Act} {Q:Exit→Act→World→Prop} {α:Type} (f:α→Value)
 (hgd:o.guard=none) (d s:Operand) (dT sT:TypeId) (ho:o.op= .call {callee:= .builtin .copy,args:=#[d,s],argTypes:=#[dT,sT]})
 (elem:TypeId) (hu:P.underlying dT=some (.slice elem)) (hsz:(P.info? elem).map (·.size)=some 1)
 (g n dc c:Nat) (A:Option Addr) (hd:a.eval d= .slice (some ⟨g,0,none⟩) n dc) (hs:a.eval s= .slice A n c)
 (cur:Array Value) (t:TypeId) (hg:Blk w g t cur) (hcur:cur.size=n) (l:List α) (hl:l.length=n)
 (hsrc:∀i (hi:i<l.length),∃b off,A=some ⟨b,off,none⟩∧w.cell? ⟨b,off+i,none⟩=some (f l[i])) (h1:∀x∈l,(f x).oneCell'=true)
 (h:∀w',Blk w' g t (l.map f).toArray→w.grownBy w' (some g)→wpList P ops Q rest (a.put o.dst (goInt n)) w'):wpList P ops Q (o::rest) a w:=by
 by_cases h0:n=0
 ·subst h0;have:l=[]:=List.eq_nil_of_length_eq_zero hl;subst this;have hc:cur=#[]:=Array.eq_empty_of_size_eq_zero hcur;subst hc;exact wpList_copy_nothing hgd d s dT sT ho elem hu hsz _ _ 0 dc 0 c hd hs rfl (h w (by simpa using hg) ⟨rfl,rfl,rfl,Nat.le_refl _,fun _ _ _=>rfl⟩)
 ·obtain⟨b,off,rfl,_⟩:=hsrc 0 (by omega);have hcs:(l.map f).length=n:=(by simpa using hl);refine wpList_copy_own hgd d s dT sT ho elem hu hsz g 0 n dc ⟨b,off,none⟩ n c hd hs cur t hg (l.map f) (by rw[hcs];simp[Nat.min_def]) (fun j v hj=> ?_) (by rw[hcs];omega) (fun v hv=> ?_) ?_
  ·rw[List.getElem?_map]at hj;cases hlj:l[j]? with
   |none=>rw[hlj]at hj;cases hj
   |some x=>
    rw[hlj]at hj;injection hj with hj
    obtain⟨hjl,rfl⟩:=List.getElem?_eq_some_iff.1 hlj;obtain⟨b',off',hA,hc⟩:=hsrc j hjl;injection hA with hA
    injection hA with e1 e2
    subst e1 e2;rw[Addr.add_lit,←hj];exact hc
  ·obtain⟨x,hx,rfl⟩:=List.mem_map.1 hv;exact h1 x hx
  ·rw[hcs];have e:(cur.toList.take 0++(l.map f++cur.toList.drop (0+n))).toArray=(l.map f).toArray:=by
    rw[List.drop_of_length_le (by simp;omega)];simp
   rw[e];exact h _ (setRow_heap w g cur _ t _ hg) ⟨rfl,rfl,rfl,by simp[World.setRow],fun k hk hne=>setRow_other w g k _ (fun e=>hne (by rw[e]))⟩
section
variable{w W:World}{o:Obj}{K:Nat→Prop}
theorem Blk.av{g:Nat}{t:TypeId}{cs:Array Value}(h:Blk w g t cs)(e:w.alloc o=W):Blk W g t cs:=by subst e;exact h.alloc o
theorem Agree.av(e:w.alloc o=W)(hk:∀b,K b→b<w.heap.size):Agree K w W:=by subst e;exact Agree.alloc hk o
theorem ah{B:Nat}{w0:World}(h:Below B w0 w)(e:w.alloc o=W)(hB:B≤w.heap.size):Below B w0 W:=by subst e;exact h.alloc hB o
theorem Blk.newEq{t:TypeId}{cs:Array Value}(e:w.alloc (.cells cs t)=W):Blk W w.heap.size t cs:=by subst e;exact Blk.new _ _ _
theorem Blk.fG{t:TypeId}{cs:Array Value}(e:(w.alloc (.cells cs t)).alloc o=W):Blk W w.heap.size t cs:=by subst e;exact(Blk.new _ _ _).alloc _
theorem Blk.eP{t:TypeId}{cs:Array Value}(e:(w.alloc o).alloc (.cells cs t)=W):Blk W (w.heap.size+1) t cs:=by
 subst e;have:=Blk.new (w.alloc o) t cs;simpa using this
theorem size_two{o':Obj}(e:(w.alloc o).alloc o'=W):W.heap.size=w.heap.size+2:=by subst e;simp
theorem aF{o':Obj}(e:(w.alloc o).alloc o'=W):Below w.heap.size w W:=by subst e;exact((Below.refl _ _).alloc (Nat.le_refl _) _).alloc (by simp) _
theorem Blk.vK{o':Obj}{t:TypeId}{cs:Array Value}(e:((w.alloc (.cells cs t)).alloc o).alloc o'=W):Blk W w.heap.size t cs:=by subst e;exact((Blk.new _ _ _).alloc _).alloc _
theorem Blk.sj{o':Obj}{t:TypeId}{cs:Array Value}(e:((w.alloc o).alloc (.cells cs t)).alloc o'=W):Blk W (w.heap.size+1) t cs:=by
 subst e;have:=(Blk.new (w.alloc o) t cs).alloc o';simpa using this
theorem Blk.su{o':Obj}{t:TypeId}{cs:Array Value}(e:((w.alloc o).alloc o').alloc (.cells cs t)=W):Blk W (w.heap.size+1+1) t cs:=by
 subst e;have:=Blk.new ((w.alloc o).alloc o') t cs;simpa using this
theorem sw{o' o'':Obj}(e:((w.alloc o).alloc o').alloc o''=W):W.heap.size=w.heap.size+3:=by subst e;simp
theorem gJ{o' o'':Obj}(e:((w.alloc o).alloc o').alloc o''=W):Below w.heap.size w W:=by subst e;exact(((Below.refl _ _).alloc (Nat.le_refl _) _).alloc (by simp) _).alloc (by simp;omega) _
theorem aB(e:w.alloc o=W):W.heap.size=w.heap.size+1:=by subst e;simp
end
theorem ak{w w' w'':World}{r:Option Nat}(h:w.grownBy w' r)(h':w'.grownBy w'' r):w.grownBy w'' r:=
 ⟨h'.os.trans h.os,h'.tape.trans h.tape,h'.output.trans h.output,Nat.le_trans h.size h'.size,fun k hk hne=>(h'.block k (Nat.lt_of_lt_of_le hk h.size) hne).trans (h.block k hk hne)⟩
theorem bW{w w':World}{B:Nat}{r:Option Nat}(hb:Below B w w')(hB:w.heap.size≤B):w.grownBy w' r:=⟨hb.os,hb.tape,hb.output,hb.size,fun k hk _=>hb.block k (by omega)⟩
theorem dQ{w:World}(g i:Nat)(u:Value):w.grownBy (w.setCell ⟨g,i,none⟩ u) (some g):=
 ⟨rfl,rfl,rfl,by simp,fun k hk hne=>Below.heap_setCell w ⟨g,i,none⟩ u k (fun e=>hne (by simp at e;rw[e]))⟩
theorem iA{w:World}{r:Option Nat}:w.grownBy w.drew r:=⟨rfl,rfl,rfl,Nat.le_refl _,fun _ _ _=>rfl⟩
theorem Agree.lU{K:Nat→Prop}{w w':World}{g:Nat}(h:w.grownBy w' (some g))(hK:∀b,K b→b<g)(hg:g≤w.heap.size):Agree K w w':=Agree.grown h fun b hb=>⟨by have:=hK b hb;omega,by have:=hK b hb;simp;omega⟩
end Go.Inq
