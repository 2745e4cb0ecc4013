/-
  Walks: layer 9: who reads a key from somebody.
-/
import Derived.Maps.OwnIn
import Derived.Deep.WholeRow
import Derived.Test.YtpjechjoijjhpaaGreatDoorZ16
import Derived.Test.YtpjechjoijjhpaaGreatDoorZ02
import Derived.Test.YtpjechjoijjhpaaGreatDoorZ09
import Derived.Test.YtpjechjoijjhpaaGreatDoorZ01
set_option linter.unusedVariables false
set_option linter.unusedSimpArgs false
namespace Go.Proofs.YtpjechjoijjhpaaGreatDoor
open Go.RowKit Go.Inq Go.Shelf
set_option maxHeartbeats 4000000
attribute [local go_sem] Oper.semAt_some
attribute [local go_sem↓] Go.wp_at_zero Go.wp_at_succ
theorem Ig(v:Value)(w:World):Calls Tryz.prog 158 #[.agg #[v]] w fun e w'=>e= .returned (.func (.func 165) #[] #[.pointer (some ⟨w.heap.size,0,none⟩)])∧w'=w.alloc (.cells #[v] 24):=by
 go_enter Tryz.func158,Tryz.ntmps158;go_wp2;go_ret;exact⟨rfl,rfl⟩
theorem Ih{n₀:Nat}{w:World}(hn:n₀≤w.heap.size)(W:World)(l:Nat)(o o':Obj)(hl:w.heap.size≤l)(_:W.heap[l]?=some o)(_:o.isCells=false)(_:o.isWalk=false):Below n₀ W (W.putObj l o'):=
 ⟨rfl,rfl,rfl,by simp,fun k hk=>World.putObj_heap_other (by omega)⟩
theorem Dz(Bh n₀ c:Nat)(A:Option Addr)(H:List Txn)(hS:aA H)(hr:aG H=true)(w:World)(hBn:Bh<w.heap.size)(hnW:n₀≤w.heap.size)(hc:w.cell? ⟨Bh,0,none⟩=some (.slice A H.length c))(hT:aC w (fun b=>b<n₀) (.slice A H.length c) H):
 SeqStopsK Fence.wide (3-1) Tryz.prog 165 #[.pointer (some ⟨Bh,0,none⟩)] (fun x:Nat×It=>#[E8 x]) (fun W W'=>Below n₀ W W') (fun ys=>ys=iT H) (fun pre=>pre<+:iT H) (iT H).length w:=fun l J Jx W hW hJ _ hY h0=>
 Le (3-1) (by omega) l Bh n₀ c A H hS hr J Jx W hJ hY ((hW.cell (p:=⟨Bh,0,none⟩) hBn).trans hc) (Nat.le_trans hnW hW.size) (aC.keep hT (Agree.below hW fun b h=>Nat.lt_of_lt_of_le h hnW) (fun b h=>h)) h0
def mM(key src:Int)(l:List (Nat×It)):List Nat:=(l.filter fun x=>decide (x.2.a=key)&&decide (x.2.b=src)).map (·.1)
theorem Lf(key src:Int)(l:List (Nat×It))(x:Nat×It):mM key src (l++[x])=mM key src l++(if decide (x.2.a=key)&&decide (x.2.b=src)then[x.1]else[]):=by
 unfold mM;rw[List.filter_append,List.map_append];congr 1;cases h:decide (x.2.a=key)&&decide (x.2.b=src)<;>simp[List.filter_cons,h]
theorem E9(H:List Txn)(key src:Int):mM key src (iT H)=AJ H key src:=by
 unfold mM iT dw AJ;rw[List.filter_flatten,List.map_flatten,List.map_map,List.map_map];congr 1;refine List.map_congr_left fun t _=> ?_;simp only[Function.comp_apply,uD,List.filter_map,List.map_map];rfl
theorem pq{H:List Txn}(h:∀i (hi:i<H.length),H[i].reads.length≤1000000):∀k,k≤H.length→(dw H k).length≤k*1000000
 |0,_=>by simp[dw]
 |k+1,hk=>by
  rw[nX,List.length_append,aQ (by omega)];have:=pq h k (by omega);have:=h k (by omega);simp only[uD,List.length_map];omega
theorem zx{H:List Txn}(hn:aA H)(hr:aG H=true):(iT H).length≤32000000:=by
 have h32:H.length≤32:=((aD H).1 hr).1;have:=pq (fun i hi=>(hn.2 _ (List.getElem_mem hi)).2) H.length (Nat.le_refl _);unfold iT;omega
theorem boxed_own{X Y:World}{row:Option Nat}{B:Nat}{t:TypeId}{v:Value}(hs:Boxed X B t v)(hg:X.grownBy Y row)(hrow:∀r,row=some r→∃o:Obj,X.heap[r]?=some o∧o.isCells=false):Boxed Y B t v:=
 hs.kept hg (fun e'=>by obtain⟨o,ho,hc⟩:=hrow B e'.symm;rw[show X.heap[B]?=_ from hs]at ho;cases ho;cases hc)
theorem Oq{w:World}{base base':Nat}{e:TypeId}{size n:Nat}{v:Value}{xs:List Value}(h:w.ownsRow base e size v n xs)(hb:base'≤base):w.ownsRow base' e size v n xs:=by
 refine⟨h.1,?_⟩;rcases h.2 with h2|⟨g,cap,cur,hv,hg,r⟩
 ·exact .inl h2
 ·exact .inr ⟨g,cap,cur,hv,Nat.le_trans hb hg,r⟩
theorem Bb {F:Fence} {nF:Nat} {P:Program} {W:World} {ops:Array Oper} {rest:List Oper} {o:Oper} {a:Act} {Q:Exit→Act→World→Prop}
 (hgd:o.guard=none) (s x:Operand) (t:TypeId) (ho:o.op= .call {callee:= .builtin .append,args:=#[s,x],argTypes:=#[t,t]})
 (base:Nat) (e:TypeId) (i:TypeInfo) (z:Value) (bytes:Nat) (ht:P.underlying t=some (.slice e)) (hi:P.info? e=some i) (hz:i.zero=some z)
 (hsize:i.size=1) (hby:i.bytes=bytes) (hzs:z.cells.size=1)
 (v:Value) (l:List Int) (hs:a.eval s=v) (hown:W.ownsRow base e 1 v l.length (l.map Go.Inq.encI).flatten)
 (x0:Int) (hx:a.eval x= .slice (some ⟨W.heap.size,0,none⟩) 1 1)
 (h63:l.length+1≤maxLen) (hbytes:(l.length+1)*bytes≤140737488355328) (hbase:base≤W.heap.size)
 (h:∀v' w',w'.ownsRow base e 1 v' (l++[x0]).length ((l++[x0]).map Go.Inq.encI).flatten→(W.alloc (.cells #[.int .i64 x0] e)).grownBy w' v.ownBlock→(v'.ownBlock=v.ownBlock∨v'.ownBlock=some (W.heap.size+1))→wpListIn F nF P ops Q rest (a.put o.dst v') w'):
 wpListIn F nF P ops Q (o::rest) a (W.alloc (.cells #[.int .i64 x0] e)):=by
 have hk:Blk (W.alloc (.cells #[.int .i64 x0] e)) W.heap.size e #[.int .i64 x0]:=Blk.new _ _ _;refine wpListIn_append_own_at _ hgd s x t ho base e i z 1 bytes ht hi hz hsize hby hzs (by decide) v l.length _ hs (hown.alloc _) ⟨W.heap.size,0,none⟩ 1 1 [.int .i64 x0] hx rfl (fun j u hj=> ?_) (by simp[Value.oneCell']) h63 hbytes (by simp;omega) ?_
 ·cases j with
  |zero=>injection hj with hj;subst hj;exact hk.cell 0
  |succ j=>simp at hj
 ·intro v' w' g1 g2 _ g3;refine h v' w' ?_ g2 (by simpa using g3);rw[List.map_append,List.flatten_append,List.length_append];exact g1
set_option maxRecDepth 100000 in
theorem DC(A:Option Addr)(c:Nat)(H:List Txn)(key src:Int)(w:World)(h:aC w (Old w) (.slice A H.length c) H)(hn:aA H)(hr:aG H=true):
 Calls Tryz.prog 138 #[.agg #[.slice A H.length c],.int .i64 key,.int .i64 src] w (AO w (au (AJ H key src))):=by
 refine(callsIn_wide (n:=3)).1 ?_;have hro:Fence.wide.round=none:=rfl;refine callsIn_of_wp_marks Tryz.func138 rfl trivial ?_ hro;simp only[Tryz.ntmps138,List.size_toArray,List.length_cons,List.length_nil,Nat.reduceAdd,Nat.reduceSub,Array.replicate_succ,Array.replicate_zero,List.push_toArray,List.append_toArray,List.nil_append,List.cons_append]
 gi_wp2_with fail
 refine⟨trivial,?_⟩;refine(callsIn_wide.2 (Ig _ _)).mono ?_;rintro e w1 ⟨rfl,rfl⟩;dsimp only
 gi_wp2
 obtain⟨ii,hii,hi1,hi2,hi3⟩:=info_parts gU;obtain⟨W0,hW0⟩:∃W0,((((w.alloc (.cells #[.slice A H.length c] 24)).alloc (.cells #[.int .i64 key] 3)).alloc (.cells #[.int .i64 src] 3)).alloc (.cells #[.slice none 0 0] 35)).alloc (.cells #[.slice A H.length c] 24)=W0:=⟨_,rfl⟩;have hs0:W0.heap.size=w.heap.size+5:=(by rw[←hW0];simp);have hBW:Below w.heap.size w W0:=(by rw[←hW0];exact(((((Below.refl _ w).alloc (Nat.le_refl _) _).alloc (by simp) _).alloc (by simp;omega) _).alloc (by simp;omega) _).alloc (by simp;omega) _);have k1:Blk W0 (w.heap.size+1) 3 #[.int .i64 key]:=by
  rw[←hW0];have:=Blk.new (w.alloc (.cells #[.slice A H.length c] 24)) 3 #[.int .i64 key];simp only[World.size_alloc]at this;exact((this.alloc _).alloc _).alloc _
 have k2:Blk W0 (w.heap.size+2) 3 #[.int .i64 src]:=by
  rw[←hW0];have:=Blk.new ((w.alloc (.cells #[.slice A H.length c] 24)).alloc (.cells #[.int .i64 key] 3)) 3 #[.int .i64 src];simp only[World.size_alloc]at this;exact(this.alloc _).alloc _
 have k3:Blk W0 (w.heap.size+3) 35 #[.slice none 0 0]:=by
  rw[←hW0];have:=Blk.new (((w.alloc (.cells #[.slice A H.length c] 24)).alloc (.cells #[.int .i64 key] 3)).alloc (.cells #[.int .i64 src] 3)) 35 #[.slice none 0 0];simp only[World.size_alloc]at this;exact this.alloc _
 have k4:Blk W0 (w.heap.size+4) 24 #[.slice A H.length c]:=by
  rw[←hW0];have:=Blk.new ((((w.alloc (.cells #[.slice A H.length c] 24)).alloc (.cells #[.int .i64 key] 3)).alloc (.cells #[.int .i64 src] 3)).alloc (.cells #[.slice none 0 0] 35)) 24 #[.slice A H.length c];simp only[World.size_alloc]at this;exact this
 simp only[World.size_alloc];rw[hW0];have h2:aC W0 (fun b=>b<w.heap.size) (.slice A H.length c) H:=aC.keep h (Agree.below hBW fun b h=>h) (fun b h=>h);have c4:=Blk.n0 k4;clear hW0;have VE:=zx hn hr;refine wpIn_rangeFunc_ownH hro (by omega) (gf:=165) (lb:=#[.pointer (some ⟨w.heap.size+4,0,none⟩)]) rfl trivial (enters_of Tryz.func165 (by kernel_rfl) rfl)
  (Dz (w.heap.size+4) w.heap.size c A H hn hr W0 (by omega) (by omega) c4 h2) (fun h k=>h.trans k) (Ih (by omega)) (Below.refl _ _) (fun _=>rfl)
  (fun pre W=>((∃v,Boxed W (w.heap.size+3) 35 v∧W.ownsRow (w.heap.size+5) 3 1 v (au (mM key src pre)).length ((au (mM key src pre)).map Go.Inq.encI).flatten∧True)∧(Boxed W (w.heap.size+1) 3 (.int .i64 key)∧Boxed W (w.heap.size+2) 3 (.int .i64 src)∧w.heap.size+5≤W.heap.size))∧Below w.heap.size w W)
  (fun cc pre W=>False)
  (OwnFrom.and (OwnFrom.and (Own.from (holdsRow_own (w.heap.size+5) (w.heap.size+3) 35 3 1 (fun pre=>(au (mM key src pre)).length) (fun pre=>((au (mM key src pre)).map Go.Inq.encI).flatten) (fun _ _=>True)) _) (Own.from (fun s A B row hs hg hr=>⟨boxed_own hs.1 hg hr,boxed_own hs.2.1 hg hr,Nat.le_trans hs.2.2 hg.size⟩) _)) (ownFrom_below (Nat.le_refl _) (by omega)))
  (fun cc s A B row hs hg hr=>hs)
  ⟨⟨⟨.slice none 0 0,k3,World.ownsRow_nil _ _ _ _,trivial⟩,k1,k2,by omega⟩,hBW⟩
  (fun x a' W=>∃B8,a'={tmps:=#[.agg #[.slice A H.length c],.int .i64 key,.int .i64 src,.pointer (some ⟨w.heap.size,0,none⟩),.pointer (some ⟨w.heap.size+1,0,none⟩),.pointer (some ⟨w.heap.size+2,0,none⟩),.slice none 0 0,.pointer (some ⟨w.heap.size+3,0,none⟩),.pointer (some ⟨B8,0,none⟩),.agg #[.slice A H.length c],.func (.func 165) #[] #[.pointer (some ⟨w.heap.size+4,0,none⟩)],E8 x,undef,undef,undef,undef,undef,undef,undef,undef,undef,undef,undef,undef,undef,undef,undef,undef,undef,undef],defers:=[]}∧w.heap.size+5≤B8∧Blk W B8 213 #[.int .i64 (x.1:Nat),.int .i64 x.2.a,.int .i64 x.2.b])
  (fun x a'=>Own.from (fun s A B row hs hg hr=>by obtain⟨B8,e,hB,hk⟩:=hs;exact⟨B8,e,hB,hk.grown hg (fun e'=>by obtain⟨o,ho,hc⟩:=hr B8 e'.symm;rw[show A.heap[B8]?=_ from hk]at ho;cases ho;cases hc)⟩) _) ?assign ?body ?done ?stop
 case assign=>
  rintro l pre ⟨xt,xa,xb⟩ W K ⟨⟨⟨v,hv,hr,_⟩,hk,hs,hW5⟩,hB⟩ hK;unfold E8;dsimp only
  gi_wp2
  refine hK _ _ (KeepsOthers.alloc _ _|>.from _) ((Below.refl _ _).alloc (by omega) _) ⟨⟨⟨v,hv.alloc _,hr.alloc _,trivial⟩,hk.alloc _,hs.alloc _,by simp;omega⟩,hB.alloc (by omega) _⟩ ⟨W.heap.size,rfl,hW5,Blk.new _ _ _⟩
 case body=>
  rintro l pre ⟨xt,xa,xb⟩ a' W hl ⟨rl,hrl⟩ ⟨⟨⟨v,hv,hr,_⟩,hk,hs,hW5⟩,hB⟩ ⟨B8,rfl,hB8,k8⟩ hlen;have e0:=Blk.n0 k8;have e1:=Blk.n1 k8;have e2:=Blk.n2 k8;have g1:=hk.cell;have g2:=hs.cell;have hsn:=Lf key src pre (xt,⟨xa,xb⟩);dsimp only at hsn e0 e1 e2;by_cases q1:xa=key
  ·by_cases q2:xb=src
   ·have hsel:Hid (au (mM key src (pre++[(xt,⟨xa,xb⟩)]))=au (mM key src pre)++[(xt:Int)]):=hide (by rw[hsn];simp[q1,q2,iy]);have q1b:(xa==key)=true:=(by simpa using q1);have q2b:(xb==src)=true:=(by simpa using q2);have hpl:(au (mM key src pre)).length≤pre.length:=by
     rw[aR];unfold mM;rw[List.length_map];exact List.length_filter_le _ _
    have hRl:=VE;generalize au (mM key src pre)=L at*;clear q1 q2 hsn;have hl63:L.length+1≤maxLen:=(by simp[maxLen];omega);have VF:(L.length+1)*8≤140737488355328:=(by omega);have g3:=hv.cell;have f3:=hv.frozen;obtain⟨Av,cv,rfl⟩:=aW hr;have hlo:=hide (fun b hb=>(hr.lt b hb).1);replace hr:=hide hr
    gi_wp2_with (gi_at_builtin;refine Bb rfl (.tmp 24) (.tmp 27) 35 rfl (w.heap.size+5) 3 ii _ 8 Tryz.underlying35 hii hi1 hi2 hi3 rfl (.slice Av L.length cv) L rfl hr.out (xt:Int) rfl hl63 VF hW5 ?_;intro v1 w6 hown1 hg1 jN;obtain⟨A1,c1,rfl⟩:=aW hown1;have hv1:=(hv.alloc (.cells #[.int .i64 (xt:Int)] 3)).kept hg1 (fun e=>by have:=hlo.out _ e.symm;omega);have g6:=hv1.cell;have f6:=hv1.frozen)
    have hk1:=(hk.alloc (.cells #[.int .i64 (xt:Int)] 3)).kept hg1 (fun e=>by have:=hlo.out _ e.symm;omega);have hs1:=(hs.alloc (.cells #[.int .i64 (xt:Int)] 3)).kept hg1 (fun e=>by have:=hlo.out _ e.symm;omega);have hz6:=hg1.size;have hlx:(L++[(xt:Int)]).length=L.length+1:=(by simp);rw[hlx]at hown1;simp only[World.size_alloc]at hz6;refine⟨(((KeepsOthers.alloc W _).trans (KeepsOthers.of_grownBy hg1 fun j o ej hj=> ?_)).trans (KeepsOthers.setCell _ _ _)).from _,?_,⟨⟨_,hv1.set _,by rw[hsel.out,hlx];exact hown1.kept (grownBy_setCell' w6 _ _) (.inr fun e=>by have:=(hown1.lt _ e).1;omega)⟩,hk1.other (by omega) _,hs1.other (by omega) _,by simp;omega⟩,?_⟩
    ·rcases(hr.out.alloc (.cells #[.int .i64 (xt:Int)] 3)).2 with⟨h1,_⟩|⟨g,cap,cur,h1,_,hgb,_⟩
     ·rw[h1]at ej;simp[Value.ownBlock]at ej
     ·rw[h1]at ej;obtain rfl:g=j:=(by simpa[Value.ownBlock]using ej);rw[hgb]at hj;cases hj;rfl
    ·exact(((Below.refl w.heap.size W).alloc (by omega) _).grown hg1 (by simp;omega) (fun j ej=>by have:=hlo.out j ej;omega)).setCell (p:=⟨w.heap.size+3,0,none⟩) (by simp) _
    ·exact((hB.alloc (by omega) _).grown hg1 (by simp;omega) (fun j ej=>by have:=hlo.out j ej;omega)).setCell (p:=⟨w.heap.size+3,0,none⟩) (by simp) _
   ·have hsel:mM key src (pre++[(xt,⟨xa,xb⟩)])=mM key src pre:=(by rw[hsn];simp[q2]);have q1b:(xa==key)=true:=(by simpa using q1);have q2b:(xb==src)=false:=(by simpa using q2);replace hsel:=hide hsel;clear q1 q2 hsn
    gi_wp2
    exact⟨(KeepsOthers.refl _).from _,Below.refl _ _,⟨⟨v,hv,by rw[hsel.out];exact hr⟩,hk,hs,hW5⟩,hB⟩
  ·have hsel:mM key src (pre++[(xt,⟨xa,xb⟩)])=mM key src pre:=(by rw[hsn];simp[q1]);have q1b:(xa==key)=false:=(by simpa using q1);replace hsel:=hide hsel;clear q1 hsn
   gi_wp2
   exact⟨(KeepsOthers.refl _).from _,Below.refl _ _,⟨⟨v,hv,by rw[hsel.out];exact hr⟩,hk,hs,hW5⟩,hB⟩
 case done=>
  rintro D xs W hD rfl ⟨⟨⟨v,hv,hr,_⟩,hk,hs,hW5⟩,hB⟩ hK;have g1:=hv.cell;have hsl:=hide (E9 H key src);obtain⟨Av,cv,rfl⟩:=aW hr
  gi_wp2
  refine⟨by simp,.inl ⟨_,_,rfl,run_takeDeferred hK,?_⟩⟩;refine⟨.slice Av (au (mM key src (iT H))).length cv,?_,_,rfl,?_,hB.trans (belowK_b (w:=w) (Nat.le_refl _) W D _ _ (by omega) hK rfl rfl)⟩
  ·simp[results,Tryz.results138,go_sem]
  ·unfold bA;rw[←hsl.out];exact Oq (ownsRow_putObj hr _ hK rfl) (by omega)
 case stop=>
  rintro D cc pre W hD hpre hF hK;exact hF.elim
end Go.Proofs.YtpjechjoijjhpaaGreatDoor
namespace Go.Proofs.YtpjechjoijjhpaaGreatDoor
open Go.RowKit Go.Inq
set_option maxHeartbeats 4000000
attribute [local go_sem↓] Go.wp_at_zero Go.wp_at_succ
def neL(l:List (Nat×Nat)):aj:=fun x y=>decide (x≠y)&&l.contains (x,y)
theorem Qn(x y:Nat):noE x y=neL [] x y:=by simp[noE,neL]
theorem Ot(l:List (Nat×Nat))(a b x y:Nat):vT (neL l) (a:Int) (b:Int) x y=neL (l++[(a,b)]) x y:=by
 unfold vT;have hc:(l++[(a,b)]).contains (x,y)=(l.contains (x,y)||(decide (x=a)&&decide (y=b))):=by
  rw[Bool.eq_iff_iff];simp
 split
 ·rename_i h;simp only[orE,gT,neL,Int.toNat_natCast,hc];by_cases e1:x=a
  ·by_cases e2:y=b
   ·have:x≠y:=(by omega);simp[e1,e2,this];omega
   ·simp[e2]
  ·simp[e1]
 ·rename_i h;simp only[neL,hc];have hab:a=b:=(by omega);by_cases e1:x=a
  ·by_cases e2:y=b
   ·have:x=y:=(by omega);simp[this]
   ·simp[e2]
  ·simp[e1]
def uE(wr:List Nat)(rd:List Nat):List (Nat×Nat):=(rd.map fun a=>wr.map fun b=>(a,b)).flatten
def Sc(H:List Txn)(key:Int):List (Nat×Nat):=uE (fJ H key) (AJ H key (-1))
def lW(H:List Txn)(k:Nat):List (Nat×Nat):=(((dY H).take k).map (Sc H)).flatten
theorem Ii{H:List Txn}{k:Nat}(h:k<(dY H).length):lW H (k+1)=lW H k++Sc H (dY H)[k]:=by
 unfold lW;rw[List.take_succ_eq_append_getElem h,List.map_append,List.flatten_append];simp
theorem Lg(wr:List Nat){rd:List Nat}{i:Nat}(h:i<rd.length):uE wr (rd.take (i+1))=uE wr (rd.take i)++wr.map fun b=>(rd[i],b):=by
 unfold uE;rw[List.take_succ_eq_append_getElem h,List.map_append,List.flatten_append];simp
theorem Fa{wr rd:List Nat}{a b:Nat}:(a,b)∈uE wr rd↔a∈rd∧b∈wr:=by
 unfold uE;rw[List.mem_flatten];constructor
 ·rintro⟨l,hl,h⟩;obtain⟨x,hx,rfl⟩:=List.mem_map.1 hl;obtain⟨y,hy,e⟩:=List.mem_map.1 h;injection e with e1 e2
  subst e1 e2;exact⟨hx,hy⟩
 ·rintro⟨ha,hb⟩;exact⟨_,List.mem_map.2 ⟨a,ha,rfl⟩,List.mem_map.2 ⟨b,hb,rfl⟩⟩
theorem Lh{H:List Txn}{x y:Nat}(hx:x<H.length)(hy:y<H.length):neL (lW H (dY H).length) x y=mo H x y:=by
 unfold neL lW;rw[List.take_length,Bool.eq_iff_iff,Kk hx hy,Bool.and_eq_true,decide_eq_true_iff,List.contains_iff_mem,List.mem_flatten];constructor
 ·rintro⟨h1,l,hl,h⟩;obtain⟨k,hk,rfl⟩:=List.mem_map.1 hl;obtain⟨h2,h3⟩:=Fa.1 h;exact⟨h1,k,hk,h2,h3⟩
 ·rintro⟨h1,k,hk,h2,h3⟩;exact⟨h1,_,List.mem_map.2 ⟨k,hk,rfl⟩,Fa.2 ⟨h2,h3⟩⟩
theorem Ou{H:List Txn}(hn:aA H)(hr:aG H=true)(key src:Int):(AJ H key src).length≤32000000:=by
 rw[←E9];unfold mM;rw[List.length_map];exact Nat.le_trans (List.length_filter_le _ _) (zx hn hr)
set_option maxRecDepth 100000 in
theorem Li(A:Option Addr)(c:Nat)(H:List Txn)(hr:aG H=true)(hn:aA H)(Bh Bg base:Nat)(K:Nat→Prop)(w:World)(hT:aC w K (.slice A H.length c) H)(hBh:Blk w Bh 24 #[.slice A H.length c])(hK:∀b,K b→b<base)(hB:Bh<base)(hBg:base≤Bg)(bH:eT w Bg base H.length noE)(hbw:base≤w.heap.size):
 Calls Tryz.prog 137 #[.func (.func 157) #[] #[.pointer (some ⟨Bg,0,none⟩)],.pointer (some ⟨Bh,0,none⟩)] w fun e w'=>e= .returned (.tuple #[])∧eT w' Bg base H.length (mo H)∧w.grownBy w' (some Bg):=by
 have c0:=Blk.n0 hBh;have h32:H.length≤32:=((aD H).1 hr).1;have hBl:Bg<w.heap.size:=bH.lt;have hkw:Hid (∀b,K b→b<w.heap.size):=hide fun b hb=>(by have:=hK b hb;omega);have hkg:Hid (∀b,K b→b<Bg):=hide fun b hb=>(by have:=hK b hb;omega);replace hr:=hide hr;replace hn:=hide hn;have hTo:=hT.fit (K':=Old w) (fun b hb=>hkw.out b hb);replace hT:=hide hT;replace bH:=hide (bH.congr fun a b _ _=>Qn a b);have hT0:Hid (∀w',w.grownBy w' (some Bg)→aC w' (Old w') (.slice A H.length c) H):=hide fun w' hg=>aC.keep hT.out (Agree.lU hg hkg.out (Nat.le_of_lt hBl)) (fun b hb=>Nat.lt_of_lt_of_le (hkw.out b hb) hg.size);replace hK:=hide hK;go_enter Tryz.func137,Tryz.ntmps137;go_wp2_with fail;clear c0;refine(Cm A c H _ hTo hn.out hr.out).mono ?_;rintro e wk ⟨vk,rfl,hKO,hbk⟩;obtain⟨Ak,ck,rfl⟩:=hKO.form;have hKS:=hide (hKO.sl (K:=fun b=>w.heap.size≤b∧b<wk.heap.size) (fun g h1 h2=>⟨h1,h2⟩));have Rn:=bH.out.below hbk;have hgk:=bW hbk (r:=some Bg) (Nat.le_refl _);have Vr:=pG hr.out;have hstp:=hide (fun k (hk:k<(dY H).length)=>Ii hk);have hall:=hide (fun x y (hx:x<H.length) (hy:y<H.length)=>Lh hx hy);clear hKO bH hTo;generalize hKL:dY H=KL at*;clear hKL;go_wp2_with fail;go_loopw [12] (fun s12 wr=>∃k:Nat,k≤KL.length∧s12= .int .i64 k∧eT wr Bg base H.length (neL (lW H k))∧wk.grownBy wr (some Bg)) (fun s12 _=>KL.length-(intOf s12).toNat);case atStart=>exact⟨0,Nat.zero_le _,by go_num,Rn,World.grownBy.refl _ _⟩
 case round=>
  clear Rn hbk;obtain⟨Wo,rfl⟩:∃Wo,Wo=wr:=⟨_,rfl⟩;obtain⟨k,hk,rfl,bH,hgw⟩:=hrel;have hi1:(0:Int)≤(k:Int):=Int.natCast_nonneg _;have hgo:=ak hgk hgw;have RS:=hgo.size;have Vs:=hgw.size;by_cases hlt:k<KL.length
  ·have hi2:(k:Int)<(KL.length:Int):=(by omega);obtain⟨bk,ok,rfl,_,hck⟩:=(hKS.out.keep (Agree.grown hgw fun b hb=>⟨hb.2,by have:=hb.1;simp;omega⟩) (fun b h=>h)).at_ hlt;have hst:=hide (hstp.out k hlt);have hBo:=hBh.grown hgo (by simp;omega);have b0:=Blk.n0 hBo;generalize KL[k]=key at*;unfold Sc at hst;go_wp2_with fail;clear b0 hck;refine(DC A c H key (-1) _ (hT0.out _ hgo) hn.out hr.out).mono ?_;rintro e wd ⟨vd,rfl,hDO,hbd⟩;have hDm:=hide (fun a (ha:a∈AJ H key (-1))=>(yK.1 ha).1);have hDl:=Ou hn.out hr.out key (-1);generalize AJ H key (-1)=D at*;obtain⟨Ad,cd,hv⟩:=hDO.form;rw[aR]at hv;subst hv;have hDS:=hide (hDO.sl (K:=fun b=>Wo.heap.size≤b∧b<wd.heap.size) (fun g h1 h2=>⟨h1,h2⟩));have Ro:=bH.below hbd;have hgd:=ak hgo (bW hbd (r:=some Bg) (Nat.le_refl _));have hgd2:=ak hgw (bW hbd (r:=some Bg) (Nat.le_refl _));have Xu:=hbd.size;have hW0:Hid (neL (lW H k)=neL (lW H k++uE (fJ H key) (D.take 0))):=hide (by simp[uE]);clear hDO hbd bH hgw hgo hBo;go_wp2_with fail;go_loopw [20] (fun s20 wr=>∃i:Nat,i≤D.length∧s20= .int .i64 i∧eT wr Bg base H.length (neL (lW H k++uE (fJ H key) (D.take i)))∧wd.grownBy wr (some Bg)) (fun s20 _=>D.length-(intOf s20).toNat);case atStart=>exact⟨0,Nat.zero_le _,by go_num,by rw[←hW0.out];exact Ro,World.grownBy.refl _ _⟩
   case round=>
    clear Ro hW0;obtain⟨Wp,rfl⟩:∃Wp,Wp=wr:=⟨_,rfl⟩;obtain⟨i,hi,rfl,bH,hgw⟩:=hrel;have hj1:(0:Int)≤(i:Int):=Int.natCast_nonneg _;have hgo:=ak hgd hgw;by_cases hlt2:i<D.length
    ·have hj2:(i:Int)<(D.length:Int):=(by omega);obtain⟨bd,od,rfl,_,hcd⟩:=(hDS.out.keep (Agree.grown hgw fun b hb=>⟨hb.2,by have:=hb.1;simp;omega⟩) (fun b h=>h)).at_ (i:=i) (by rw[aR];exact hlt2);rw[iM hlt2]at hcd;have VG:=hide (Lg (fJ H key) hlt2);have ham:=hDm.out _ (List.getElem_mem hlt2);generalize D[i]=a at*;have hBo:=hBh.grown hgo (by simp;omega);have b0:=Blk.n0 hBo;go_wp2_with fail;clear b0 hcd;refine(uh A c H key _ (hT0.out _ hgo) hn.out hr.out).mono ?_;rintro e wl ⟨vl,rfl,hLO,hbl⟩;have hLm:=hide (fun b (hb:b∈fJ H key)=>(pE.1 hb).1);have hLl:=pF H key;generalize hLe:fJ H key=L at*;replace hLe:=hide hLe;obtain⟨Al,cl,hv⟩:=hLO.form;rw[aR]at hv;subst hv;have hLS:=hide (hLO.sl (K:=fun b=>Wp.heap.size≤b∧b<wl.heap.size) (fun g h1 h2=>⟨h1,h2⟩));have Rp:=bH.below hbl;have hgl:=ak hgw (bW hbl (r:=some Bg) (Nat.le_refl _));have VH:=ak hgo (bW hbl (r:=some Bg) (Nat.le_refl _));have RU:=VH.size;have Du:=hgo.size;have hM0:Hid (neL (lW H k++uE L (D.take i))=neL (lW H k++uE L (D.take i)++(L.take 0).map fun b=>(a,b))):=hide (by simp);clear hLO hbl bH hgw hgo hBo;go_wp2_with fail;go_loopw [28] (fun s28 wr=>∃j:Nat,j≤L.length∧s28= .int .i64 j∧eT wr Bg base H.length (neL (lW H k++uE L (D.take i)++(L.take j).map fun b=>(a,b)))∧wl.grownBy wr (some Bg)) (fun s28 _=>L.length-(intOf s28).toNat);case atStart=>exact⟨0,Nat.zero_le _,by go_num,by rw[←hM0.out];exact Rp,World.grownBy.refl _ _⟩
     case round=>
      clear Rp hM0;obtain⟨j,hj,rfl,bH,hgw⟩:=hrel;have hjj:(0:Int)≤(j:Int):=Int.natCast_nonneg _;by_cases hlt3:j<L.length
      ·have hj3:(j:Int)<(L.length:Int):=(by omega);obtain⟨bl,ol,rfl,_,hcl⟩:=(hLS.out.keep (Agree.grown hgw fun b hb=>⟨hb.2,by have:=hb.1;simp;omega⟩) (fun b h=>h)).at_ (i:=j) (by rw[aR];exact hlt3);rw[iM hlt3]at hcl;have htk:=hide (take_snoc' hlt3);have hbm:=hLm.out _ (List.getElem_mem hlt3);generalize L[j]=b at*;have hb0:(0:Int)≤(b:Int):=Int.natCast_nonneg _;have hb1:(b:Int)<(H.length:Int):=(by omega);have ha1:(a:Int)<(H.length:Int):=(by omega);have R7:=hgw.size;have VI:base≤wr.heap.size:=(by omega);have hM2:Hid (lW H k++uE L (D.take i)++(L.take (j+1)).map (fun b=>(a,b))=(lW H k++uE L (D.take i)++(L.take j).map fun b=>(a,b))++[(a,b)]):=hide (by rw[htk.out,List.map_append,←List.append_assoc];rfl);go_wp2_with fail;clear hcl;refine(sH H.length (by omega) _ (a:Int) (b:Int) ha1 hb0 hb1 Bg base _ bH VI).mono ?_;rintro e w5 ⟨rfl,uy,hg5⟩;go_wp2;go_roundw;case rel=>exact⟨j+1,by omega,by go_num,by rw[hM2.out];exact uy.congr fun x y _ _=>Ot _ a b x y,ak hgw hg5⟩
       case measure=>simp[intOf];omega
      ·obtain rfl:j=L.length:=(by omega);rw[List.take_length,List.append_assoc,←VG.out]at bH;go_wp2;go_roundw;case rel=>exact⟨i+1,by omega,by go_num,by rw[hLe.out];exact bH,ak hgl hgw⟩
       case measure=>simp[intOf];omega
    ·obtain rfl:i=D.length:=(by omega);rw[List.take_length,←hst.out]at bH;go_wp2;go_roundw;case rel=>exact⟨k+1,by omega,by go_num,bH,ak hgd2 hgw⟩
     case measure=>simp[intOf];omega
  ·obtain rfl:k=KL.length:=(by omega);go_wp2
   go_end0
   exact⟨rfl,bH.congr fun x y hx hy=>hall.out x y hx hy,ak hgk hgw⟩
set_option maxRecDepth 100000 in
theorem Ij(A:Option Addr)(c:Nat)(H:List Txn)(w:World)(h:aC w (Old w) (.slice A H.length c) H)(hn:aA H)(hr:aG H=true):
 Calls Tryz.prog 93 #[.agg #[.slice A H.length c]] w (oD w H.length (mo H)):=by
 obtain⟨W0,hW0⟩:∃W0,(w.alloc (.cells #[.slice A H.length c] 24)).alloc (.cells #[.int .i64 0,.slice none 0 0] 78)=W0:=⟨_,rfl⟩;have hB:=aF hW0;have k0:=Blk.fG hW0;have k1:=Blk.eP hW0;have hs0:=size_two hW0;have h0:=h.below hB;have h32:H.length≤32:=((aD H).1 hr).1;have hcall:=hide (sI 137 (enters_of Tryz.func137 (by kernel_rfl) rfl) #[.pointer (some ⟨w.heap.size,0,none⟩)] A c H (mo H) W0 h0 hn hr (fun W Bg hbW bH hBg=>by
  have Om:Below w.heap.size w W:=hB.trans (hbW.mono (by omega));exact(Li A c H hr hn w.heap.size Bg W0.heap.size (Old w) W (aC.keep h (Agree.below Om fun b h=>h) (fun b h=>h)) (k0.below hbW k0.lt) (fun b hb=>by have:b<w.heap.size:=hb;omega) (by omega) (by omega) bH hbW.size).mono fun e w' hh=>hh))
 have c0:=Blk.n0 k0;replace hs0:=hide hs0;go_enter Tryz.func93,Tryz.ntmps93;go_wp2_with fail;clear hW0 c0;refine hcall.out.mono ?_;rintro e w4 ⟨g,hg,rfl,kR,hb4⟩;have nU:g≠w.heap.size+1:=(by have:=hs0.out;omega);have k14:=k1.below hb4 k1.lt;have hb5:=hB.trans (hb4.mono (by have:=hs0.out;omega));have j0:=Blk.n0 k14;have j1:=Blk.n1 k14;have jf:=k14.frozen 0;have jf1:=k14.frozen 1;have hgw:w.heap.size≤g:=(by have:=hs0.out;omega);clear hcall;go_wp2;have kF0:=((kR.far (p:=⟨w.heap.size+1,0,none⟩) nU (.int .i64 H.length)).far (p:=⟨w.heap.size+1,1,none⟩) nU (.slice (some ⟨g,0,none⟩) H.length H.length));have hF:=((hb5.setCell (p:=⟨w.heap.size+1,0,none⟩) (by simp) (.int .i64 H.length)).setCell (p:=⟨w.heap.size+1,1,none⟩) (by simp) (.slice (some ⟨g,0,none⟩) H.length H.length));exact bodyPost_ret (v:= .agg #[.int .i64 H.length,.slice (some ⟨g,0,none⟩) H.length H.length]) (by simp[results,Tryz.results93,go_sem,j0,j1]) rfl ⟨g,hgw,rfl,kF0,hF⟩
def zy(H:List Txn)(c:Cho):aj:=fun x y=>decide (c.b=(y:Int))&&decide (x≠y)&&(aP H x).reads.any fun r=>decide (r.a=c.key)&&decide (r.b=c.a)
theorem Ov(H:List Txn)(l:List Cho):rwE H l=fun x y=>mo H x y||l.any fun c=>zy H c x y:=rfl
def lX(H:List Txn)(l:List Cho)(c:Cho)(t:Nat):aj:=fun x y=>rwE H l x y||(decide (x<t)&&zy H c x y)
theorem Ik(H:List Txn)(l:List Cho)(c:Cho):lX H l c 0=rwE H l:=by funext x y;simp[lX]
theorem Cu(H:List Txn){l:List Cho}{k n:Nat}(hk:k<l.length){x y:Nat}(hx:x<n):lX H (l.take k) l[k] n x y=rwE H (l.take (k+1)) x y:=by
 unfold lX;rw[Ov,Ov,take_snoc' hk];simp only[List.any_append,List.any_cons,List.any_nil,Bool.or_false,decide_eq_true hx,Bool.true_and,Bool.or_assoc]
theorem Lj{H:List Txn}{l:List Cho}{c:Cho}{t b:Nat}(hb:c.b=b)(hne:t≠b)(hs:((aP H t).reads.any fun r=>decide (r.a=c.key)&&decide (r.b=c.a))=true):orE (lX H l c t) (gT t b)=lX H l c (t+1):=by
 funext x y;unfold orE lX gT;rw[Bool.or_assoc];congr 1;by_cases e1:x=t
 ·subst e1;by_cases e2:y=b
  ·subst e2;simp[zy,hb,hne,hs]
  ·have:decide (c.b=(y:Int))=false:=(by rw[hb];simp;omega);simp[zy,e2,this]
 ·have:decide (x<t+1)=decide (x<t):=(by simp;omega);simp[e1,this]
theorem Ow{H:List Txn}{l:List Cho}{c:Cho}{t b:Nat}(hb:c.b=b)(h:t=b∨((aP H t).reads.any fun r=>decide (r.a=c.key)&&decide (r.b=c.a))=false):lX H l c t=lX H l c (t+1):=by
 funext x y;unfold lX;congr 1;by_cases e1:x=t
 ·subst e1;have:zy H c x y=false:=by
   unfold zy;rcases h with h|h
   ·subst h;by_cases e2:y=x
    ·subst e2;simp
    ·have:decide (c.b=(y:Int))=false:=(by rw[hb];simp;omega);simp[this]
   ·rw[h];simp
  simp[this]
 ·have:decide (x<t+1)=decide (x<t):=(by simp;omega);rw[this]
theorem JR(H:List Txn)(x y:Nat):mo H x y=rwE H [] x y:=by simp[rwE]
set_option maxRecDepth 100000 in
theorem Ox(A:Option Addr)(c:Nat)(H:List Txn)(Al:Option Addr)(cl:Nat)(l:List Cho)(w:World)(h:aC w (Old w) (.slice A H.length c) H)(hn:aA H)(hl:aV w (Old w) (.slice Al l.length cl) l)(hr:dR H l=true):
 Calls Tryz.prog 50 #[.agg #[.slice A H.length c],.slice Al l.length cl] w (oD w H.length (rwE H l)):=by
 obtain⟨W0,hW0⟩:∃W0,(w.alloc (.cells #[.slice A H.length c] 24)).alloc (.cells #[.int .i64 0,.slice none 0 0] 78)=W0:=⟨_,rfl⟩;have hB:=aF hW0;have k0:=Blk.fG hW0;have k1:=Blk.eP hW0;have hs0:=size_two hW0;have hrh:=iH hr;have h32:H.length≤32:=((aD H).1 hrh).1;have hll:=kZ hr;have hcn:=hide (fun x hx=>nV hr (x:=x) hx);have hrl:=hide (fun i (hi:i<H.length)=>(hn.2 _ (List.getElem_mem hi)).2);have h0:=hide (h.below hB);have hl0:=hide (hl.below hB);replace hr:=hide hr;replace hn:=hide hn;replace hl:=hide hl;replace h:=hide h;replace hrh:=hide hrh;have c0:=Blk.n0 k0;replace hs0:=hide hs0;go_enter Tryz.func50,Tryz.ntmps50;go_wp2_with fail;clear hW0 c0;refine(jF A c H Al cl l _ h0.out hn.out hl0.out (by omega)).mono ?_;rintro e w1 ⟨rfl,hb1⟩;rw[hr.out];have hs1:w.heap.size+2≤w1.heap.size:=(by have:=hb1.size;have:=hs0.out;omega);replace k0:=k0.below hb1 k0.lt;replace k1:=k1.below hb1 k1.lt;have hb2:=hB.trans (hb1.mono hB.size);have h1:=hide (h0.out.below hb1);clear hb1 hB h0 hl0 hs0;have c0:=Blk.n0 k0;go_wp2_with fail;refine(Ij A c H _ h1.out hn.out hrh.out).mono ?_;rintro e w2 ⟨g,hgs,rfl,kR,hb3⟩;replace k0:=k0.below hb3 k0.lt;replace k1:=k1.below hb3 k1.lt;replace hb2:=hb2.trans (hb3.mono hb2.size);have hs2:w1.heap.size≤w2.heap.size:=hb3.size;obtain⟨W3,hW3⟩:∃W3,w2.alloc (.cells #[.int .i64 H.length,.slice (some ⟨g,0,none⟩) H.length H.length] 78)=W3:=⟨_,rfl⟩;have k3:=Blk.newEq hW3;have hs3:=aB hW3;replace k0:=k0.av hW3;replace k1:=k1.av hW3;replace kR:=kR.av hW3;have hb5:=ah hb2 hW3 (by omega);have bH:eT W3 w2.heap.size (w.heap.size+2) H.length (rwE H (l.take 0)):=⟨g,by omega,k3,by rw[List.take_zero,←dM (fun a b _ _=>JR H a b)];exact kR⟩;have Uj:=hide (fun W' (hg:W3.grownBy W' (some w2.heap.size))=>(Agree.below hb5 (K:=Old w) (fun b h=>h)).trans (Agree.grown hg fun b hb=>by have:b<w.heap.size:=hb;exact⟨by omega,by simp;omega⟩));replace hs3:=hide hs3;clear hb3 c0 k3 kR hb2 h1;go_wp2_with fail;clear hW3;go_loopw [19] (fun s19 wr=>∃k:Nat,k≤l.length∧s19= .int .i64 k∧eT wr w2.heap.size (w.heap.size+2) H.length (rwE H (l.take k))∧W3.grownBy wr (some w2.heap.size)) (fun s19 _=>l.length-(intOf s19).toNat);case atStart=>exact⟨0,Nat.zero_le _,by go_num,bH,World.grownBy.refl _ _⟩
 case round=>
  clear bH;obtain⟨Wo,rfl⟩:∃Wo,Wo=wr:=⟨_,rfl⟩;obtain⟨k,hk,rfl,bH,hgw⟩:=hrel;have hi1:(0:Int)≤(k:Int):=Int.natCast_nonneg _;by_cases hlt:k<l.length
  ·have hi2:(k:Int)<(l.length:Int):=(by omega);obtain⟨b,off,rfl,_,d0,d1,d2⟩:=(hl.out.keep (Uj.out Wo hgw) (fun b h=>h)).at_ hlt;obtain⟨xa,xb,ha,hb,ha2,hb2⟩:=hcn.out _ (List.getElem_mem hlt);have hend:=hide (fun x y (hx:x<H.length)=>Cu H hlt (n:=H.length) (y:=y) hx);have hzero:=hide (Ik H (l.take k) l[k]);have hyes:=hide (fun t (hne:t≠xb)=>Lj (H:=H) (l:=l.take k) (t:=t) hb hne);have hno:=hide (fun t=>Ow (H:=H) (l:=l.take k) (t:=t) hb);rw[ha]at d1 hyes hno;rw[hb]at d2;generalize hx0:l[k]=x at*;obtain⟨key,ya,yb⟩:=x;dsimp only at*;clear hx0 ha hb;obtain⟨W4,hW4⟩:∃W4,Wo.alloc (.cells #[.int .i64 key,.int .i64 xa,.int .i64 xb] 62)=W4:=⟨_,rfl⟩;have kC:=Blk.newEq hW4;have hg4:W3.grownBy W4 (some w2.heap.size):=(by rw[←hW4];exact ak hgw (World.grownBy_alloc _ _ _));have JO:eT W4 w2.heap.size (w.heap.size+2) H.length (lX H (l.take k) ⟨key,ya,yb⟩ 0):=(by rw[hzero.out,←hW4];exact bH.grown (r:=none) (World.grownBy_alloc _ _ _) (fun k e=>by cases e));have m0:=k0.grown hg4 (by simp;omega);have c0:=Blk.n0 m0;have Xv:w2.heap.size<Wo.heap.size:=(by have:=bH.lt;exact this);go_wp2_with fail;clear d0 d1 d2 c0 hW4 bH m0;go_loopw [26] (fun s26 wr=>∃t:Nat,t≤H.length∧s26= .int .i64 t∧eT wr w2.heap.size (w.heap.size+2) H.length (lX H (l.take k) ⟨key,ya,yb⟩ t)∧W4.grownBy wr (some w2.heap.size)) (fun s26 _=>H.length-(intOf s26).toNat);case atStart=>exact⟨0,Nat.zero_le _,by go_num,JO,World.grownBy.refl _ _⟩
   case round=>
    clear JO;obtain⟨t,ht,rfl,bH,hgq⟩:=hrel;have ht1:(0:Int)≤(t:Int):=Int.natCast_nonneg _;have Sd:=ak hg4 hgq;by_cases hlt2:t<H.length
    ·have ht2:(t:Int)<(H.length:Int):=(by omega);have hag:=Uj.out wr Sd;have hTq:=aC.keep h.out hag (fun b h=>h);obtain⟨bt,ot,Aw,cw,Ar,cr,rfl,hKb,e0,e1,e2,_,hrs⟩:=aC.at_ hTq hlt2;have Xw:=hrl.out t hlt2;have hyt:=hide (fun(hne:t≠xb)=>hyes.out t hne);have hnt:=hide (hno.out t);rw[aQ hlt2]at hyt hnt;generalize H[t]=x at*;obtain⟨ts,ws,rs⟩:=x;dsimp only at*;have kCq:=kC.grown hgq (by simp;omega);obtain⟨W5,hW5⟩:∃W5,wr.alloc (.cells #[.int .i64 ts,.slice Aw ws.length cw,.slice Ar rs.length cr] 60)=W5:=⟨_,rfl⟩;have hB5:=ah (Below.refl wr.heap.size wr) hW5 (Nat.le_refl _);have kX:=Blk.newEq hW5;have kC5:=kCq.av hW5;have hg5:W4.grownBy W5 (some w2.heap.size):=(by rw[←hW5];exact ak hgq (World.grownBy_alloc _ _ _));have uy:eT W5 w2.heap.size (w.heap.size+2) H.length (lX H (l.take k) ⟨key,ya,yb⟩ t):=(by rw[←hW5];exact bH.grown (r:=none) (World.grownBy_alloc _ _ _) (fun k e=>by cases e));have R6:w.heap.size≤wr.heap.size:=(by have:=Sd.size;have:=hb5.size;omega);have VJ:=hide (hrs.keep (K':=Old W5) (Agree.below hB5 fun b hb=>by have:b<w.heap.size:=hb;omega) (fun b hb=>by have:b<w.heap.size:=hb;have:=hB5.size;show b<W5.heap.size;omega));have x2:=Blk.n2 kX;have y0:=Blk.n0 kC5;have y1:=Blk.n1 kC5;have y2:=Blk.n2 kC5;by_cases q1:t=xb
     ·have q1b:((t:Int) !=(xb:Int))=false:=(by simp[q1]);have q1c:(t !=xb)=false:=(by simp[q1]);have hst:=hide (hnt.out (.inl q1));have JU:=uy;have hgZ:=hg5;clear q1 hyt hnt hrs;go_wp2;go_roundw;case rel=>exact⟨t+1,by omega,by go_num,by rw[←hst.out];exact JU,hgZ⟩
      case measure=>simp[intOf];omega
     ·have q1b:((t:Int) !=(xb:Int))=true:=(by simp;omega);have q1c:(t !=xb)=true:=(by simp;omega);have Sg:=hide (hyt.out q1);clear q1 hyt hrs;go_wp2_with fail;clear e0 e1 e2 hW5;refine(ru Ar cr rs key (xa:Int) _ VJ.out (by omega)).mono ?_;rintro e W6 ⟨rfl,hb6⟩;have JU:=uy.below hb6;have hgZ:=ak hg5 (bW hb6 (Nat.le_refl _));have kC6:=kC5.below hb6 kC5.lt;clear x2 y0 y1 y2 uy hg5;cases hq:(rs.any fun x=>decide (x.a=key)&&decide (x.b=(xa:Int)))with
      |false=>
       have hst:=hide (hnt.out (.inr hq));clear hq hnt Sg;go_wp2;go_roundw;case rel=>exact⟨t+1,by omega,by go_num,by rw[←hst.out];exact JU,hgZ⟩
       case measure=>simp[intOf];omega
      |true=>
       have hst:=hide (Sg.out hq);clear hq hnt Sg;obtain⟨g',hg',nU,hgl,kB,kR,hG⟩:=JU.open (by omega);have b0:=Blk.n0 kB;have b1:=Blk.n1 kB;have y2:=Blk.n2 kC6;go_wp2_with fail;clear b0 b1 y2;refine(vS H.length (some ⟨g',0,none⟩) H.length _ t xb hlt2 hb2 (fun b=>b=g') _ hG (fun b hb=>by subst hb;exact hgl)).mono ?_;rintro e w7 ⟨g5,Vy,rfl,kR5,nW⟩;have kB5:=kB.below nW kB.lt;have c0:=Blk.n0 kB5;have c1:=Blk.n1 kB5;have f0:=kB5.frozen 0;have f1:=kB5.frozen 1;have hBl:=kB.lt;have Vz:=(ak hg4 hgZ).size;go_wp2;go_roundw;case rel=>
        refine⟨t+1,by omega,by go_num,⟨g5,by omega,?_,?_⟩,ak hgZ (ak (ak (bW nW (Nat.le_refl _)) (dQ w2.heap.size 0 _)) (dQ w2.heap.size 1 _))⟩
        ·have:=(kB5.aH 0 (.int .i64 H.length)).aH 1 (.slice (some ⟨g5,0,none⟩) H.length H.length);simpa using this
        ·rw[←hst.out];exact(kR5.far (p:=⟨w2.heap.size,0,none⟩) (by simp;omega) _).far (p:=⟨w2.heap.size,1,none⟩) (by simp;omega) _
       case measure=>simp[intOf];omega
    ·obtain rfl:t=H.length:=(by omega);go_wp2;go_roundw;case rel=>exact⟨k+1,by omega,by go_num,bH.congr fun x y hx _=>hend.out x y hx,Sd⟩
     case measure=>simp[intOf];omega
  ·obtain rfl:k=l.length:=(by omega);rw[List.take_length]at bH;obtain⟨g',hg',nU,hgl,kB,kR,hG⟩:=bH.open (by omega);have k14:=k1.grown hgw (by simp;omega);have hb4:=below_grown hb5 hgw hb5.size (by intro k hk;injection hk with hk;omega);have c0:=Blk.n0 kB;have c1:=Blk.n1 kB;have j0:=Blk.n0 k14;have j1:=Blk.n1 k14;have jf:=k14.frozen 0;have jf1:=k14.frozen 1;have n1:g'≠w.heap.size+1:=(by omega);go_wp2;have kF0:=((kR.far (p:=⟨w.heap.size+1,0,none⟩) n1 (.int .i64 H.length)).far (p:=⟨w.heap.size+1,1,none⟩) n1 (.slice (some ⟨g',0,none⟩) H.length H.length));have hF:=((hb4.setCell (p:=⟨w.heap.size+1,0,none⟩) (by simp) (.int .i64 H.length)).setCell (p:=⟨w.heap.size+1,1,none⟩) (by simp) (.slice (some ⟨g',0,none⟩) H.length H.length));exact bodyPost_ret (v:= .agg #[.int .i64 H.length,.slice (some ⟨g',0,none⟩) H.length H.length]) (by simp[results,Tryz.results50,go_sem,j0,j1]) rfl ⟨g',by omega,rfl,kF0,hF⟩
def GV(base n:Nat)(E:aj)(v:Value)(W:World):Prop:=∃g,base≤g∧v= .agg #[.int .i64 n,.slice (some ⟨g,0,none⟩) n n]∧Blk W g 116 (bV n E)
theorem GV.below{base n:Nat}{E:aj}{v:Value}{W W':World}(h:GV base n E v W)(hb:Below W.heap.size W W'):GV base n E v W':=by
 obtain⟨g,h1,h2,h3⟩:=h;exact⟨g,h1,h2,h3.below hb h3.lt⟩
def lY(b:Nat)(W W':World):Prop:=
 (W'.os=W.os∧W'.tape=W.tape∧W'.output=W.output∧W.heap.size≤W'.heap.size)∧∀k,k<W.heap.size→W'.heap[k]?=W.heap[k]?∨(b≤k∧∃cs cs',W.heap[k]?=some (.cells cs 78 (0,0))∧W'.heap[k]?=some (.cells cs' 78 (0,0))∧cs'.size=2)
theorem lY.of_below{b:Nat}{W W':World}(h:Below W.heap.size W W'):lY b W W':=⟨⟨h.os,h.tape,h.output,h.size⟩,fun k hk=> .inl (h.block k hk)⟩
theorem lY.blk{b g:Nat}{t:TypeId}{cs:Array Value}{W W':World}(h:lY b W W')(hk:Blk W g t cs)(ht:t≠78):Blk W' g t cs:=by
 rcases h.2 g hk.lt with e|⟨_,cs1,_,e,_⟩
 ·exact e.trans hk
 ·rw[show W.heap[g]?=_ from hk]at e;injection e with e
  injection e with _ e
  exact absurd e ht
theorem lY.below{b:Nat}{W W':World}(h:lY b W W'):Below b W W'∨W.heap.size<b:=by
 rcases Nat.lt_or_ge W.heap.size b with g|g
 ·exact .inr g
 ·exact .inl ⟨h.1.1,h.1.2.1,h.1.2.2.1,h.1.2.2.2,fun k hk=>by
   rcases h.2 k (by omega)with e|⟨e,_⟩
   ·exact e
   ·omega⟩
theorem GV.var{base n b:Nat}{E:aj}{v:Value}{W W':World}(h:GV base n E v W)(hb:lY b W W'):GV base n E v W':=by
 obtain⟨g,h1,h2,h3⟩:=h;exact⟨g,h1,h2,hb.blk h3 (by decide)⟩
def Il(b:Nat)(v:Value)(W:World):Prop:=∃g,b≤g∧v= .pointer (some ⟨g,0,none⟩)∧∃x y,Blk W g 78 #[x,y]
def lZ(H:List Txn)(A:Option Addr)(c base:Nat):Nat→(Nat→Value)→World→Prop
 |0,vs,_=>vs 0= .agg #[.slice A H.length c]
 |1,vs,W=>GV base H.length (soE H) (vs 1) W
 |2,vs,_=>vs 2= .agg #[.slice A H.length c]
 |3,vs,W=>GV base H.length (wrE H) (vs 3) W
 |4,vs,W=>∃u,vs 4= .tuple #[u,.int .i64 0]∧GV base H.length (d9 H) u W
 |5,vs,W=>∃u,vs 5= .tuple #[u,.int .i64 0]∧GV base H.length (d9 H) u W
 |6,vs,W=>GV base H.length (d9 H) (vs 6) W
 |7,vs,_=>vs 7= .int .i64 0
 |8,vs,W=>Il (base+2) (vs 8) W
 |9,vs,W=>∃g x y,vs 8= .pointer (some ⟨g,0,none⟩)∧base+2≤g∧vs 6= .agg #[x,y]∧Blk W g 78 #[x,y]
 |_,_,_=>True
def lg:Nat→List Nat
 |1=>[0]
 |3=>[2]
 |4=>[1,3]
 |5=>[4]
 |6=>[5]
 |7=>[5]
 |9=>[8,6]
 |10=>[7]
 |_=>[]
theorem Qo{H:List Txn}{A:Option Addr}{c base:Nat}:∀j (vs vs':Nat→Value) w,(∀k,k=j∨k∈lg j→vs k=vs' k)→lZ H A c base j vs w→lZ H A c base j vs' w:=by
 intro j vs vs' w hk h
 match j,h with
 |0,h|1,h|2,h|3,h|4,h|5,h|6,h|7,h|8,h=>
  simp only[lZ]at h⊢;rw[←hk _ (.inl rfl)];exact h
 |9,h=>
  simp only[lZ]at h⊢;rw[←hk 8 (.inr (by simp[lg])),←hk 6 (.inr (by simp[lg]))];exact h
 |n+10,_=>trivial
def sJ(base:Nat)(i:Nat)(W W':World):Prop:=if i=9 then lY (base+2) W W' else Below W.heap.size W W'
theorem sJ.var{base i:Nat}{W W':World}(h:sJ base i W W'):lY (base+2) W W':=by
 unfold sJ at h;split at h
 ·exact h
 ·exact lY.of_below h
theorem Il.var{b b':Nat}{v:Value}{W W':World}(h:Il b v W)(hs:lY b' W W'):Il b v W':=by
 obtain⟨g,h1,h2,x,y,h3⟩:=h;rcases hs.2 g h3.lt with e|⟨_,cs,cs',_,e2,e3⟩
 ·exact⟨g,h1,h2,x,y,e.trans h3⟩
 ·refine⟨g,h1,h2,cs'[0]'(by omega),cs'[1]'(by omega),?_⟩;have:cs'=#[cs'[0]'(by omega),cs'[1]'(by omega)]:=by
   refine Array.ext (by simp[e3]) fun i h1 h2=> ?_;simp at h2
   match i,h2 with
   |0,_=>rfl
   |1,_=>rfl
  unfold Blk;rw[←this];exact e2
theorem Ll{H:List Txn}{A:Option Addr}{c base:Nat}:∀i j (vs:Nat→Value) w w',j≠i→j∉(fun _=>[]:Nat→List Nat) i→lZ H A c base j vs w→sJ base i w w'→lZ H A c base j vs w':=by
 intro i j vs w w' hne _ h hs;have hv:=hs.var
 match j,h with
 |0,h|2,h|7,h=>exact h
 |1,h|3,h|6,h=>
  simp only[lZ]at h⊢;exact h.var hv
 |4,h|5,h=>
  simp only[lZ]at h⊢;obtain⟨u,h1,h2⟩:=h;exact⟨u,h1,h2.var hv⟩
 |8,h=>
  simp only[lZ]at h⊢;exact Il.var h hv
 |9,h=>
  unfold sJ at hs;rw[if_neg (fun e=>hne e.symm)]at hs;simp only[lZ]at h⊢;obtain⟨g,x,y,h1,h2,h3,h4⟩:=h;exact⟨g,x,y,h1,h2,h3,h4.below hs h4.lt⟩
 |n+10,_=>trivial
theorem Lm:∀i,11≤i→lg i=[]:=by
 intro i hi
 match i,hi with
 |n+11,_=>rfl
set_option maxRecDepth 100000 in
theorem Im(A:Option Addr)(c:Nat)(H:List Txn)(w:World)(h:aC w (Old w) (.slice A H.length c) H)(hn:aA H)(hr:aG H=true):
 Calls Tryz.prog 48 #[.agg #[.slice A H.length c]] w (oD w H.length (d9 H)):=by
 obtain⟨W0,hW0⟩:∃W0,(w.alloc (.cells #[.slice A H.length c] 24)).alloc (.cells #[.int .i64 0,.slice none 0 0] 78)=W0:=⟨_,rfl⟩;have hB:=aF hW0;have k0:=Blk.fG hW0;have k1:=Blk.eP hW0;have h32:H.length≤32:=((aD H).1 hr).1;go_enter Tryz.func48,Tryz.ntmps48;go_wp2_with fail;clear hW0;refine ig (lZ H A c w.heap.size) (fun W=>Below w.heap.size w W∧Blk W w.heap.size 24 #[.slice A H.length c]∧Blk W (w.heap.size+1) 78 #[.int .i64 0,.slice none 0 0]) (sJ w.heap.size) lg (by kernel_rfl) (by kernel_rfl) (by kernel_rfl) Lm (fun _=>[]) (by kernel_rfl) Qo Ll ⟨hB.drew,k0,k1⟩ ?hstep ?hend;case hstep=>
  intro i o ho vs W hS hd;obtain⟨hb,m0,m1⟩:=hS;have hT:=h.below hb
  match i,ho with
  |0,ho=>
   simp only[gZ,gS,Option.some.injEq]at ho;subst ho;simp only[acV,gA,gZ,gS,Act.put,sA,sZ,sS];have c0:=Blk.n0 m0;go_wp2;exact⟨rfl,.agg #[.slice A H.length c],rfl,rfl,⟨hb,m0,m1⟩,Below.refl _ _⟩
  |1,ho=>
   have d0:=hd 0 (by simp[lg]);simp only[lZ]at d0;simp only[gZ,gS,Option.some.injEq]at ho;subst ho;simp only[acV,gA,gZ,gS,Act.put,sA,sZ,sS];rw[d0];go_wp2_with fail;refine(Ol A c H _ hT hn hr).mono ?_;rintro e W2 ⟨g,hg,rfl,kR,hb2⟩;go_wp2;exact⟨rfl,_,rfl,⟨g,Nat.le_trans hb.size hg,rfl,kR⟩,⟨hb.trans (hb2.mono hb.size),m0.below hb2 m0.lt,m1.below hb2 m1.lt⟩,hb2⟩
  |2,ho=>
   simp only[gZ,gS,Option.some.injEq]at ho;subst ho;simp only[acV,gA,gZ,gS,Act.put,sA,sZ,sS];have c0:=Blk.n0 m0;go_wp2;exact⟨rfl,.agg #[.slice A H.length c],rfl,rfl,⟨hb,m0,m1⟩,Below.refl _ _⟩
  |3,ho=>
   have d0:=hd 2 (by simp[lg]);simp only[lZ]at d0;simp only[gZ,gS,Option.some.injEq]at ho;subst ho;simp only[acV,gA,gZ,gS,Act.put,sA,sZ,sS];rw[d0];go_wp2_with fail;refine(Oo A c H _ hT hn hr).mono ?_;rintro e W2 ⟨g,hg,rfl,kR,hb2⟩;go_wp2;exact⟨rfl,_,rfl,⟨g,Nat.le_trans hb.size hg,rfl,kR⟩,⟨hb.trans (hb2.mono hb.size),m0.below hb2 m0.lt,m1.below hb2 m1.lt⟩,hb2⟩
  |4,ho=>
   obtain⟨g1,hg1,d1,q1⟩:=hd 1 (by simp[lg]);obtain⟨g3,hg3,d3,q3⟩:=hd 3 (by simp[lg]);simp only[gZ,gS,Option.some.injEq]at ho;subst ho;simp only[acV,gA,gZ,gS,Act.put,sA,sZ,sS];rw[d1,d3];go_wp2_with fail;refine(xg H.length _ _ _ _ (soE H) (wrE H) (Old W) _ (GrS.bP q1 q1.lt (by omega)) (GrS.bP q3 q3.lt (by omega)) (fun b hb=>hb)).mono ?_;rintro e W2 ⟨g,hg,rfl,kR,hb2⟩;go_wp2;exact⟨rfl,_,rfl,⟨_,rfl,g,Nat.le_trans hb.size hg,rfl,kR⟩,⟨hb.trans (hb2.mono hb.size),m0.below hb2 m0.lt,m1.below hb2 m1.lt⟩,hb2⟩
  |5,ho=>
   obtain⟨u,d4,q4⟩:=hd 4 (by simp[lg]);simp only[gZ,gS,Option.some.injEq]at ho;subst ho;simp only[acV,gA,gZ,gS,Act.put,sA,sZ,sS];rw[d4];go_wp2;exact⟨rfl,_,rfl,⟨_,rfl,q4⟩,⟨hb,m0,m1⟩,Below.refl _ _⟩
  |6,ho=>
   obtain⟨u,d5,q5⟩:=hd 5 (by simp[lg]);simp only[gZ,gS,Option.some.injEq]at ho;subst ho;simp only[acV,gA,gZ,gS,Act.put,sA,sZ,sS];rw[d5];go_wp2;exact⟨rfl,_,rfl,q5,⟨hb,m0,m1⟩,Below.refl _ _⟩
  |7,ho=>
   obtain⟨u,d5,q5⟩:=hd 5 (by simp[lg]);simp only[gZ,gS,Option.some.injEq]at ho;subst ho;simp only[acV,gA,gZ,gS,Act.put,sA,sZ,sS];rw[d5];go_wp2;exact⟨rfl,_,rfl,rfl,⟨hb,m0,m1⟩,Below.refl _ _⟩
  |8,ho=>
   simp only[gZ,gS,Option.some.injEq]at ho;subst ho;simp only[acV,gA,gZ,gS,Act.put,sA,sZ,sS];go_wp2;have hsz:=m1.lt;exact⟨rfl,_,rfl,⟨W.heap.size,by omega,rfl,_,_,Blk.new _ _ _⟩,⟨hb.alloc hb.size _,m0.alloc _,m1.alloc _⟩,(Below.refl _ _).alloc (Nat.le_refl _) _⟩
  |9,ho=>
   obtain⟨g,hg,d8,x,y,q8⟩:=hd 8 (by simp[lg]);obtain⟨g6,hg6,d6,q6⟩:=hd 6 (by simp[lg]);simp only[gZ,gS,Option.some.injEq]at ho;subst ho;simp only[acV,gA,gZ,gS,Act.put,sA,sZ,sS];rw[d8,d6];have c0:=Blk.n0 q8;have c1:=Blk.n1 q8;have f0:=q8.frozen 0;have f1:=q8.frozen 1;go_wp2;have hq:=(q8.aH 0 (.int .i64 H.length)).aH 1 (.slice (some ⟨g6,0,none⟩) H.length H.length);have n1:w.heap.size≠g:=(by omega);have n2:w.heap.size+1≠g:=(by omega);refine⟨rfl,undef,rfl,⟨g,_,_,(show cK vs 9 undef 8=_ from d8),hg,(show cK vs 9 undef 6=_ from d6),by simpa using hq⟩,⟨(hb.setCell (p:=⟨g,0,none⟩) (by simp;omega) _).setCell (p:=⟨g,1,none⟩) (by simp;omega) _,(m0.far n1 _).far n1 _,(m1.far n2 _).far n2 _⟩,?_⟩;unfold sJ;rw[if_pos rfl];refine⟨⟨rfl,rfl,rfl,by simp⟩,fun k hk=> ?_⟩;by_cases e:k=g
   ·subst e;exact .inr ⟨hg,_,_,q8,hq,by simp⟩
   ·exact .inl ((Below.heap_setCell _ ⟨g,1,none⟩ _ k e).trans (Below.heap_setCell _ ⟨g,0,none⟩ _ k e))
  |10,ho=>
   have d7:=hd 7 (by simp[lg]);simp only[lZ]at d7;simp only[gZ,gS,Option.some.injEq]at ho;subst ho;simp only[acV,gA,gZ,gS,Act.put,sA,sZ,sS];rw[d7];go_wp2;exact⟨rfl,_,rfl,trivial,⟨hb,m0,m1⟩,Below.refl _ _⟩
  |n+11,ho=>simp at ho
 case hend=>
  rintro vs W ⟨hb,m0,m1⟩ hd;obtain⟨g,x,y,d8,hg,d6,q9⟩:=hd 9 (by simp) (by simp);obtain⟨g6,hg6,d6',q6⟩:=hd 6 (by simp) (by simp);rw[d6]at d6';injection d6' with d6'
  simp only[Array.mk.injEq,List.cons.injEq,and_true]at d6';obtain⟨rfl,rfl⟩:=d6';clear hd;simp only[acV,gA,gZ,gS,Act.put,sA,sZ,sS,List.length_cons,List.length_nil,Nat.reduceAdd];rw[d8,d6];have c0:=Blk.n0 q9;have c1:=Blk.n1 q9;have j0:=Blk.n0 m1;have j1:=Blk.n1 m1;have jf:=m1.frozen 0;have jf1:=m1.frozen 1;have hne:g6≠w.heap.size+1:=by
   rintro rfl;have:=m1.symm.trans q6;simp at this
  go_wp2;have kF0:=((q6.far (p:=⟨w.heap.size+1,0,none⟩) hne (.int .i64 H.length)).far (p:=⟨w.heap.size+1,1,none⟩) hne (.slice (some ⟨g6,0,none⟩) H.length H.length));have hF:=((hb.setCell (p:=⟨w.heap.size+1,0,none⟩) (by simp) (.int .i64 H.length)).setCell (p:=⟨w.heap.size+1,1,none⟩) (by simp) (.slice (some ⟨g6,0,none⟩) H.length H.length));exact bodyPost_ret (v:= .agg #[.int .i64 H.length,.slice (some ⟨g6,0,none⟩) H.length H.length]) (by simp[results,Tryz.results48,go_sem,j0,j1]) rfl ⟨g6,hg6,rfl,kF0,hF⟩
set_option maxHeartbeats 8000000
def mO(H:List Txn)(A:Option Addr)(c:Nat)(Al:Option Addr)(cl:Nat)(l:List Cho)(base:Nat):Nat→(Nat→Value)→World→Prop
 |0,vs,_=>vs 0= .agg #[.slice A H.length c]
 |1,vs,W=>GV base H.length (d9 H) (vs 1) W
 |2,vs,_=>vs 2= .agg #[.slice A H.length c]
 |3,vs,_=>vs 3= .slice Al l.length cl
 |4,vs,W=>GV base H.length (wwE l) (vs 4) W
 |5,vs,W=>∃g5 g',vs 5= .slice (some ⟨g5,0,none⟩) 1 1∧Blk W g5 78 #[.int .i64 H.length,.slice (some ⟨g',0,none⟩) H.length H.length]∧base≤g'∧Blk W g' 116 (bV H.length (wwE l))
 |6,vs,W=>GV base H.length (orE (d9 H) (wwE l)) (vs 6) W
 |7,vs,W=>Il base (vs 7) W
 |8,vs,W=>∃g x y,vs 7= .pointer (some ⟨g,0,none⟩)∧base≤g∧vs 6= .agg #[x,y]∧Blk W g 78 #[x,y]
 |_,_,_=>True
def mP:Nat→List Nat
 |1=>[0]
 |4=>[2,3]
 |5=>[4]
 |6=>[1,5]
 |8=>[7,6]
 |_=>[]
def Fb:Nat→List Nat
 |8=>[5]
 |_=>[]
theorem Qp{H:List Txn}{A:Option Addr}{c:Nat}{Al:Option Addr}{cl:Nat}{l:List Cho}{base:Nat}:∀j (vs vs':Nat→Value) w,(∀k,k=j∨k∈mP j→vs k=vs' k)→mO H A c Al cl l base j vs w→mO H A c Al cl l base j vs' w:=by
 intro j vs vs' w hk h
 match j,h with
 |0,h|1,h|2,h|3,h|4,h|5,h|6,h|7,h=>
  simp only[mO]at h⊢;rw[←hk _ (.inl rfl)];exact h
 |8,h=>
  simp only[mO]at h⊢;rw[←hk 7 (.inr (by simp[mP])),←hk 6 (.inr (by simp[mP]))];exact h
 |n+9,_=>trivial
def qj(base:Nat)(i:Nat)(W W':World):Prop:=if i=8 then lY base W W' else Below W.heap.size W W'
theorem qj.var{base i:Nat}{W W':World}(h:qj base i W W'):lY base W W':=by
 unfold qj at h;split at h
 ·exact h
 ·exact lY.of_below h
theorem Lp{H:List Txn}{A:Option Addr}{c:Nat}{Al:Option Addr}{cl:Nat}{l:List Cho}{base:Nat}:∀i j (vs:Nat→Value) w w',j≠i→j∉Fb i→mO H A c Al cl l base j vs w→qj base i w w'→mO H A c Al cl l base j vs w':=by
 intro i j vs w w' hne hkl h hs;have hv:=hs.var
 match j,h with
 |0,h|2,h|3,h=>exact h
 |1,h|4,h|6,h=>
  simp only[mO]at h⊢;exact h.var hv
 |5,h=>
  have hi:i≠8:=(by rintro rfl;exact hkl (by simp[Fb]));unfold qj at hs;rw[if_neg hi]at hs;simp only[mO]at h⊢;obtain⟨g5,g',h1,h2,h3,h4⟩:=h;exact⟨g5,g',h1,h2.below hs h2.lt,h3,h4.below hs h4.lt⟩
 |7,h=>
  simp only[mO]at h⊢;exact Il.var h hv
 |8,h=>
  unfold qj at hs;rw[if_neg (fun e=>hne e.symm)]at hs;simp only[mO]at h⊢;obtain⟨g,x,y,h1,h2,h3,h4⟩:=h;exact⟨g,x,y,h1,h2,h3,h4.below hs h4.lt⟩
 |n+9,_=>trivial
theorem Lr:∀i,9≤i→mP i=[]:=by
 intro i hi
 match i,hi with
 |n+9,_=>rfl
theorem uF(H:List Txn)(level:Int)(l:List Cho):dW H level l=orE (orE (d9 H) (wwE l)) (if level=1 then lN H.length (orE (d9 H) (wwE l)) (rwE H l)else rwE H l):=rfl
set_option maxRecDepth 100000 in
theorem zA(A:Option Addr)(c:Nat)(H:List Txn)(level:Int)(Al:Option Addr)(cl:Nat)(l:List Cho)(w:World)(h:aC w (Old w) (.slice A H.length c) H)(hn:aA H)(hl:aV w (Old w) (.slice Al l.length cl) l)(hr:dR H l=true)(Dg:level=0∨level=1)(hTB:jl w):
 Calls Tryz.prog 22 #[.agg #[.slice A H.length c],.int .i64 level,.slice Al l.length cl] w (KQ w H.length (dW H level l)):=by
 obtain⟨W0,hW0⟩:∃W0,(w.alloc (.cells #[.slice A H.length c] 24)).alloc (.cells #[.int .i64 0,.slice none 0 0] 78)=W0:=⟨_,rfl⟩;have hB:=aF hW0;have k0:=Blk.fG hW0;have k1:=Blk.eP hW0;have hs0:=size_two hW0;have hrh:=iH hr;have h32:H.length≤32:=((aD H).1 hrh).1;have hll:=kZ hr;have h0:=hide (h.below hB);have hl0:=hide (hl.below hB);replace hr:=hide hr;replace hn:=hide hn;replace hl:=hide hl;replace h:=hide h;replace hrh:=hide hrh;have c0:=Blk.n0 k0;have hq0:(level !=0)=false∨((level !=0)=true∧(level !=1)=false):=by
  rcases Dg with rfl|rfl
  ·exact .inl rfl
  ·exact .inr ⟨rfl,rfl⟩
 replace Dg:=hide Dg;replace hs0:=hide hs0;go_enter Tryz.func22,Tryz.ntmps22;go_wp2_with fail;clear hW0 c0;refine(jF A c H Al cl l _ h0.out hn.out hl0.out (by omega)).mono ?_;rintro e w1 ⟨rfl,hb1⟩;rw[hr.out];have hs1:w.heap.size+2≤w1.heap.size:=(by have:=hb1.size;have:=hs0.out;omega);replace k0:=k0.below hb1 k0.lt;replace k1:=k1.below hb1 k1.lt;have hb2:=hB.trans (hb1.mono hB.size);clear hb1 hB h0 hl0 hs0;rcases hq0 with q1|⟨q1,q2⟩;all_goals
  go_wp2_with fail;refine ig (mO H A c Al cl l (w.heap.size+2)) (fun W=>Below w.heap.size w W∧Blk W w.heap.size 24 #[.slice A H.length c]∧Blk W (w.heap.size+1) 78 #[.int .i64 0,.slice none 0 0]) (qj (w.heap.size+2)) mP (by kernel_rfl) (by kernel_rfl) (by kernel_rfl) Lr Fb (by kernel_rfl) Qp Lp ⟨hb2.drew,k0,k1⟩ ?hstep ?hend;case hstep=>
   intro i o ho vs W hS hd;obtain⟨hb,m0,m1⟩:=hS;have hT:=h.out.below hb;have hC:=hl.out.below hb;have hsz:=m1.lt
   match i,ho with
   |0,ho=>
    simp only[gZ,gS,Option.some.injEq]at ho;subst ho;simp only[acV,gA,gZ,gS,Act.put,sA,sZ,sS];have c0:=Blk.n0 m0;go_wp2;exact⟨rfl,.agg #[.slice A H.length c],rfl,rfl,⟨hb,m0,m1⟩,Below.refl _ _⟩
   |1,ho=>
    have d0:=hd 0 (by simp[mP]);simp only[mO]at d0;simp only[gZ,gS,Option.some.injEq]at ho;subst ho;simp only[acV,gA,gZ,gS,Act.put,sA,sZ,sS];rw[d0];go_wp2_with fail;refine(Im A c H _ hT hn.out hrh.out).mono ?_;rintro e W2 ⟨g,hg,rfl,kR,hb2⟩;go_wp2;exact⟨rfl,_,rfl,⟨g,by omega,rfl,kR⟩,⟨hb.trans (hb2.mono hb.size),m0.below hb2 m0.lt,m1.below hb2 m1.lt⟩,hb2⟩
   |2,ho=>
    simp only[gZ,gS,Option.some.injEq]at ho;subst ho;simp only[acV,gA,gZ,gS,Act.put,sA,sZ,sS];have c0:=Blk.n0 m0;go_wp2;exact⟨rfl,.agg #[.slice A H.length c],rfl,rfl,⟨hb,m0,m1⟩,Below.refl _ _⟩
   |3,ho=>
    simp only[gZ,gS,Option.some.injEq]at ho;subst ho;simp only[acV,gA,gZ,gS,Act.put,sA,sZ,sS];go_wp2;exact⟨rfl,.slice Al l.length cl,rfl,rfl,⟨hb,m0,m1⟩,Below.refl _ _⟩
   |4,ho=>
    have d2:=hd 2 (by simp[mP]);have d3:=hd 3 (by simp[mP]);simp only[mO]at d2 d3;simp only[gZ,gS,Option.some.injEq]at ho;subst ho;simp only[acV,gA,gZ,gS,Act.put,sA,sZ,sS];rw[d2,d3];go_wp2_with fail;refine(Oi A c H Al cl l _ hT hn.out hC hr.out).mono ?_;rintro e W2 ⟨g,hg,rfl,kR,hb2⟩;go_wp2;exact⟨rfl,_,rfl,⟨g,by omega,rfl,kR⟩,⟨hb.trans (hb2.mono hb.size),m0.below hb2 m0.lt,m1.below hb2 m1.lt⟩,hb2⟩
   |5,ho=>
    obtain⟨g4,hg4,d4,q4⟩:=hd 4 (by simp[mP]);simp only[gZ,gS,Option.some.injEq]at ho;subst ho;simp only[acV,gA,gZ,gS,Act.put,sA,sZ,sS];rw[d4];go_wp2;exact⟨rfl,_,rfl,⟨W.heap.size,g4,rfl,Blk.new _ _ _,hg4,q4.alloc _⟩,⟨hb.alloc hb.size _,m0.alloc _,m1.alloc _⟩,(Below.refl _ _).alloc (Nat.le_refl _) _⟩
   |6,ho=>
    obtain⟨gp,hgp,d1,qp⟩:=hd 1 (by simp[mP]);obtain⟨g5,g',d5,q5,hg',qw⟩:=hd 5 (by simp[mP]);simp only[gZ,gS,Option.some.injEq]at ho;subst ho;simp only[acV,gA,gZ,gS,Act.put,sA,sZ,sS];rw[d1,d5];go_wp2_with fail;refine(vV H.length _ _ _ _ (d9 H) (wwE l) g5 _ (GrS.bP qp qp.lt (by omega)) (GrS.bP qw qw.lt (by omega)) q5).mono ?_;rintro e W2 ⟨g,hg,rfl,kR,hb2⟩;go_wp2;exact⟨rfl,_,rfl,⟨g,by omega,rfl,kR⟩,⟨hb.trans (hb2.mono hb.size),m0.below hb2 m0.lt,m1.below hb2 m1.lt⟩,hb2⟩
   |7,ho=>
    simp only[gZ,gS,Option.some.injEq]at ho;subst ho;simp only[acV,gA,gZ,gS,Act.put,sA,sZ,sS];go_wp2;exact⟨rfl,_,rfl,⟨W.heap.size,by omega,rfl,_,_,Blk.new _ _ _⟩,⟨hb.alloc hb.size _,m0.alloc _,m1.alloc _⟩,(Below.refl _ _).alloc (Nat.le_refl _) _⟩
   |8,ho=>
    obtain⟨g,hg,d7,x,y,q7⟩:=hd 7 (by simp[mP]);obtain⟨g6,hg6,d6,q6⟩:=hd 6 (by simp[mP]);simp only[gZ,gS,Option.some.injEq]at ho;subst ho;simp only[acV,gA,gZ,gS,Act.put,sA,sZ,sS];rw[d7,d6];have c0:=Blk.n0 q7;have c1:=Blk.n1 q7;have f0:=q7.frozen 0;have f1:=q7.frozen 1;go_wp2;have hq:=(q7.aH 0 (.int .i64 H.length)).aH 1 (.slice (some ⟨g6,0,none⟩) H.length H.length);have n1:w.heap.size≠g:=(by omega);have n2:w.heap.size+1≠g:=(by omega);refine⟨rfl,undef,rfl,⟨g,_,_,(show cK vs 8 undef 7=_ from d7),hg,(show cK vs 8 undef 6=_ from d6),by simpa using hq⟩,⟨(hb.setCell (p:=⟨g,0,none⟩) (by simp;omega) _).setCell (p:=⟨g,1,none⟩) (by simp;omega) _,(m0.far n1 _).far n1 _,(m1.far n2 _).far n2 _⟩,?_⟩;unfold qj;rw[if_pos rfl];refine⟨⟨rfl,rfl,rfl,by simp⟩,fun k hk=> ?_⟩;by_cases e:k=g
    ·subst e;exact .inr ⟨hg,_,_,q7,hq,by simp⟩
    ·exact .inl ((Below.heap_setCell _ ⟨g,1,none⟩ _ k e).trans (Below.heap_setCell _ ⟨g,0,none⟩ _ k e))
   |n+9,ho=>simp at ho
  case hend=>
   rintro vs W ⟨hb,m0,m1⟩ hd;obtain⟨g,x,y,d7,hg,d6,q8⟩:=hd 8 (by simp) (by intro i _;unfold Fb;split<;>simp);obtain⟨g6,hg6,d6',q6⟩:=hd 6 (by simp) (by intro i _;unfold Fb;split<;>simp);rw[d6]at d6';injection d6' with d6'
   simp only[Array.mk.injEq,List.cons.injEq,and_true]at d6';obtain⟨rfl,rfl⟩:=d6';clear hd;simp only[acV,gA,gZ,gS,Act.put,sA,sZ,sS,List.length_cons,List.length_nil,Nat.reduceAdd];rw[d7,d6];have hT:=hide (h.out.below hb);have hC:=hide (hl.out.below hb);have c0:=Blk.n0 m0;clear k0 k1 hb2 d6 d7;go_wp2_with fail;refine(Ox A c H Al cl l _ hT.out hn.out hC.out hr.out).mono ?_;rintro e W2 ⟨gr,hgr,rfl,kRr,hb2⟩;clear c0 hT hC;obtain⟨W3,hW3⟩:∃W3,W2.alloc (.cells #[.int .i64 H.length,.slice (some ⟨gr,0,none⟩) H.length H.length] 78)=W3:=⟨_,rfl⟩;have hB3:=ah (Below.refl W2.heap.size W2) hW3 (Nat.le_refl _);have k9:=Blk.newEq hW3;have hBW:=hb2.trans (hB3.mono hb2.size);have m1c:=m1.below hBW m1.lt;have q8c:=q8.below hBW q8.lt;have q6c:=q6.below hBW q6.lt;have kOc:=kRr.below hB3 kRr.lt;have hbc:=hb.trans (hBW.mono hb.size);have Ls:=hTB.below hbc;have hsz:=m1.lt;have hq8:=q8.lt;have hw2:=hb2.size;clear hBW hB3 hb2 hb m0 m1 q8 q6 kRr;by_cases h1:level=1
   ·have q3:(level==1)=true:=(by simpa using h1);have hfe:Hid (dW H level l=orE (orE (d9 H) (wwE l)) (lN H.length (orE (d9 H) (wwE l)) (rwE H l))):=hide (by rw[uF,if_pos h1]);clear h1;have a0:=Blk.n0 q8c;have a1:=Blk.n1 q8c;have b0:=Blk.n0 k9;have b1:=Blk.n1 k9;have hcp:=hide (H9 H.length _ _ _ _ (orE (d9 H) (wwE l)) (rwE H l) (fun b=>b=g6∨b=gr) W3 (GrS.bP q6c (.inl rfl) (by omega)) (GrS.bP kOc (.inr rfl) (by omega)) (by rintro b (rfl|rfl);exact q6c.lt;exact kOc.lt) Ls);go_wp2_with fail;clear a0 a1 b0 b1 hW3;refine hcp.out.mono ?_;rintro e W4 ⟨gc,hgc,rfl,kRc,hb4⟩;have k94:=k9.below hb4 k9.lt;have c0:=Blk.n0 k94;have c1:=Blk.n1 k94;have f0:=k94.frozen 0;have f1:=k94.frozen 1;have VK:=k9.lt;have Xx:=q6c.lt;have ng:g≠W2.heap.size:=(by omega);have nr:w.heap.size+1≠W2.heap.size:=(by omega);have nc:gc≠W2.heap.size:=(by omega);have n6:g6≠W2.heap.size:=by
     rintro rfl;have:=k9.symm.trans q6c;simp at this
    have m1d:=((m1c.below hb4 m1c.lt).far (p:=⟨W2.heap.size,0,none⟩) nr (.int .i64 H.length)).far (p:=⟨W2.heap.size,1,none⟩) nr (.slice (some ⟨gc,0,none⟩) H.length H.length);have q8d:=((q8c.below hb4 q8c.lt).far (p:=⟨W2.heap.size,0,none⟩) ng (.int .i64 H.length)).far (p:=⟨W2.heap.size,1,none⟩) ng (.slice (some ⟨gc,0,none⟩) H.length H.length);have q6d:=((q6c.below hb4 q6c.lt).far (p:=⟨W2.heap.size,0,none⟩) n6 (.int .i64 H.length)).far (p:=⟨W2.heap.size,1,none⟩) n6 (.slice (some ⟨gc,0,none⟩) H.length H.length);have kOd:=(kRc.far (p:=⟨W2.heap.size,0,none⟩) nc (.int .i64 H.length)).far (p:=⟨W2.heap.size,1,none⟩) nc (.slice (some ⟨gc,0,none⟩) H.length H.length);have k9d:=(k94.aH 0 (.int .i64 H.length)).aH 1 (.slice (some ⟨gc,0,none⟩) H.length H.length);simp only[sA,sZ,sS]at k9d;have hbd:=((hbc.trans (hb4.mono hbc.size)).setCell (p:=⟨W2.heap.size,0,none⟩) (by simp;omega) (.int .i64 H.length)).setCell (p:=⟨W2.heap.size,1,none⟩) (by simp;omega) (.slice (some ⟨gc,0,none⟩) H.length H.length);clear m1c q8c q6c kOc hbc k9 k94 kRc hcp Ls hb4;obtain⟨Wd,hWd⟩:∃Wd,(W4.setCell ⟨W2.heap.size,0,none⟩ (.int .i64 H.length)).setCell ⟨W2.heap.size,1,none⟩ (.slice (some ⟨gc,0,none⟩) H.length H.length)=Wd:=⟨_,rfl⟩;rw[hWd]at m1d q8d q6d kOd k9d hbd;have m1c:=m1d;have q8c:=q8d;have q6c:=q6d;have kOc:=kOd;have k9c:=k9d;have hbc:=hbd;clear m1d q8d q6d kOd k9d hbd;have a0:=Blk.n0 q8c;have a1:=Blk.n1 q8c;have b0:=Blk.n0 k9c;have b1:=Blk.n1 k9c;obtain⟨W5,hW5⟩:∃W5,(Wd).alloc (.cells #[.int .i64 H.length,.slice (some ⟨gc,0,none⟩) H.length H.length] 78)=W5:=⟨_,rfl⟩;have hB5:=ah (Below.refl (Wd).heap.size Wd) hW5 (Nat.le_refl _);have kN:=Blk.newEq hW5;have hcall:=hide (vV H.length _ _ _ _ (orE (d9 H) (wwE l)) (lN H.length (orE (d9 H) (wwE l)) (rwE H l)) (Wd).heap.size W5 (GrS.bP (q6c.below hB5 q6c.lt) (Nat.lt_of_lt_of_le q6c.lt hB5.size) (by omega)) (GrS.bP (kOc.below hB5 kOc.lt) (Nat.lt_of_lt_of_le kOc.lt hB5.size) (by omega)) kN);have m15:=m1c.below hB5 m1c.lt;have hb5:=hbc.trans (hB5.mono hbc.size);clear kN hB5;go_wp2_with fail;clear a0 a1 b0 b1 hW5;refine hcall.out.mono ?_;rintro e W6 ⟨gz,hgz,rfl,kRz,hb6⟩;have m16:=m15.below hb6 m15.lt;have hb7:=hb5.trans (hb6.mono hb5.size);have j0:=Blk.n0 m16;have j1:=Blk.n1 m16;have jf:=m16.frozen 0;have jf1:=m16.frozen 1;have hml:=m15.lt;have n1:gz≠w.heap.size+1:=(by omega);clear hcall;go_wp2;exact bodyPost_ret (v:= .tuple #[.agg #[.int .i64 H.length,.slice (some ⟨gz,0,none⟩) H.length H.length],.int .i64 0]) (by simp[results,Tryz.results22,go_sem,j0,j1]) rfl ⟨gz,by omega,rfl,by rw[hfe.out];exact(kRz.far (p:=⟨w.heap.size+1,0,none⟩) n1 _).far (p:=⟨w.heap.size+1,1,none⟩) n1 _,(hb7.setCell (p:=⟨w.heap.size+1,0,none⟩) (by simp) _).setCell (p:=⟨w.heap.size+1,1,none⟩) (by simp) _⟩
   ·have q3:(level==1)=false:=(by simpa using h1);have hfe:Hid (dW H level l=orE (orE (d9 H) (wwE l)) (rwE H l)):=hide (by rw[uF,if_neg h1]);have k9c:=k9;clear h1 k9;have a0:=Blk.n0 q8c;have a1:=Blk.n1 q8c;have b0:=Blk.n0 k9c;have b1:=Blk.n1 k9c;obtain⟨W5,hW5⟩:∃W5,(W3).alloc (.cells #[.int .i64 H.length,.slice (some ⟨gr,0,none⟩) H.length H.length] 78)=W5:=⟨_,rfl⟩;have hB5:=ah (Below.refl (W3).heap.size W3) hW5 (Nat.le_refl _);have kN:=Blk.newEq hW5;have hcall:=hide (vV H.length _ _ _ _ (orE (d9 H) (wwE l)) (rwE H l) (W3).heap.size W5 (GrS.bP (q6c.below hB5 q6c.lt) (Nat.lt_of_lt_of_le q6c.lt hB5.size) (by omega)) (GrS.bP (kOc.below hB5 kOc.lt) (Nat.lt_of_lt_of_le kOc.lt hB5.size) (by omega)) kN);have m15:=m1c.below hB5 m1c.lt;have hb5:=hbc.trans (hB5.mono hbc.size);clear kN hB5;go_wp2_with fail;clear a0 a1 b0 b1 hW5;refine hcall.out.mono ?_;rintro e W6 ⟨gz,hgz,rfl,kRz,hb6⟩;have m16:=m15.below hb6 m15.lt;have hb7:=hb5.trans (hb6.mono hb5.size);have j0:=Blk.n0 m16;have j1:=Blk.n1 m16;have jf:=m16.frozen 0;have jf1:=m16.frozen 1;have hml:=m15.lt;have n1:gz≠w.heap.size+1:=(by omega);clear hcall;go_wp2;exact bodyPost_ret (v:= .tuple #[.agg #[.int .i64 H.length,.slice (some ⟨gz,0,none⟩) H.length H.length],.int .i64 0]) (by simp[results,Tryz.results22,go_sem,j0,j1]) rfl ⟨gz,by omega,rfl,by rw[hfe.out];exact(kRz.far (p:=⟨w.heap.size+1,0,none⟩) n1 _).far (p:=⟨w.heap.size+1,1,none⟩) n1 _,(hb7.setCell (p:=⟨w.heap.size+1,0,none⟩) (by simp) _).setCell (p:=⟨w.heap.size+1,1,none⟩) (by simp) _⟩
end Go.Proofs.YtpjechjoijjhpaaGreatDoor
namespace Go.Inq
open Go Go.RowKit
def iK(D:Nat→Nat):Array Value:=((List.range 64).map fun x=>Value.int .i64 ((D x:Nat):Int)).toArray
theorem mQ(D:Nat→Nat):(iK D).size=64:=by simp[iK]
theorem DF{D:Nat→Nat}{x:Nat}(h:x<64):(iK D)[x]?=some (.int .i64 ((D x:Nat):Int)):=by
 unfold iK;rw[gA,List.getElem?_map,List.getElem?_range h];rfl
theorem Oy{D:Nat→Nat}{x v:Nat}(h:x<64):(iK D).setIfInBounds x (.int .i64 ((v:Nat):Int))=iK (fun y=>if y=x then v else D y):=by
 unfold iK;rw[sA];congr 1;refine List.ext_getElem (by simp) fun i h1 h2=> ?_;rw[List.getElem_set,List.getElem_map,List.getElem_map,List.getElem_range];dsimp only;by_cases e:x=i
 ·rw[if_pos e,if_pos e.symm]
 ·rw[if_neg e,if_neg (Ne.symm e)]
theorem Oz{D:Nat→Nat}{x k:Nat}(h:x<64):(iK D).setIfInBounds x (.int .i64 ((k:Int)+1))=iK (fun y=>if y=x then k+1 else D y):=by
 rw[←Oy h];rfl
theorem Fe(D:Nat→Nat):(iK D).all (·.oneCell')=true:=by
 rw[Array.all_eq_true];intro i hi;simp[iK,Value.oneCell']
theorem mU{D F:Nat→Nat}(h:∀x,D x=F x):iK D=iK F:=by rw[show D=F from funext h]
theorem Fg{W:World}{g:Nat}{t:TypeId}{cs:Array Value}(hk:Blk W g t cs):W.setRow g cs=W:=by
 unfold Blk at hk;have h2:∀i,(W.setRow g cs).heap[i]?=W.heap[i]?:=fun i=>by
  unfold World.setRow;dsimp only;rw[Array.getElem?_modify];by_cases e:g=i
  ·subst e;rw[if_pos rfl,hk];rfl
  ·rw[if_neg e]
 have h3:(W.setRow g cs).heap=W.heap:=Array.ext_getElem? h2;unfold World.setRow at h3⊢;dsimp only at h3;rw[h3]
theorem zB {P:Program} {W:World} {ops:Array Oper} {rest:List Oper} {o:Oper} {a:Act} {Q:Exit→Act→World→Prop} {t e:TypeId} {p:Operand} {g n:Nat} {cs:Array Value}
 (hg:o.guard=none) (ho:o.op= .load t p) (hp:a.eval p= .pointer (some ⟨g,0,none⟩)) (hk:Blk W g t cs) (hu:P.underlying t=some (.array n e)) (hi:(P.info? t).map (·.size)=some cs.size)
 (h:wpList P ops Q rest (a.put o.dst (.agg cs)) W):wpList P ops Q (o::rest) a W:=by
 refine wpList_plain hg (fun K hK=> ?_);have hr:(Instr.loadAt t (.pointer (some ⟨g,0,none⟩))).run P W= .ok (.agg cs) W:=by
  simp only[Instr.loadAt,Instr.sureAddr,Sem.run_bind,Sem.run_pure,Result.andThen];exact run_loadVar_row W g t t cs (0,0) _ hk hu rfl hi
 unfold Oper.wp execOp;simp only[ho,hp,Sem.run_bind,Sem.run_pure,Result.andThen_ok,Sem.run_map,hr];exact hK _ _ h
theorem Bc {fn:Func} {p:Tmp} {ty:TypeId} (h:fn.results=#[.cell p ty]) {tmps:Array Value} {P:Program} {W:World} {g:Nat} {cs:Array Value} {n:Nat} {e:TypeId} (hp:tmps.getD p undef= .pointer (some ⟨g,0,none⟩))
 (hk:Blk W g ty cs) (hu:P.underlying ty=some (.array n e)) (hi:(P.info? ty).map (·.size)=some cs.size):(results fn tmps).run P W= .ok (.agg cs) W:=by
 have hr:=run_loadVar_row (P:=P) W g ty ty cs (0,0) _ hk hu rfl hi;simp only[results,h];simp[Sem.run_bind,Result.andThen,asAddr,hr,Array.getD_eq_getD_getElem?]at hp⊢;rw[hp];simp[Sem.run_bind,Result.andThen,hr]
theorem yg {P:Program} {W:World} {ops:Array Oper} {rest:List Oper} {o:Oper} {a:Act} {Q:Exit→Act→World→Prop} {t:TypeId} {p x:Operand} {g:Nat} {cs c':Array Value}
 (hg:o.guard=none) (ho:o.op= .store t p x) (hp:a.eval p= .pointer (some ⟨g,0,none⟩)) (hx:a.eval x= .agg c') (hk:Blk W g t cs) (hi:(P.info? t).map (·.size)=some c'.size) (hs:cs.size=c'.size) (h1:c'.all (·.oneCell')=true)
 (h:wpList P ops Q rest (a.put o.dst undef) (W.setRow g c')):wpList P ops Q (o::rest) a W:=by
 refine wpList_plain hg (fun K hK=> ?_);have hr:(Instr.storeAt t (.pointer (some ⟨g,0,none⟩)) (.agg c')).run P W= .ok () (W.setRow g c'):=by
  simp only[Instr.storeAt,Instr.sureAddr,Sem.run_bind,Sem.run_pure,Result.andThen];exact run_storeVar_row W g t t cs c' hk hi hs h1
 unfold Oper.wp execOp;simp only[ho,hp,hx,Sem.run_bind,Sem.run_pure,Result.andThen_ok,Sem.run_map,hr];exact hK _ _ h
def bC(n:Nat)(E:aj)(v k x:Nat):Nat:=if x<n then(match k with|0=>0|k+1=>cB n E v k x)else 0
def bS(n:Nat)(E:aj)(v k:Nat)(z:Nat):Bool:=match k with|0=>E z v|k+1=>(List.range n).any fun y=>E z y&&decide (cB n E v k y=k+1)
theorem qO{n:Nat}{E:aj}{v k x:Nat}(hx:x<n):bC n E v (k+1) x=if bC n E v k x≠0 then bC n E v k x else if bS n E v k x=true then k+1 else 0:=by
 unfold bC;rw[if_pos hx,if_pos hx];cases k with
 |zero=>rfl
 |succ k=>rfl
theorem Qq{n:Nat}{E:aj}{v k x:Nat}:bC n E v k x≤k:=by
 unfold bC;split
 ·cases k with
  |zero=>exact Nat.le_refl _
  |succ k=>exact yu k x
 ·omega
theorem OA{n:Nat}{E:aj}{v k x:Nat}(hx:x<n):bC n E v (k+1) x=k+1↔bC n E v k x=0∧bS n E v k x=true:=by
 have hle:=Qq (n:=n) (E:=E) (v:=v) (k:=k) (x:=x);rw[qO hx];by_cases h:bC n E v k x=0
 ·rw[if_neg (by omega)];cases bS n E v k x<;>simp[h]
 ·rw[if_pos h];constructor
  ·intro e;omega
  ·rintro⟨e,_⟩;exact absurd e h
theorem xu{n:Nat}{E:aj}{v k z:Nat}:bS n E v (k+1) z=((List.range n).filter (bS n E v k)).any fun x=>decide (bC n E v k x=0)&&E z x:=by
 show((List.range n).any fun y=>E z y&&decide (cB n E v k y=k+1))=_;rw[Bool.eq_iff_iff,List.any_eq_true,List.any_eq_true];have hn:∀y,y<n→(cB n E v k y=k+1↔bC n E v k y=0∧bS n E v k y=true):=fun y hy=>by
  rw[←OA hy];unfold bC;rw[if_pos hy]
 constructor
 ·rintro⟨y,hy,h⟩;rw[Bool.and_eq_true]at h;obtain⟨h1,h2⟩:=(hn y (List.mem_range.1 hy)).1 (of_decide_eq_true h.2);exact⟨y,List.mem_filter.2 ⟨hy,h2⟩,by rw[h.1,decide_eq_true h1];rfl⟩
 ·rintro⟨y,hy,h⟩;obtain⟨hy1,hy2⟩:=List.mem_filter.1 hy;rw[Bool.and_eq_true]at h;exact⟨y,hy1,by rw[h.2,decide_eq_true ((hn y (List.mem_range.1 hy1)).2 ⟨of_decide_eq_true h.1,hy2⟩)];rfl⟩
def dIn(D:Nat→Nat)(k:Nat)(l:List Nat)(x:Nat):Nat:=if D x≠0 then D x else if l.contains x=true then k+1 else 0
def pIn(E:aj)(D:Nat→Nat)(l:List Nat)(z:Nat):Bool:=l.any fun x=>decide (D x=0)&&E z x
theorem Qr(D:Nat→Nat)(k x:Nat):dIn D k [] x=D x:=by
 unfold dIn;by_cases h:D x=0<;>simp[h]
theorem JV{n:Nat}{E:aj}{v k x:Nat}:dIn (bC n E v k) k ((List.range n).filter (bS n E v k)) x=bC n E v (k+1) x:=by
 unfold dIn;by_cases hx:x<n
 ·rw[qO hx];have:((List.range n).filter (bS n E v k)).contains x=bS n E v k x:=by
   rw[Bool.eq_iff_iff,List.contains_iff_mem,List.mem_filter,List.mem_range];exact⟨fun h=>h.2,fun h=>⟨hx,h⟩⟩
  rw[this]
 ·have h1:bC n E v k x=0:=(by unfold bC;rw[if_neg hx]);have h2:bC n E v (k+1) x=0:=(by unfold bC;rw[if_neg hx]);have:((List.range n).filter (bS n E v k)).contains x=false:=by
   rw[Bool.eq_false_iff];intro h;rw[List.contains_iff_mem,List.mem_filter,List.mem_range]at h;exact hx h.1
  rw[h1,h2,this];rfl
theorem OB{D:Nat→Nat}{k:Nat}{l:List Nat}(hnd:l.Nodup){i:Nat}(hi:i<l.length):dIn D k (l.take i) l[i]=D l[i]∧(D l[i]=0→∀y,(if y=l[i]then k+1 else dIn D k (l.take i) y)=dIn D k (l.take (i+1)) y)∧(D l[i]≠0→∀y,dIn D k (l.take i) y=dIn D k (l.take (i+1)) y):=by
 have hnot:l[i]∉l.take i:=fun hm=>by
  obtain⟨j,hj,e⟩:=List.mem_take_iff_getElem.1 hm;exact List.pairwise_iff_getElem.1 (List.nodup_iff_pairwise_ne.1 hnd) j i (by omega) hi (by omega) e
 have hc:(l.take i).contains l[i]=false:=by
  rw[Bool.eq_false_iff];intro h;exact hnot (List.contains_iff_mem.1 h)
 have hs:∀y,(l.take (i+1)).contains y=((l.take i).contains y||y==l[i]):=fun y=>by
  rw[List.take_succ_eq_append_getElem hi,List.contains_append];congr 1;rw[List.contains_cons,List.contains_nil,Bool.or_false]
 refine⟨?_,fun h0 y=> ?_,fun h0 y=> ?_⟩
 ·unfold dIn;rw[hc];by_cases h:D l[i]=0<;>simp[h]
 ·unfold dIn;rw[hs];by_cases e:y=l[i]
  ·subst e;simp[h0]
  ·have:(y==l[i])=false:=(by simpa using e);rw[if_neg e,this,Bool.or_false]
 ·unfold dIn;rw[hs];by_cases e:y=l[i]
  ·subst e;rw[if_pos h0,if_pos h0]
  ·have:(y==l[i])=false:=(by simpa using e);rw[this,Bool.or_false]
theorem OC{E:aj}{D:Nat→Nat}{l:List Nat}{i:Nat}(hi:i<l.length)(z:Nat):pIn E D (l.take (i+1)) z=(pIn E D (l.take i) z||(decide (D l[i]=0)&&E z l[i])):=by
 unfold pIn;rw[List.take_succ_eq_append_getElem hi,List.any_append];simp
theorem vW{p:Nat→Bool}{n:Nat}:aX p n=0↔∀x,x<n→p x=false:=by
 constructor
 ·intro h x hx;have:=aT p n x;rw[h,Nat.zero_testBit]at this;simpa[hx]using this.symm
 ·intro h;refine Nat.eq_of_testBit_eq fun i=> ?_;rw[aT,Nat.zero_testBit];by_cases hi:i<n
  ·simp[h i hi]
  ·simp[hi]
def eG(n:Nat)(E:aj)(v x:Nat):Nat:=if x<n then bX n E v x else 0
theorem OD{n:Nat}{E:aj}{v k:Nat}(hv:v<n)(h:aX (bS n E v k) n=0)(x:Nat):bC n E v k x=eG n E v x:=by
 rw[vW]at h;unfold bC eG;split
 ·rename_i hx;cases k with
  |zero=>
   have h0:∀y,y<n→cB n E v 0 y=0:=fun y hy=>by
    show(if _ then _ else _)=_;rw[if_neg (by rw[show E y v=false from h y hy];decide)]
   have:=BU (n:=n) (E:=E) (v:=v) (k:=0) (fun a b ha hb e=>by rw[h0 b hb]at e;omega) hx;rw[h0 x hx]at this;exact this
  |succ k=>
   refine BU (fun a b ha hb e=> ?_) hx;have h1:=h a ha;have h1:((List.range n).any fun y=>E a y&&decide (cB n E v k y=k+1))=false:=h1;rw[List.any_eq_false]at h1;have h2:=h1 b (List.mem_range.2 hb);rw[decide_eq_true e,Bool.and_true]at h2;simpa using h2
 ·rfl
theorem OE{n:Nat}{E:aj}{v k:Nat}(h:aX (bS n E v k) n≠0):k≤n:=by
 cases k with
 |zero=>omega
 |succ k=>
  rcases Classical.em (∃z,z<n∧bS n E v (k+1) z=true)with⟨z,_,hz⟩|hno
  ·have hz:((List.range n).any fun y=>E z y&&decide (cB n E v k y=k+1))=true:=hz;rw[List.any_eq_true]at hz;obtain⟨y,hy,h2⟩:=hz;rw[Bool.and_eq_true]at h2;have h3:=of_decide_eq_true h2.2;have:=mF (n:=n) (E:=E) (v:=v) (k:=k) (List.mem_range.1 hy);omega
  ·exact absurd (vW.2 fun x hx=>by
    cases hc:bS n E v (k+1) x with
    |false=>rfl
    |true=>exact absurd ⟨x,hx,hc⟩ hno) h
end Go.Inq
namespace Go.Proofs.YtpjechjoijjhpaaGreatDoor
open Go.RowKit Go.Inq
set_option maxHeartbeats 8000000
attribute [local go_sem↓] Go.wp_at_zero Go.wp_at_succ
theorem yE:(Tryz.prog.info? 113).map (·.size)=some 64:=by kernel_rfl
theorem Fh:#[Value.int .i64 0,.int .i64 0,.int .i64 0,.int .i64 0,.int .i64 0,.int .i64 0,.int .i64 0,.int .i64 0,.int .i64 0,.int .i64 0,.int .i64 0,.int .i64 0,.int .i64 0,.int .i64 0,.int .i64 0,.int .i64 0,.int .i64 0,.int .i64 0,.int .i64 0,.int .i64 0,.int .i64 0,.int .i64 0,.int .i64 0,.int .i64 0,.int .i64 0,.int .i64 0,.int .i64 0,.int .i64 0,.int .i64 0,.int .i64 0,.int .i64 0,.int .i64 0,.int .i64 0,.int .i64 0,.int .i64 0,.int .i64 0,.int .i64 0,.int .i64 0,.int .i64 0,.int .i64 0,.int .i64 0,.int .i64 0,.int .i64 0,.int .i64 0,.int .i64 0,.int .i64 0,.int .i64 0,.int .i64 0,.int .i64 0,.int .i64 0,.int .i64 0,.int .i64 0,.int .i64 0,.int .i64 0,.int .i64 0,.int .i64 0,.int .i64 0,.int .i64 0,.int .i64 0,.int .i64 0,.int .i64 0,.int .i64 0,.int .i64 0,.int .i64 0]=iK (fun _=>0):=by kernel_rfl
set_option maxRecDepth 100000 in
theorem Lu(n:Nat)(A:Option Addr)(c:Nat)(E:aj)(v:Nat)(w:World)(h:GrS w (Old w) n A c (eX E))(hv:v<n)(hTB:jl w):
 Calls Tryz.prog 53 #[.agg #[.int .i64 n,.slice A n c],.int .i64 (v:Int)] w fun e w'=>e= .returned (.agg (iK (eG n E v)))∧Below w.heap.size w w':=by
 have dK:=h.n64;have hv0:(0:Int)≤(v:Int):=Int.natCast_nonneg _;have hv1:(v:Int)<(n:Int):=(by omega);obtain⟨W0,hW0⟩:∃W0,(w.alloc (.cells #[.int .i64 n,.slice A n c] 78)).alloc (.cells (iK (fun _=>0)) 113)=W0:=⟨_,rfl⟩;have hB:=aF hW0;have k0:=Blk.fG hW0;have k1:=Blk.eP hW0;have hs0:=size_two hW0;rw[←Fh]at hW0;have Xy:Hid (∀z,bS n E v 0 z=E z v):=hide (fun z=>rfl);have VL:Hid (iK (fun _=>0)=iK (bC n E v 0)):=hide (mU fun x=>by unfold bC;split<;>rfl);rw[VL.out]at k1;have hend:=hide (fun k=>OD (n:=n) (E:=E) (k:=k) hv);have hfl:=hide (fun k=>OE (n:=n) (E:=E) (v:=v) (k:=k));have hfn:=hide (fun k z=>xu (n:=n) (E:=E) (v:=v) (k:=k) (z:=z));have hda:=hide (fun k x=>JV (n:=n) (E:=E) (v:=v) (k:=k) (x:=x));have hh:Hid (∀W,Below w.heap.size w W→GrS W (Old W) n A c (eX E)):=hide (fun W hb=>h.below hb);have hTb:Hid (∀W,Below w.heap.size w W→jl W):=hide (fun W hb=>hTB.below hb);obtain⟨bb,ob,rfl,-,x0⟩:=(hh.out W0 hB).at_ hv;have c1:=Blk.n1 k0;have ht0:Hid (aX (eX E v) n=aX (bS n E v 0) n):=hide (dS fun i _=>rfl);rw[ht0.out]at x0;replace hs0:=hide hs0;clear h hTB;go_enter Tryz.func53,Tryz.ntmps53;go_upto_region 1 with fail;clear hW0;go_wp2_with fail;clear x0 c1;go_loopw [5,6] (fun s5 s6 wr=>∃k:Nat,s6= .int .i64 ((k:Int)+1)∧s5= .int .u64 (aX (bS n E v k) n:Nat)∧k≤n+1∧Blk wr w.heap.size 78 #[.int .i64 n,.slice (some ⟨bb,ob,none⟩) n c]∧Blk wr (w.heap.size+1) 113 (iK (bC n E v k))∧Below w.heap.size w wr) (fun _ s6 _=>n+3-(intOf s6).toNat);case atStart=>exact⟨0,by go_num,rfl,by omega,k0,k1,hB⟩
 case round=>
  clear k0 k1 hB;obtain⟨Wo,rfl⟩:∃Wo,Wo=wr:=⟨_,rfl⟩;obtain⟨k,rfl,rfl,hk,k0,k1,hb⟩:=hrel;have hk1:(0:Int)≤(k:Int):=Int.natCast_nonneg _;have h64:=hide (fC (p:=bS n E v k) dK);by_cases hz:aX (bS n E v k) n=0
  ·have hzb:(aX (bS n E v k) n !=0)=false:=(by simp[hz]);have hea:=hide (mU (hend.out k hz));rw[hea.out]at k1;have hsz:=hide (mQ (eG n E v));have h1:=hide (Fe (eG n E v));obtain⟨arr,harr⟩:∃arr,iK (eG n E v)=arr:=⟨_,rfl⟩;rw[harr]at k1 hsz h1;replace harr:=hide harr;generalize aX (bS n E v k) n=s at*;clear hea;go_upto_region 14 with fail;refine wp_region_lit ?_;refine zB rfl rfl rfl k1 Tryz.underlying113 (by rw[hsz.out];exact yE) ?_;refine yg rfl rfl rfl rfl k1 (by rw[hsz.out];exact yE) rfl h1.out ?_;rw[Fg k1];go_wp2;refine bodyPost_ret (v:= .agg arr) (Bc Tryz.results53 rfl k1 Tryz.underlying113 (by rw[hsz.out];exact yE)) rfl ⟨by rw[harr.out],hb⟩
  ·have hzb:(aX (bS n E v k) n !=0)=true:=(by simp[hz]);have hkn:=hide (hfl.out k hz);replace hz:=hide hz;have hli:Hid (au (jd (aX (bS n E v k) n))=au ((List.range n).filter (bS n E v k))):=hide (by rw[nu dK]);have Xz:=hide (hfn.out k);have XA:=hide (hda.out k);have hnd:Hid (((List.range n).filter (bS n E v k)).Nodup):=hide (List.Pairwise.filter _ List.nodup_range);have hlt:Hid (∀x∈(List.range n).filter (bS n E v k),x<n):=hide (fun x hx=>List.mem_range.1 (List.mem_filter.1 hx).1);have hLl:((List.range n).filter (bS n E v k)).length≤64:=Nat.le_trans (List.length_filter_le _ _) (by simp;exact dK);have hbl:=hide (nA (aX (bS n E v k) n) h64.out Wo (hTb.out Wo hb));rw[hli.out]at hbl;generalize hLq:(List.range n).filter (bS n E v k)=L at*;replace hLq:=hide hLq;have hln:=hide (aR L);generalize aX (bS n E v k) n=s at*;go_wp2_with fail;refine hbl.out.mono ?_;rintro e w5 ⟨vl,rfl,hO,hb5⟩;obtain⟨Al,cl,rfl⟩:=bA.form hO;have hb6:=hb.trans (hb5.mono hb.size);have hg1:w.heap.size+1<Wo.heap.size:=k1.lt;have hIs:=hide (bA.sl (K:=fun b=>Wo.heap.size≤b∧b<w5.heap.size) hO (fun g h1 h2=>⟨h1,h2⟩));replace k0:=k0.below hb5 k0.lt;replace k1:=k1.below hb5 k1.lt;have hs5:=hb5.size;rw[hln.out]at hIs⊢;have hd0:Hid (iK (bC n E v k)=iK (dIn (bC n E v k) k [])):=hide (mU fun x=>(Qr _ _ x).symm);rw[hd0.out]at k1;have hp0:Hid ((0:Nat)=aX (pIn E (bC n E v k) []) n):=hide (vW.2 fun x _=>rfl).symm;clear hbl hO hb hb5;go_wp2_with fail;go_loopw [7,22] (fun s7 s22 wq=>∃i:Nat,i≤L.length∧s22= .int .i64 i∧s7= .int .u64 (aX (pIn E (bC n E v k) (L.take i)) n:Nat)∧Blk wq w.heap.size 78 #[.int .i64 n,.slice (some ⟨bb,ob,none⟩) n c]∧Blk wq (w.heap.size+1) 113 (iK (dIn (bC n E v k) k (L.take i)))∧Below w.heap.size w wq∧Agree (fun b=>b<w5.heap.size∧b≠w.heap.size+1) w5 wq∧w5.heap.size≤wq.heap.size) (fun _ s22 _=>L.length-(intOf s22).toNat);case atStart=>exact⟨0,Nat.zero_le _,by go_num,by rw[List.take_zero,←hp0.out];rfl,k0,by rw[List.take_zero];exact k1,hb6,Agree.refl _ _,Nat.le_refl _⟩
   case round=>
    clear k0 k1 hb6;obtain⟨Wp,rfl⟩:∃Wp,Wp=wr:=⟨_,rfl⟩;obtain⟨i,hi,rfl,rfl,k0,k1,hb,hag,hsz⟩:=hrel;have hi1:(0:Int)≤(i:Int):=Int.natCast_nonneg _;by_cases hil:i<L.length
    ·have hi2:(i:Int)<(L.length:Int):=(by omega);have hIp:=hIs.out.keep (K':=fun _=>True) (hag.mono fun b hb=>⟨hb.2,by have h1:Wo.heap.size≤b:=hb.1;omega⟩) (fun _ _=>trivial);obtain⟨bl,ol,rfl,-,x0⟩:=hIp.at_ (i:=i) (by rw[hln.out];exact hil);have hxL:(au L)[i]'(by rw[hln.out];exact hil)=(L[i]:Int):=(by simp[au]);rw[hxL]at x0;have hxn:L[i]<n:=hlt.out _ (List.getElem_mem hil);obtain⟨hd1,hd2,hd3⟩:=OB (D:=bC n E v k) (k:=k) hnd.out hil;have hps:=hide (fun z=>OC (E:=E) (D:=bC n E v k) hil z);obtain⟨x,hx⟩:∃x,L[i]=x:=⟨_,rfl⟩;rw[hx]at x0 hxn hd1 hd2 hd3 hps;clear hxL hx;have hx0:(0:Int)≤(x:Int):=Int.natCast_nonneg _;have hx1:(x:Int)<(n:Int):=(by omega);have XB:(x:Int)<64:=(by omega);have Rq:x<64:=(by omega);have e1:=k1.cell x;rw[DF Rq,hd1]at e1;have f1:=k1.frozen x;have c1:=Blk.n1 k0;have r0:=((hh.out Wp hb).cells hxn).2;have Qs:=hide hil;clear hIp;by_cases hD:bC n E v k x=0
     ·have hDb:((bC n E v k x:Int)==0)=true:=(by simp[hD]);have VN:(bC n E v k x==0)=true:=(by simp[hD]);have hset:=hide ((Oz (D:=dIn (bC n E v k) k (L.take i)) (k:=k) Rq).trans (mU (hd2 hD)));have hjn:Hid (joinL [aX (pIn E (bC n E v k) (L.take i)) n,aX (eX E x) n]=aX (pIn E (bC n E v k) (L.take (i+1))) n):=hide (by
       rw[vJ,Dj];refine dS fun z _=> ?_;rw[hps.out,decide_eq_true hD,Bool.true_and];rfl)
      have VO:=hide (fC (p:=pIn E (bC n E v k) (L.take i)) dK);have Uk:=hide (fC (p:=eX E x) dK);have k1':=k1.aH x (.int .i64 ((k:Int)+1));rw[hset.out]at k1';have k0':=k0.far (p:=⟨w.heap.size+1,x,none⟩) (show w.heap.size≠w.heap.size+1 by omega) (.int .i64 ((k:Int)+1));have hb':=hb.setCell (p:=⟨w.heap.size+1,x,none⟩) (Nat.le_succ _) (.int .i64 ((k:Int)+1));have hag':=hag.trans (Agree.setCell ⟨w.heap.size+1,x,none⟩ (fun h=>h.2 rfl) (.int .i64 ((k:Int)+1)) (w:=Wp) (K:=fun b=>b<w5.heap.size∧b≠w.heap.size+1));have hsz':Hid (w5.heap.size≤(Wp.setCell ⟨w.heap.size+1,x,none⟩ (.int .i64 ((k:Int)+1))).heap.size):=hide (by simpa using hsz);have hbz:=hide hb';generalize aX (pIn E (bC n E v k) (L.take i)) n=s1 at*;obtain⟨s2,hs2⟩:∃s2,aX (eX E x) n=s2:=⟨_,rfl⟩;rw[hs2]at hjn Uk r0;have VP:=hide hs2;clear hs2;clear hps hd1 hd2 hd3 hset hD;replace hag':=hide hag';go_upto_region 11 with fail;obtain⟨Wq,hWq⟩:∃Wq,Wp.setCell ⟨w.heap.size+1,x,none⟩ (.int .i64 ((k:Int)+1))=Wq:=⟨_,rfl⟩;rw[hWq]at hb' k0' k1' hag' hsz';rw[hWq];have R8:=hb'.size;have hsq:=hsz'.out;have c1':=Blk.n1 k0';have r0':=((hh.out _ hb').cells hxn).2;have he2:Hid (aX (eX E x) n=s2):=VP;rw[he2.out]at r0';obtain⟨Wz,hWz⟩:∃Wz,Wq.alloc (.cells #[.int .u64 s1,.int .u64 s2] 116)=Wz:=⟨_,rfl⟩;have kN:=hide (jD.bP (l:=[s1,s2]) (K:=fun _=>True) (Blk.newEq hWz) trivial);have kz0:=k0'.av hWz;have kz1:=k1'.av hWz;have VQ:=ah hb' hWz R8;have VR:=hide (hag'.out.trans (Agree.av hWz (fun b hb=>by have h1:b<w5.heap.size:=hb.1;omega)));have hszz:w5.heap.size≤Wz.heap.size:=(by have:=aB hWz;omega);have hxy:Hid (∀y∈[s1,s2],y<18446744073709551616):=hide (by intro y hy;simp at hy;rcases hy with rfl|rfl;exact VO.out;exact Uk.out);have VT:Hid (Wq.heap.size=Wq.heap.size):=hide rfl;clear hWq k0 k1 hb hag hsz e1 f1 c1 r0 x0 hb' k0' k1' hag' hsz' hbz;go_wp2_with fail;refine(gI (some ⟨Wq.heap.size,0,none⟩) 2 2 [s1,s2] (fun _=>True) _ rfl kN.out hxy.out (by omega)).mono ?_;rintro e w7 ⟨rfl,rfl⟩;rw[hjn.out];clear hWz kN;go_wp2;go_roundw;case rel=>exact⟨i+1,Qs.out,by go_num,rfl,kz0,kz1,VQ,VR.out,hszz⟩
      case measure=>have:=Qs.out;simp[intOf];omega
     ·have hDb:((bC n E v k x:Int)==0)=false:=(by rw[beq_eq_false_iff_ne];omega);have VN:(bC n E v k x==0)=false:=(by simp[hD]);have hset:=hide (mU (hd3 hD));have hpn:Hid (aX (pIn E (bC n E v k) (L.take i)) n=aX (pIn E (bC n E v k) (L.take (i+1))) n):=hide (dS fun z _=>by rw[hps.out,decide_eq_false hD];simp);rw[hset.out]at k1;rw[hpn.out];clear hps hd1 hd2 hd3 hset hD;replace hag:=hide hag;go_wp2;go_roundw;case rel=>exact⟨i+1,Qs.out,by go_num,rfl,k0,k1,hb,hag.out,hsz⟩
      case measure=>have:=Qs.out;simp[intOf];omega
    ·obtain rfl:i=L.length:=(by omega);have hen:Hid (aX (pIn E (bC n E v k) (L.take L.length)) n=aX (bS n E v (k+1)) n):=hide (dS fun z _=>by rw[List.take_length,←hLq.out,xu];rfl);have hea:Hid (iK (dIn (bC n E v k) k (L.take L.length))=iK (bC n E v (k+1))):=hide (mU fun x=>by rw[List.take_length,←hLq.out];exact JV);rw[hen.out];rw[hea.out]at k1;have hkn2:=hkn.out;clear hen hea hag hIs;go_wp2;go_roundw;case rel=>exact⟨k+1,by go_num,rfl,by omega,k0,k1,hb⟩
     case measure=>simp[intOf];omega
end Go.Proofs.YtpjechjoijjhpaaGreatDoor
