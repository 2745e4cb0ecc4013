/-
  Walks: layer 8: few transactions.
-/
import Derived.Test.YtfhnamomiaekdaaGreatDoorProg
import Derived.Test.YtfhnamomiaekdaaGreatDoorP05
import Derived.Test.YtfhnamomiaekdaaGreatDoorP02
import Derived.Test.YtfhnamomiaekdaaGreatDoorP11
set_option linter.unusedVariables false
set_option linter.unusedSimpArgs false
namespace Go.Proofs.YtfhnamomiaekdaaGreatDoor
open Go.RowKit Go.Inq
set_option maxHeartbeats 2000000
attribute [local go_sem↓] Go.wp_at_zero Go.wp_at_succ
def sU(N:Nat)(l:List Txn):Bool:=decide (l.length≤N)&&l.all fun t=>decide (t.writes.length≤20)&&decide (t.reads.length≤20)
theorem JW{N:Nat}{l:List Txn}(h:sU N l=true):l.length≤N:=by
 unfold sU at h;rw[Bool.and_eq_true]at h;simpa using h.1
theorem DT{N:Nat}(hN:N≤40){l:List Txn}(h:sU N l=true):aG l:=by
 unfold sU at h;rw[Bool.and_eq_true,List.all_eq_true]at h;have h1:l.length≤N:=(by simpa using h.1);refine⟨by omega,fun t ht=> ?_⟩;have:=h.2 t ht;simp at this;omega
theorem JX{N:Nat}{l:List Txn}{i:Nat}(hi:i<l.length)(h:20<l[i].writes.length∨20<l[i].reads.length):sU N l=false:=by
 rw[←Bool.not_eq_true];intro g;unfold sU at g;rw[Bool.and_eq_true,List.all_eq_true]at g;have:=g.2 _ (List.getElem_mem hi);simp at this;omega
theorem GX{N:Nat}{l:List Txn}(h:N<l.length):sU N l=false:=by
 unfold sU;rw[show decide (l.length≤N)=false by simpa using h];rfl
theorem GY{N:Nat}{l:List Txn}(h:l.length≤N)(hall:∀i (hi:i<l.length),l[i].writes.length≤20∧l[i].reads.length≤20):sU N l=true:=by
 unfold sU;rw[Bool.and_eq_true,List.all_eq_true];refine⟨by simpa using h,fun t ht=> ?_⟩;obtain⟨i,hi,rfl⟩:=List.getElem_of_mem ht;have:=hall i hi;simp;omega
set_option maxRecDepth 100000 in
theorem GZ(N:Nat)(A:Option Addr)(c:Nat)(H:List Txn)(w:World)(h:aA w (Old w) (.slice A H.length c) H)(hn:H.length≤maxLen)(hns:∀t∈H,t.writes.length≤maxLen∧t.reads.length≤maxLen):
 Calls Tryz.prog 33 #[.agg #[.slice A H.length c],.int .i64 (N:Int)] w fun e w'=>e= .returned (.bool (sU N H))∧Below w.heap.size w w':=by
 unfold maxLen at hn hns;have hA:Below w.heap.size w (w.alloc (.cells #[.slice A H.length c] 24)):=(Below.refl _ _).alloc (Nat.le_refl _) _;have kh:Blk (w.alloc (.cells #[.slice A H.length c] 24)) w.heap.size 24 #[.slice A H.length c]:=Blk.new _ _ _;have h1:=aA.below h hA;have y0:=Blk.n0 kh;have hl1:(0:Int)≤(H.length:Int):=Int.natCast_nonneg _;replace hns:=hide hns;by_cases hm:N<H.length
 ·have hr:=hide (GX hm);have hmb:decide ((H.length:Int)>(N:Int))=true:=(by simp;omega);have N8:decide (N<H.length)=true:=(by simp;omega);clear hm;go_enter Tryz.func33,Tryz.ntmps33;go_wp2;go_ret;exact⟨by rw[hr.out];rfl,hA⟩
 ·have hmb:decide ((H.length:Int)>(N:Int))=false:=(by simp;omega);have N8:decide (N<H.length)=false:=(by simp;omega);have hbad:=hide (fun i=>JX (N:=N) (l:=H) (i:=i));have hgood:=hide (GY (N:=N) (l:=H) (by omega));go_enter Tryz.func33,Tryz.ntmps33;go_wp2_with fail;generalize w.alloc (.cells #[.slice A H.length c] 24)=W at*
  go_loop [5] (fun s5=>∃i:Nat,i≤H.length∧s5= .int .i64 i∧Hid (∀j (hj:j<H.length),j<i→H[j].writes.length≤20∧H[j].reads.length≤20)) (fun s5=>H.length-(intOf s5).toNat)
  case atStart=>exact⟨0,Nat.zero_le _,by go_num,fun j hj h=>absurd h (by omega)⟩
  case round=>
   obtain⟨i,hi,rfl,hall⟩:=hrel;have hi1:(0:Int)≤(i:Int):=Int.natCast_nonneg _;by_cases hlt:i<H.length
   ·have hi2:(i:Int)<(H.length:Int):=(by omega);obtain⟨b,off,Aw,cw,Ar,cr,rfl,hbK,d0,d1,d2,hws,hrs⟩:=aA.at_ h1 hlt;have hb:=hide (hbad.out i hlt);have hsm:=hns.out _ (List.getElem_mem hlt);have hst:Hid (H[i].writes.length≤20∧H[i].reads.length≤20→∀j (hj:j<H.length),j<i+1→H[j].writes.length≤20∧H[j].reads.length≤20):=fun g j hj hji=>by
     by_cases e:j=i
     ·subst e;exact g
     ·exact hall.out j hj (by omega)
    clear hall hws hrs;generalize H[i]=t at*;obtain⟨ts,ws,rs⟩:=t;dsimp only at*;by_cases g1:20<ws.length
    ·have g1b:decide ((ws.length:Int)>20)=true:=(by simp;omega);have hr:=hide (hb.out (.inl g1));clear g1 hb hst;go_wp2;go_ret;exact⟨by rw[hr.out];rfl,hA⟩
    ·have g1b:decide ((ws.length:Int)>20)=false:=(by simp;omega);by_cases g2:20<rs.length
     ·have g2b:decide ((rs.length:Int)>20)=true:=(by simp;omega);have hr:=hide (hb.out (.inr g2));clear g2 hb hst;go_wp2;go_ret;exact⟨by rw[hr.out];rfl,hA⟩
     ·have g2b:decide ((rs.length:Int)>20)=false:=(by simp;omega);have hr:=hide (hst.out ⟨by omega,by omega⟩);clear hb hst;go_wp2
      go_round
      case rel=>exact⟨i+1,by omega,by go_num,hr⟩
      case measure=>simp[intOf];omega
   ·have hr:=hide (hgood.out fun j hj=>hall.out j hj (by omega));go_wp2;go_ret;exact⟨by rw[hr.out];rfl,hA⟩
end Go.Proofs.YtfhnamomiaekdaaGreatDoor
namespace Go.Inq
open Go
section
variable{P:Program}{ops:Array Oper}{Q:Exit→Act→World→Prop}{a b a0:Act}
theorem G5 {Inv:(Nat→Bool)→(Nat→Value)→World→Prop} (hB:dQ ops=true)
 (hstep:∀i o,ops[i]?=some o→∀(L:Nat→Bool) (vs:Nat→Value) w,L i=false→(∀j,aU .any ops ops.size i j=true→L j=true)→(∀k,aU .any ops ops.size k i=true→L k=false)→Inv L vs w→wpList P ops (fun e a' w'=>e= .normal∧∃v,a'=(acV ops a0 vs i).put o.dst v∧Inv (fun j=>L j||decide (j=i)) (dx vs i v) w') [o] (acV ops a0 vs i) w)
 (hend:∀(L:Nat→Bool) (vs:Nat→Value) w,(∀j,j<ops.size→L j=true)→Inv L vs w→Q .normal (acV ops a0 vs ops.size) w):
 ∀(fuel:Nat) (listed:Array Bool) (a:Act) (w:World) (vs:Nat→Value),Closed .any ops listed→listed.size=ops.size→lacks ops.size (fun j=>listed.getD j false)=fuel→Flo ops a0 vs (fun j=>listed.getD j false) a→
  Inv (fun j=>listed.getD j false) vs w→wpAny P .any ops Q fuel listed a w:=by
 have hnone:∀(listed:Array Bool),listed.size=ops.size→Region.ready .any ops listed=[]→∀i,i<ops.size→listed.getD i false=true:=by
  intro listed hsz hr i
  induction i using Nat.strongRecOn with
  |_ i ih=>
   intro hi;cases hl:listed.getD i false with
   |true=>rfl
   |false=>
    exfalso;have ho:ops[i]?=some ops[i]:=Array.getElem?_eq_getElem hi;have hm:i∈Region.ready .any ops listed:=by
     rw[mem_ready];refine⟨?_,ops[i],ho,fun e he hb=> ?_⟩
     ·have hi2:i<listed.size:=(by omega);simp only[Array.getD_eq_getD_getElem?,Array.getElem?_eq_getElem hi2,Option.getD_some]at hl⊢;exact hl
     ·have h1:=lC hB ho e he hb;exact ih e.on h1 (by omega)
    rw[hr]at hm;cases hm
 have hfin:∀(listed:Array Bool) (a:Act) (w:World) (vs:Nat→Value),listed.size=ops.size→(∀i,i<ops.size→listed.getD i false=true)→Flo ops a0 vs (fun j=>listed.getD j false) a→Inv (fun j=>listed.getD j false) vs w→Q .normal a w:=by
  intro listed a w vs Pb hall hf hI;have hac:=pY (a0:=a0) hB vs ops.size;have:a=acV ops a0 vs ops.size:=by
   have h1:a.tmps=(acV ops a0 vs ops.size).tmps:=by
    refine Array.ext_getElem? fun t=> ?_;refine hf.agree hac fun j o hj _=> ?_;have hjs:=(Array.getElem?_eq_some_iff.1 hj).1;rw[hall j hjs];simp[hjs]
   have h2:a.defers=(acV ops a0 vs ops.size).defers:=(by rw[hf.defers,hac.defers]);cases a;cases hx:acV ops a0 vs ops.size;rw[hx]at h1 h2;simp only at h1 h2;rw[h1,h2]
  rw[this];exact hend _ vs w hall hI
 intro fuel
 induction fuel with
 |zero=>
  intro listed a w vs hcl hsz hlk hf hI;have hall:=nK _ _ hlk;refine⟨?_,hfin listed a w vs hsz hall hf hI⟩;rw[List.eq_nil_iff_forall_not_mem];intro i hi;obtain⟨h1,o,ho,_⟩:=mem_ready.1 hi;have his:=(Array.getElem?_eq_some_iff.1 ho).1;have h2:=hall i his;have hi2:i<listed.size:=(by omega);simp only[Array.getD_eq_getD_getElem?,Array.getElem?_eq_getElem hi2,Option.getD_some]at h1 h2;rw[h1]at h2;cases h2
 |succ fuel ih=>
  intro listed a w vs hcl hsz hlk hf hI;refine⟨fun hr=>hfin listed a w vs hsz (hnone listed hsz hr) hf hI,fun i hi=> ?_⟩;obtain⟨h1,o,ho,hall⟩:=mem_ready.1 hi;have his:=(Array.getElem?_eq_some_iff.1 ho).1;have hi2:i<listed.size:=(by omega);have hun:listed.getD i false=false:=by
   simp only[Array.getD_eq_getD_getElem?,Array.getElem?_eq_getElem hi2,Option.getD_some]at h1⊢;exact h1
  have hset:∀j,(listed.setIfInBounds i true).getD j false=(listed.getD j false||decide (j=i)):=fun j=>by
   by_cases hji:j=i
   ·subst hji;simp[Array.getD_eq_getD_getElem?,hi2]
   ·rw[getD_set_ne false (Ne.symm hji)];simp[hji]
  have hsel:=fun cs b=>Region.noSelect_spec (ops:=ops) (by unfold dQ at hB;rw[Bool.and_eq_true]at hB;exact hB.1) i o cs b ho;have hac:=pY (a0:=a0) hB vs i;refine Af (b:=acV ops a0 vs i) (R:=fun v w'=>Inv (fun j=>listed.getD j false||decide (j=i)) (dx vs i v) w') ho hsel (fun t ht=> ?_) (by rw[hf.size,hac.size]) (fun v w' hS'=> ?_) (hstep i o ho (fun j=>listed.getD j false) vs w hun (fun j hj=>hcl.ready hj hi) (fun k hk=>by
   cases hlk:listed.getD k false with
   |false=>rfl
   |true=>
    have:=hcl.waits _ _ _ hk hlk;rw[hun]at this;cases this) hI)
  ·refine hf.agree hac fun j oj hj hd=> ?_;rcases(jK hB ho hj hd).2 ht with⟨h2,h3⟩|⟨h2,h3⟩|h2
   ·rw[hcl.ready h3 hi];simp[h2]
   ·have h4:decide (j<i)=false:=(by simp;omega);rw[h4];cases hlj:listed.getD j false with
    |false=>rfl
    |true=>
     have:=hcl.waits _ _ _ h3 hlj;rw[hun]at this;cases this
   ·subst h2;rw[hun];simp
  ·have hf2:Flo ops a0 (dx vs i v) (fun j=>listed.getD j false) a:=hf.congr fun j hj=>by
    unfold dx;rw[if_neg];rintro rfl;rw[hun]at hj;cases hj
   have hput:=hf2.put hB ho hset;have hvi:dx vs i v i=v:=(by simp[dx]);rw[hvi]at hput;refine ih (listed.setIfInBounds i true) _ w' (dx vs i v) (hcl.aK hi) (by rw[Array.size_setIfInBounds];exact hsz) ?_ hput ?_
   ·have:=nM (f:=fun j=>listed.getD j false) (g:=fun j=>(listed.setIfInBounds i true).getD j false) hun hset ops.size his;omega
   ·have:(fun j=>(listed.setIfInBounds i true).getD j false)=fun j=>listed.getD j false||decide (j=i):=funext hset;rw[this];exact hS'
theorem ou {id:Nat} {w:World} {l:List Oper} (Inv:(Nat→Bool)→(Nat→Value)→World→Prop) (dp nd:Nat→List Nat) (hm:P.follows .mixedOrders=true) (hB:dQ l.toArray=true)
 (hdp:((List.range l.length).all fun i=>(dp i).all fun j=>aU .any l.toArray l.length i j)=true) (hnd:((List.range l.length).all fun i=>(nd i).all fun k=>aU .any l.toArray l.length k i)=true)
 (h0:Inv (fun _=>false) (fun _=>undef) w.drew)
 (hstep:∀i o,l[i]?=some o→∀(L:Nat→Bool) (vs:Nat→Value) w,L i=false→(∀j∈dp i,L j=true)→(∀k∈nd i,L k=false)→Inv L vs w→wpList P l.toArray (oL (fun v w'=>Inv (fun j=>L j||decide (j=i)) (dx vs i v) w') (acV l.toArray a vs i) o.dst) [o] (acV l.toArray a vs i) w)
 (hend:∀(L:Nat→Bool) (vs:Nat→Value) w,(∀j,j<l.length→L j=true)→Inv L vs w→Q .normal (acV l.toArray a vs l.length) w):(Code.region id l.toArray true).wp P Q a w:=by
 have hsz:l.toArray.size=l.length:=(by simp);have hget:∀i:Nat,l.toArray[i]?=l[i]?:=fun i=>List.getElem?_toArray ..;refine wp_region_any hm ?_;refine G5 (Inv:=Inv) hB (fun i o ho L vs w h1 h2 h3 hI=> ?_) (fun L vs w h1 h2=>by rw[hsz];exact hend L vs w (by rw[←hsz];exact h1) h2) _ _ a _ (fun _=>undef) (Closed.start _ _ _) (by simp) ?_ (Flo.start fun j=>getD_replicate_false _ _) ?_
 ·have ho':l[i]?=some o:=(by rw[←hget];exact ho);have hil:i<l.length:=(List.getElem?_eq_some_iff.1 ho').1;refine hstep i o ho' L vs w h1 (fun j hj=>h2 j ?_) (fun k hk=>h3 k ?_) hI
  ·rw[hsz];exact List.all_eq_true.1 (List.all_eq_true.1 hdp i (List.mem_range.2 hil)) j hj
  ·rw[hsz];exact List.all_eq_true.1 (List.all_eq_true.1 hnd i (List.mem_range.2 hil)) k hk
 ·have:(fun j=>(Array.replicate l.toArray.size false).getD j false)=fun _=>false:=funext fun j=>getD_replicate_false _ _;rw[this,lD]
 ·have:(fun j=>(Array.replicate l.toArray.size false).getD j false)=fun _=>false:=funext fun j=>getD_replicate_false _ _;rw[this];exact h0
end
end Go.Inq
