/-
  Walks: event.Right, and the references of layers 1 and 3 that tell whether an event may be.
-/
import Derived.Test.YtfhnamomiaekdaaGreatDoorProg
import Derived.Laws.BitsAllLaws
import Derived.Laws.Shifts
import Derived.Lib.TrailingZeros
import Derived.Laws.Bits64b
import Derived.Laws.CopyOwn
import Derived.Lib.OwnBridge
import Derived.Laws.EntriesVeiled
import Derived.Test.YtfhnamomiaekdaaGreatDoorY02
import Derived.Test.YtfhnamomiaekdaaGreatDoorY04
import Derived.Test.YtfhnamomiaekdaaGreatDoorY01
set_option linter.unusedVariables false
set_option linter.unusedSimpArgs false
namespace Go.Proofs.YtfhnamomiaekdaaGreatDoor
open Go.RowKit Go.Inq
set_option maxHeartbeats 400000
end Go.Proofs.YtfhnamomiaekdaaGreatDoor
namespace Go.Proofs.YtfhnamomiaekdaaGreatDoor
open Go.RowKit Go.Inq
set_option maxHeartbeats 1000000
attribute [local go_sem↓] Go.wp_at_zero Go.wp_at_succ
theorem Ke(A A':Option Addr)(c c':Nat)(l l':List Int)(w:World)(h:aI w (Old w) (.slice A l.length c) l)(h':aI w (Old w) (.slice A' l'.length c') l')(hn:l.length≤1000000)(hn':l'.length≤1000000):
 Calls Tryz.prog 64 #[.slice A l.length c,.slice A' l'.length c'] w fun e w'=>e= .returned (.bool (decide (l=l')))∧Below w.heap.size w w':=by
 rcases Nat.decEq l.length l'.length with hlen|hlen;rotate_left
 ·rw[←hlen]at h'⊢;have rW:=hide hlen;clear hn' hlen;go_enter Tryz.func64,Tryz.ntmps64;go_wp2;go_loopw [5] (fun s5 wr=>∃i:Nat,i≤l.length∧s5= .int .i64 i∧Hid (∀j (hj:j<l.length) (hj':j<l'.length),j<i→l[j]=l'[j])∧Below w.heap.size w wr) (fun s5 _=>l.length-(intOf s5).toNat);case atStart=>exact⟨0,Nat.zero_le _,by go_num,fun j _ _ h=>absurd h (by omega),Below.refl _ _⟩
  case round=>
   obtain⟨i,hi,rfl,hall,hb⟩:=hrel;by_cases hlt:i<l.length
   ·have hlt':i<l'.length:=(by have:=rW.out;omega);have hw:=aI.below h hb;have hw':=aI.below h' hb;obtain⟨b,off,rfl,hbK,c0⟩:=aI.at_ hw hlt;obtain⟨b',off',rfl,PO,d0⟩:=aI.at_ hw' hlt';have hi1:(0:Int)≤(i:Int):=Int.natCast_nonneg _;have hi2:(i:Int)<(l.length:Int):=(by omega);by_cases he:l[i]=l'[i]
    ·have hstep:Hid (∀j (hj:j<l.length) (hj':j<l'.length),j<i+1→l[j]=l'[j]):=fun j hj hj' hji=>by
      by_cases hje:j=i
      ·subst hje;exact he
      ·exact hall.out j hj hj' (by omega)
     rw[←he]at d0;clear he;generalize l[i]=x at*;go_wp2;go_quiet (fail);go_wp2;go_roundw;case rel=>exact⟨i+1,by omega,by go_num,hstep,⟨hb.os,hb.tape,hb.output,hb.size,hb.block⟩⟩
     case measure=>simp[intOf];omega
    ·have hf:l≠l':=fun e=>he (by subst e;rfl);replace hf:=hide hf;have hne:(l[i] !=l'[i])=true:=(by simpa using he);clear he;generalize l[i]=x at*;generalize l'[i]=x' at*;go_wp2;go_quiet (fail);go_wp2;go_ret;exact⟨by simp[hf.out],⟨hb.os,hb.tape,hb.output,hb.size,hb.block⟩⟩
   ·have he:l=l':=List.ext_getElem rW.out (fun j h1 h2=>hall.out j h1 h2 (by omega));have:i=l.length:=(by omega);subst this;go_wp2;go_ret;exact⟨by simp[he],hb⟩
 ·have hf:l≠l':=fun e=>hlen (by rw[e]);go_enter Tryz.func64,Tryz.ntmps64;go_wp2;go_ret;exact⟨by simp[hf],Below.refl _ _⟩
def aB(l:List Txn):Prop:=l.length≤1000000∧∀t∈l,t.writes.length≤1000000∧t.reads.length≤1000000
end Go.Proofs.YtfhnamomiaekdaaGreatDoor
namespace Go.Proofs.YtfhnamomiaekdaaGreatDoor
open Go.RowKit Go.Inq Go.Shelf
set_option maxHeartbeats 4000000
attribute [local go_sem] Oper.semAt_some
attribute [local go_sem↓] Go.wp_at_zero Go.wp_at_succ
theorem BO(v:Value)(w:World):Calls Tryz.prog 125 #[.agg #[v]] w fun e w'=>e= .returned (.func (.func 190) #[] #[.pointer (some ⟨w.heap.size,0,none⟩)])∧w'=w.alloc (.cells #[v] 24):=by
 go_enter Tryz.func125,Tryz.ntmps125;go_wp2;go_ret;exact⟨rfl,rfl⟩
theorem yQ(Bh n₀ c:Nat)(A:Option Addr)(H:List Txn)(hn:aB H)(w:World)(hBn:Bh<n₀)(hnW:n₀≤w.heap.size)(hc:w.cell? ⟨Bh,0,none⟩=some (.slice A H.length c))(hT:aF w (fun b=>b<n₀) (.slice A H.length c) H):
 SeqStopsK Fence.wide (3-1) Tryz.prog 190 #[.pointer (some ⟨Bh,0,none⟩)] (fun x:Bool=>#[Value.bool x]) (dO n₀) (fun ys=>ys=fu H) (fun pre=>pre<+:fu H) (fu H).length w:=fun l J Jx W hW hJ _ hY h0=>
 Ee (3-1) (by omega) l Bh n₀ c A H hn.1 hn.2 J Jx W hJ hY ((hW.cell (p:=⟨Bh,0,none⟩) (by show Bh<_;omega)).trans hc) hBn (Nat.le_trans hnW hW.size) (aF.keep hT (Agree.below hW fun b h=>by omega) (fun b h=>h)) h0
set_option maxRecDepth 100000 in
theorem fF(A:Option Addr)(c:Nat)(H:List Txn)(w:World)(h:aF w (Old w) (.slice A H.length c) H)(hn:aB H):
 Calls Tryz.prog 67 #[.agg #[.slice A H.length c]] w fun e w'=>e= .returned (.bool (aC H))∧Below w.heap.size w w':=by
 refine(callsIn_wide (n:=3)).1 ?_;have hro:Fence.wide.round=none:=rfl;refine callsIn_of_wp_marks Tryz.func67 rfl trivial ?_ hro;simp only[Tryz.ntmps67,List.size_toArray,List.length_cons,List.length_nil,Nat.reduceAdd,Nat.reduceSub,Array.replicate_succ,Array.replicate_zero,List.push_toArray,List.append_toArray,List.nil_append,List.cons_append]
 gi_wp2_with fail
 refine⟨trivial,?_⟩;refine(callsIn_wide.2 (BO _ _)).mono ?_;rintro e w1 ⟨rfl,rfl⟩;dsimp only
 gi_wp2
 obtain⟨W0,hW0⟩:∃W0,((w.alloc (.cells #[.slice A H.length c] 24)).alloc (.cells #[.bool false] 4)).alloc (.cells #[.slice A H.length c] 24)=W0:=⟨_,rfl⟩;have hs0:W0.heap.size=w.heap.size+3:=(by rw[←hW0];simp);have hBW:Below w.heap.size w W0:=(by rw[←hW0];exact(((Below.refl _ w).alloc (Nat.le_refl _) _).alloc (by simp) _).alloc (by simp;omega) _);have k1:Blk W0 (w.heap.size+1) 4 #[.bool false]:=by
  rw[←hW0];have:=Blk.new (w.alloc (.cells #[.slice A H.length c] 24)) 4 #[.bool false];simp only[World.size_alloc]at this;exact this.alloc _
 have k2:Blk W0 (w.heap.size+2) 24 #[.slice A H.length c]:=by
  rw[←hW0];have:=Blk.new ((w.alloc (.cells #[.slice A H.length c] 24)).alloc (.cells #[.bool false] 4)) 24 #[.slice A H.length c];simp only[World.size_alloc]at this;exact this
 simp only[World.size_alloc];rw[hW0];have h2:aF W0 (fun b=>b<w.heap.size) (.slice A H.length c) H:=aF.keep h (Agree.below hBW fun b h=>h) (fun b h=>h);have c2:=Blk.n0 k2;have c1:=Blk.n0 k1;have f1:=k1.frozen 0;clear hW0;refine wpIn_rangeFunc_ownF hro (by omega) (gf:=190) (lb:=#[.pointer (some ⟨w.heap.size+2,0,none⟩)]) rfl trivial (enters_of Tryz.func190 (by kernel_rfl) rfl)
  (yQ (w.heap.size+2) (w.heap.size+3) c A H hn W0 (by omega) (by omega) c2 (aF.fit h2 (fun b h=>by omega))) dO.t (dO.b (by omega)) (Below.refl _ _) (fun _=>rfl)
  (fun pre W=>((pre.all id=true)∧W.cell? ⟨w.heap.size+1,0,none⟩=some (.bool false)∧W.frozen? ⟨w.heap.size+1,0,none⟩=false)∧Below w.heap.size w W)
  (fun cc pre W=>(cc= .ret∧false∈pre∧W.cell? ⟨w.heap.size+1,0,none⟩=some (.bool false))∧Below w.heap.size w W)
  (OwnFrom.and (Own.from (fun s A B row hs hg hr=>⟨hs.1,cell_kept hs.2.1 hg hr,(frozen_kept hs.2.1 hg hr).trans hs.2.2⟩) _) (ownFrom_below (Nat.le_refl _) (by omega)))
  (fun cc=>OwnFrom.and (Own.from (fun s A B row hs hg hr=>⟨hs.1,hs.2.1,cell_kept hs.2.2 hg hr⟩) _) (ownFrom_below (Nat.le_refl _) (by omega)))
  ⟨⟨rfl,c1,f1⟩,hBW⟩
  (fun x=>{tmps:=#[.agg #[.slice A H.length c],.pointer (some ⟨w.heap.size,0,none⟩),.pointer (some ⟨w.heap.size+1,0,none⟩),.bool x,.agg #[.slice A H.length c],.func (.func 190) #[] #[.pointer (some ⟨w.heap.size+2,0,none⟩)],.bool x,undef,undef],defers:=[]}) ?assign ?body ?done ?stop
 case assign=>
  intro l x W K hK
  gi_wp2
  exact hK
 case body=>
  rintro l pre x W ⟨⟨hp,hcr,hfr⟩,hB⟩ _;cases x with
  |false=>
   gi_wp2
   exact⟨KeepsOthers.setCell _ _ _,⟨rfl,by simp,World.cell?_setCell_same' _ _ _ (by rw[hcr];rfl)⟩,hB.setCell (p:=⟨w.heap.size+1,0,none⟩) (by simp) _⟩
  |true=>
   gi_wp2
   exact⟨KeepsOthers.refl _,dO.refl _ _,⟨by rw[List.all_append,hp];rfl,hcr,hfr⟩,hB⟩
 case done=>
  rintro D xs W hD rfl ⟨⟨hall,hcr,hfr⟩,hB⟩ hK;have hall:=hide hall
  gi_wp2
  have hK':=(KeepsOthers.setCell W ⟨w.heap.size+1,0,none⟩ (.bool true)).same D _ hK rfl;refine⟨by simp,.inl ⟨_,_,rfl,run_takeDeferred hK',?_⟩⟩;have hc5:=cell_kept (World.cell?_setCell_same' W ⟨w.heap.size+1,0,none⟩ (.bool true) (by rw[hcr];rfl)) (grownBy_putObj' _ D (.deferred none)) (fun r e=>by cases e;exact⟨_,hK',rfl⟩);refine⟨.bool true,?_,by unfold aC;rw[hall.out],(hB.setCell (p:=⟨w.heap.size+1,0,none⟩) (by simp) _).trans (belowK_b (w:=w) (Nat.le_refl _) _ D _ _ (by omega) hK' rfl rfl)⟩;simp[results,Tryz.f67,go_sem,hc5]
 case stop=>
  rintro D cc pre W hD hpre ⟨⟨rfl,hin,hcr⟩,hB⟩ hK;have hf:=hide (pI hpre hin)
  gi_wp2
  refine⟨by simp,.inl ⟨_,_,rfl,run_takeDeferred hK,?_⟩⟩;have hc5:=cell_kept hcr (grownBy_putObj' _ D (.deferred none)) (fun r e=>by cases e;exact⟨_,hK,rfl⟩);refine⟨.bool false,?_,by unfold aC;rw[hf.out],hB.trans (belowK_b (w:=w) (Nat.le_refl _) W D _ _ (by omega) hK rfl rfl)⟩;simp[results,Tryz.f67,go_sem,hc5]
end Go.Proofs.YtfhnamomiaekdaaGreatDoor
namespace Go.Inq
def p8(i:Int):Nat:=if 0≤i∧i<64 then 2^i.toNat else 0
theorem AQ{i:Int}(h0:0≤i)(h:i<64):p8 i=2^i.toNat:=by unfold p8;rw[if_pos ⟨h0,h⟩]
theorem Kg{i:Int}(h:i<0):p8 i=0:=by unfold p8;rw[if_neg (by omega)]
theorem Hf{i:Int}(h:64≤i):p8 i=0:=by unfold p8;rw[if_neg (by omega)]
theorem wo(i:Int):p8 i<18446744073709551616:=by
 unfold p8;split
 ·rename_i h;exact Nat.lt_of_lt_of_le (Nat.pow_lt_pow_right (by decide) (show i.toNat<64 by omega)) (by decide)
 ·decide
def hasB(s:Nat)(i:Int):Bool:=decide (0≤i)&&s.testBit i.toNat
theorem om(s i:Nat):hasB s (i:Int)=s.testBit i:=by unfold hasB;simp
theorem Kh{s:Nat}(hs:s<18446744073709551616)(i:Int):decide (s&&&p8 i=0)= !hasB s i:=by
 unfold hasB p8;by_cases h0:0≤i
 ·by_cases h:i<64
  ·rw[if_pos ⟨h0,h⟩,Bool.eq_iff_iff,decide_eq_true_iff,and_one];simp[h0]
  ·rw[if_neg (by omega)];have:s.testBit i.toNat=false:=Nat.testBit_lt_two_pow (Nat.lt_of_lt_of_le (show s<2^64 from hs) (Nat.pow_le_pow_right (by decide) (by omega)));simp[this]
 ·rw[if_neg (by omega)];simp[h0]
def eU(s:Nat)(i:Int):Nat:=s|||p8 i
theorem Ki{s:Nat}(hs:s<18446744073709551616)(i:Int):eU s i<18446744073709551616:=Nat.or_lt_two_pow (n:=64) hs (wo i)
theorem zk(s:Nat){i:Nat}(hi:i<64)(j:Nat):(eU s (i:Int)).testBit j=(s.testBit j||decide (i=j)):=by
 unfold eU;rw[AQ (by omega) (by omega),Int.toNat_natCast];exact Oc s i j
def joinL(l:List Nat):Nat:=l.foldl (·|||·) 0
theorem AU(l:List Nat):∀(a i:Nat),(l.foldl (·|||·) a).testBit i=(a.testBit i||l.any fun x=>x.testBit i):=by
 induction l with
 |nil=>intro a i;simp
 |cons x r ih=>intro a i;rw[List.foldl_cons,ih,Nat.testBit_or,List.any_cons,Bool.or_assoc]
theorem Hg(l:List Nat)(i:Nat):(joinL l).testBit i=l.any fun x=>x.testBit i:=by
 unfold joinL;rw[AU];simp
theorem wT{l:List Nat}{n:Nat}(h:∀x∈l,x<2^n):joinL l<2^n:=by
 refine Nat.lt_pow_two_of_testBit _ (fun i hi=> ?_);rw[Hg,List.any_eq_false];intro x hx;rw[Nat.testBit_lt_two_pow (Nat.lt_of_lt_of_le (h x hx) (Nat.pow_le_pow_right (by decide) hi))];simp
theorem Ef{l:List Nat}{k:Nat}(h:k<l.length):joinL (l.take (k+1))=joinL (l.take k)|||l[k]:=by
 unfold joinL;rw[List.take_succ_eq_append_getElem h,List.foldl_append];rfl
def Hl(a b:Nat):Bool:=decide (a&&&(18446744073709551615-b)=0)
theorem BP{a b:Nat}(ha:a<18446744073709551616)(hb:b<18446744073709551616):Hl a b=true↔∀i,a.testBit i=true→b.testBit i=true:=by
 unfold Hl;rw[decide_eq_true_iff];have hc:∀i,(18446744073709551615-b).testBit i=(decide (i<64)&& !b.testBit i):=by
  intro i;have:=Nat.testBit_two_pow_sub_succ (n:=64) (x:=b) hb i;rw[show 2^64-(b+1)=18446744073709551615-b by omega]at this;exact this
 constructor
 ·intro h i hi;have QO:i<64:=by
   rcases Nat.lt_or_ge i 64 with h|h
   ·exact h
   ·rw[Nat.testBit_lt_two_pow (Nat.lt_of_lt_of_le (show a<2^64 from ha) (Nat.pow_le_pow_right (by decide) h))]at hi;cases hi
  have:=congrArg (fun y=>y.testBit i) h;simp only[Nat.testBit_and,hc,hi,decide_eq_true QO,Nat.zero_testBit,Bool.true_and]at this;simpa using this
 ·intro h;refine Nat.eq_of_testBit_eq (fun i=> ?_);rw[Nat.testBit_and,hc,Nat.zero_testBit];by_cases hi:a.testBit i=true
  ·rw[h i hi];simp
  ·simp[hi]
theorem iA{n:Nat}(h:n≤64):2^n≤18446744073709551616:=Nat.le_trans (Nat.pow_le_pow_right (by decide) h) (by decide)
theorem Ho{l:List Nat}{n:Nat}(hn:n≤64)(h:∀x∈l,x<2^n):Hl (joinL l) (2^n-1)=true:=by
 have hp:=iA hn;have hj:=wT h;rw[BP (by omega) (by have:=Nat.two_pow_pos n;omega)];intro i hi;rw[Nat.testBit_two_pow_sub_one];refine decide_eq_true ?_;rcases Nat.lt_or_ge i n with h|h
 ·exact h
 ·rw[Nat.testBit_lt_two_pow (Nat.lt_of_lt_of_le hj (Nat.pow_le_pow_right (by decide) h))]at hi;cases hi
theorem mI{p:Nat→Bool}{n:Nat}(hn:n≤64):iP (aV p n)=(List.range n).filter p:=by
 unfold iP;obtain⟨m,hm⟩:=Nat.le.dest hn;rw[←hm,List.range_add,List.filter_append];have h1:(List.range n).filter (fun i=>(aV p n).testBit i)=(List.range n).filter p:=List.filter_congr fun i hi=>by
  have:i<n:=(by simpa using hi);rw[aP];simp[this]
 have h2:((List.range m).map (n+·)).filter (fun i=>(aV p n).testBit i)=[]:=by
  rw[List.filter_eq_nil_iff];intro i hi;obtain⟨k,_,rfl⟩:=List.mem_map.1 hi;rw[aP];simp;intro h;omega
 rw[h1,h2,List.append_nil]
def gK(a b:Nat):aj:=fun x y=>decide (x=a)&&decide (y=b)
def noE:aj:=fun _ _=>false
theorem wW(n:Nat):dI n noE=List.replicate n 0:=by
 refine List.ext_getElem (by simp[aQ]) fun a h1 h2=> ?_;have ha:a<n:=(by rw[aQ]at h1;exact h1);rw[fT ha,List.getElem_replicate];refine Nat.eq_of_testBit_eq (fun i=> ?_);rw[aP];simp[noE]
theorem ug{p:Nat→Bool}{n b:Nat}(hb:b<n)(hn:n≤64):eU (aV p n) (b:Int)=aV (fun y=>p y||decide (y=b)) n:=by
 refine AJ ?_ (fun i hi=> ?_)
 ·refine Nat.lt_pow_two_of_testBit _ (fun i hi=> ?_);rw[zk _ (by omega),aP];simp;omega
 ·rw[zk _ (by omega),aP];have:decide (b=i)=decide (i=b):=(by simp[eq_comm]);simp[hi,this]
theorem Hq{n:Nat}{E:aj}{a b:Nat}(ha:a<n)(hb:b<n)(hn:n≤64):(dI n E).set a (eU ((dI n E)[a]'(by rw[aQ];exact ha)) (b:Int))=dI n (orE E (gK a b)):=by
 generalize e2:(dI n E)[a]'(by rw[aQ];exact ha)=v;rw[fT ha]at e2;subst e2;refine List.ext_getElem (by simp[aQ]) fun x h1 h2=> ?_;have hx:x<n:=(by rw[aQ]at h2;exact h2);have e1:(dI n (orE E (gK a b)))[x]'h2=aV (orE E (gK a b) x) n:=fT hx;have e3:(dI n E)[x]'(by rw[aQ];exact hx)=aV (E x) n:=fT hx;rw[List.getElem_set,e1];split
 ·rename_i e;subst e;rw[ug hb hn];exact dN fun y hy=>by simp[orE,gK]
 ·rename_i e;rw[e3];exact dN fun y hy=>by
   have:decide (x=a)=false:=(by simp;omega);simp[orE,gK,this]
theorem uh(a b:Nat):joinL [a,b]=a|||b:=by unfold joinL;simp
theorem AV{p q:Nat→Bool}{n:Nat}:aV p n|||aV q n=aV (fun y=>p y||q y) n:=by
 refine AJ (Nat.or_lt_two_pow (j5 _ _) (j5 _ _)) (fun i hi=> ?_);rw[Nat.testBit_or,aP,aP];simp[hi]
def oq(n:Nat)(E:aj):List (Nat×Nat):=((List.range n).map fun a=>((List.range n).filter (E a)).map fun b=>(a,b)).flatten
theorem wY{n:Nat}{E:aj}{a b:Nat}:(a,b)∈oq n E↔a<n∧b<n∧E a b=true:=by
 unfold oq;rw[List.mem_flatten];constructor
 ·rintro⟨l,hl,h⟩;obtain⟨x,hx,rfl⟩:=List.mem_map.1 hl;obtain⟨y,hy,e⟩:=List.mem_map.1 h;injection e with e1 e2
  subst e1 e2;rw[List.mem_filter]at hy;exact⟨by simpa using hx,by simpa using hy.1,hy.2⟩
 ·rintro⟨ha,hb,he⟩;exact⟨_,List.mem_map.2 ⟨a,by simpa using ha,rfl⟩,List.mem_map.2 ⟨b,List.mem_filter.2 ⟨by simpa using hb,he⟩,rfl⟩⟩
def ofL(l:List (Nat×Nat)):aj:=fun a b=>l.contains (a,b)
theorem Kj(l:List (Nat×Nat))(a b:Nat):ofL (l++[(a,b)])=orE (ofL l) (gK a b):=by
 funext x y;unfold ofL orE gK;rw[Bool.eq_iff_iff];simp
end Go.Inq
namespace Go.Inq
open Go Go.RowKit
def vG(n:Nat):List Value:=[.int .u64 n]
def iZ(w:World)(K:Nat→Prop)(v:Value)(l:List Nat):Prop:=SlR 1 (Flat vG) w K v l
section
variable{w w':World}{K K':Nat→Prop}{v:Value}{l:List Nat}
theorem iZ.keep(h:iZ w K v l)(ha:Agree K w w')(hk:∀b,K b→K' b):iZ w' K' v l:=SlR.keep (Flat.bE _) h ha hk
theorem iZ.below(h:iZ w (Old w) v l)(hb:Below w.heap.size w w'):iZ w' (Old w') v l:=SlR.below (Flat.bE _) h hb
theorem iZ.fit(h:iZ w K v l)(hk:∀b,K b→K' b):iZ w K' v l:=SlR.fit (Flat.bE _) h hk
theorem iZ.at_{A:Option Addr}{n c:Nat}(h:iZ w K (.slice A n c) l){i:Nat}(hi:i<l.length):∃b off,A=some ⟨b,off,none⟩∧K b∧w.cell? ⟨b,off+i,none⟩=some (.int .u64 (l[i]:Nat)):=by
 obtain⟨b,off,cs,hA,hK,_,hR,hc⟩:=SlR.at_ h hi;unfold Flat at hR;subst hR;have:=hc 0 _ rfl;rw[Nat.mul_one,Nat.add_zero]at this;exact⟨b,off,hA,hK,this⟩
theorem iZ.cells{b off n c:Nat}(h:iZ w K (.slice (some ⟨b,off,none⟩) n c) l){i:Nat}(hi:i<l.length):K b∧w.cell? ⟨b,off+i,none⟩=some (.int .u64 (l[i]:Nat)):=by
 obtain⟨cs,hK,_,hR,hc⟩:=SlR.cells h hi;unfold Flat at hR;subst hR;have:=hc 0 _ rfl;rw[Nat.mul_one,Nat.add_zero]at this;exact⟨hK,this⟩
theorem iZ.nil(w:World)(K:Nat→Prop)(A:Option Addr)(c:Nat):iZ w K (.slice A 0 c) []:=SlR.nil _ _ _ _ _ _
theorem iZ.bB{g:Nat}{t:TypeId}(h:Blk w g t (l.map fun x:Nat=>Value.int .u64 x).toArray)(hK:K g):iZ w K (.slice (some ⟨g,0,none⟩) l.length l.length) l:=by
 refine⟨some ⟨g,0,none⟩,l.length,l.map vG,rfl,Nat.le_refl _,by simp,fun i cs x h1 h2=> ?_,fun _=>⟨g,0,rfl,hK,fun i j cs u h1 h2=> ?_⟩⟩
 ·rw[List.getElem?_map,h2]at h1;injection h1 with h1
  exact⟨by rw[←h1];rfl,h1.symm⟩
 ·rw[List.getElem?_map]at h1;cases hl:l[i]? with
  |none=>rw[hl]at h1;cases h1
  |some x=>
   rw[hl]at h1;injection h1 with h1
   subst h1;cases j with
   |zero=>
    injection h2 with h2
    rw[Nat.zero_add,Nat.mul_one,Nat.add_zero,h.cell,gA,List.getElem?_map,hl,←h2];rfl
   |succ j=>simp[vG]at h2
end
structure GrS(w:World)(K:Nat→Prop)(n:Nat)(A:Option Addr)(c:Nat)(E:aj):Prop where
 sl:iZ w K (.slice A n c) (dI n E)
 n64:n≤64
def bH(n:Nat)(E:aj):Array Value:=((dI n E).map fun x:Nat=>Value.int .u64 x).toArray
theorem ou{n:Nat}{E:aj}{a:Nat}(h:a<n):(bH n E)[a]?=some (.int .u64 (aV (E a) n:Nat)):=by
 unfold bH;rw[gA,List.getElem?_map,List.getElem?_eq_getElem (by rw[aQ];exact h),fT h];rfl
theorem zl{n:Nat}{E:aj}{a b:Nat}(ha:a<n)(hb:b<n)(hn:n≤64):(bH n E).setIfInBounds a (.int .u64 (eU (aV (E a) n) (b:Int):Nat))=bH n (orE E (gK a b)):=by
 unfold bH;rw[←Hq ha hb hn,sA,List.map_set,fT ha]
theorem zm{n:Nat}{E:aj}{a x:Nat}{p:Nat→Bool}(ha:a<n)(hx:x=aV p n):(bH n E).setIfInBounds a (.int .u64 (x:Nat))=bH n (fun i=>if i=a then p else E i):=by
 unfold bH;rw[sA];congr 1;refine List.ext_getElem (by simp[aQ]) fun i h1 h2=> ?_;have hi:i<n:=(by simpa[aQ]using h2);rw[List.getElem_set,List.getElem_map,List.getElem_map,fT hi,fT hi];by_cases e:a=i
 ·subst e;rw[if_pos rfl,if_pos rfl,hx]
 ·rw[if_neg e,if_neg (fun h=>e h.symm)]
theorem Kk(n:Nat):bH n noE=madeCells #[.int .u64 0] n:=by
 unfold bH;rw[wW];refine Array.ext (by simp[size_madeCells]) fun i h1 h2=> ?_;simp[madeCells,Nat.mod_one]
theorem dJ{n:Nat}{E F:aj}(h:∀a b,a<n→b<n→E a b=F a b):bH n E=bH n F:=by unfold bH;rw[uM h]
section
variable{w w':World}{K K':Nat→Prop}{n c:Nat}{A:Option Addr}{E F:aj}
theorem GrS.keep(h:GrS w K n A c E)(ha:Agree K w w')(hk:∀b,K b→K' b):GrS w' K' n A c E:=⟨h.sl.keep ha hk,h.n64⟩
theorem GrS.below(h:GrS w (Old w) n A c E)(hb:Below w.heap.size w w'):GrS w' (Old w') n A c E:=⟨h.sl.below hb,h.n64⟩
theorem GrS.fit(h:GrS w K n A c E)(hk:∀b,K b→K' b):GrS w K' n A c E:=⟨h.sl.fit hk,h.n64⟩
theorem GrS.at_(h:GrS w K n A c E){i:Nat}(hi:i<n):∃b off,A=some ⟨b,off,none⟩∧K b∧w.cell? ⟨b,off+i,none⟩=some (.int .u64 (aV (E i) n:Nat)):=by
 obtain⟨b,off,hA,hK,hc⟩:=h.sl.at_ (i:=i) (by rw[aQ];exact hi);rw[fT hi]at hc;exact⟨b,off,hA,hK,hc⟩
theorem GrS.cells{b off:Nat}(h:GrS w K n (some ⟨b,off,none⟩) c E){i:Nat}(hi:i<n):K b∧w.cell? ⟨b,off+i,none⟩=some (.int .u64 (aV (E i) n:Nat)):=by
 obtain⟨b',off',hA,hK,hc⟩:=h.at_ hi;injection hA with hA;injection hA with h1 h2;subst h1 h2
 exact⟨hK,hc⟩
theorem GrS.bB{g:Nat}{t:TypeId}(h:Blk w g t (bH n E))(hK:K g)(hn:n≤64):GrS w K n (some ⟨g,0,none⟩) n E:=by
 have:=iZ.bB (l:=dI n E) h hK;rw[aQ]at this;exact⟨this,hn⟩
theorem GrS.congr(h:GrS w K n A c E)(hE:∀a b,a<n→b<n→E a b=F a b):GrS w K n A c F:=⟨by rw[←uM hE];exact h.sl,h.n64⟩
theorem GrS.zero(w:World)(K:Nat→Prop)(A:Option Addr)(c:Nat)(E:aj):GrS w K 0 A c E:=⟨by simpa[dI]using iZ.nil w K A c,by omega⟩
end
theorem fA{p:Nat→Bool}{n:Nat}(h:n≤64):aV p n<18446744073709551616:=Nat.lt_of_lt_of_le (j5 p n) (iA h)
def Kl(t:TypeId)(w:World)(n:Nat)(E:aj)(e:Ending)(w':World):Prop:=
 ∃g,w.heap.size≤g∧e= .returned (.tuple #[.agg #[.int .i64 n,.slice (some ⟨g,0,none⟩) n n],.int .i64 0])∧Blk w' g t (bH n E)∧Below w.heap.size w w'
theorem Kl.congr{t:TypeId}{w w':World}{n:Nat}{E F:aj}{e:Ending}(h:Kl t w n E e w')(hE:∀a b,a<n→b<n→E a b=F a b):Kl t w n F e w':=by
 unfold Kl at h⊢;rw[←dJ hE];exact h
end Go.Inq
namespace Go.Proofs.YtfhnamomiaekdaaGreatDoor
open Go.RowKit Go.Inq
set_option maxHeartbeats 1000000
attribute [local go_sem↓] Go.wp_at_zero Go.wp_at_succ
theorem Gl(i:Int)(w:World):Calls Tryz.prog 173 #[.int .i64 i] w fun e w'=>e= .returned (.int .u64 (p8 i:Nat))∧w=w':=by
 by_cases h0:i<0
 ·have hr:=hide (Kg h0);have h0b:decide (i<0)=true:=(by simpa using h0);clear h0;go_enter Tryz.func173,Tryz.ntmps173;go_wp2;go_ret;exact⟨by rw[hr.out];rfl,rfl⟩
 ·by_cases h1:64≤i
  ·have hr:=hide (Hf h1);have h0b:decide (i<0)=false:=(by simpa using h0);have h1b:decide (i≥64)=true:=(by simpa using h1);clear h0 h1;go_enter Tryz.func173,Tryz.ntmps173;go_wp2;go_ret;exact⟨by rw[hr.out];rfl,rfl⟩
  ·have hr:=hide (AQ (i:=i) (by omega) (by omega));have hlt:=hide (wo i);have h0b:decide (i<0)=false:=(by simpa using h0);have h1b:decide (i≥64)=false:=(by simpa using h1);have h2:0≤i:=(by omega);have h3:i≤64:=(by omega);clear h0 h1;go_enter Tryz.func173,Tryz.ntmps173;go_wp2;go_ret;refine⟨dP ?_,rfl⟩;have e1:=hr.out;have e2:=hlt.out;rw[e1]at e2;have e3:min i.toNat IntKind.u64.bits=i.toNat:=(by simp[IntKind.bits];omega);try rw[e3]
   rw[IntKind.wrap_u64,e1];have e4:((2:Int)^i.toNat)=((2^i.toNat:Nat):Int):=(by simp);omega
theorem Hr(s:Nat)(hs:s<18446744073709551616)(i:Int)(w:World):Calls Tryz.prog 102 #[.int .u64 s,.int .i64 i] w fun e w'=>e= .returned (.bool (Go.Inq.hasB s i))∧w=w':=by
 have h1:=u64_and_nat s (p8 i) hs (wo i);have hr:=hide (Kh hs i);go_enter Tryz.func102,Tryz.ntmps102;go_wp2_with fail;refine(Gl i _).mono ?_;rintro e w1 ⟨rfl,rfl⟩;go_wp2;go_ret;refine⟨bP ?_,rfl⟩;have:=hr.out;rw[←Bool.not_not (Go.Inq.hasB s i),←this,Bool.eq_iff_iff];simp
theorem qL(s:Nat)(hs:s<18446744073709551616)(i:Int)(w:World):Calls Tryz.prog 134 #[.int .u64 s,.int .i64 i] w fun e w'=>e= .returned (.int .u64 (eU s i:Nat))∧w=w':=by
 have h1:=u64_or_nat s (p8 i) hs (wo i);go_enter Tryz.func134,Tryz.ntmps134;go_wp2_with fail;refine(Gl i _).mono ?_;rintro e w1 ⟨rfl,rfl⟩;go_wp2;go_ret;exact⟨rfl,rfl⟩
theorem zn(a b:Nat)(ha:a<18446744073709551616)(hb:b<18446744073709551616)(w:World):Calls Tryz.prog 133 #[.int .u64 a,.int .u64 b] w fun e w'=>e= .returned (.bool (Hl a b))∧w=w':=by
 have h1:=u64_andNot_nat a b ha hb;go_enter Tryz.func133,Tryz.ntmps133;go_wp2;go_ret;refine⟨bP ?_,rfl⟩;unfold Hl;rw[Bool.eq_iff_iff];simp
theorem fV(A:Option Addr)(n c:Nat)(l:List Nat)(K:Nat→Prop)(w:World)(hn:l.length=n)(h:iZ w K (.slice A n c) l)(h64:∀x∈l,x<18446744073709551616)(hm:n≤1000000):
 Calls Tryz.prog 171 #[.slice A n c] w fun e w'=>e= .returned (.int .u64 (joinL l:Nat))∧w=w':=by
 replace hn:=hide hn;have hj:∀k,joinL (l.take k)<18446744073709551616:=fun k=>wT (n:=64) fun x hx=>h64 x (List.mem_of_mem_take hx);replace hj:=hide hj;replace h64:=hide h64;go_enter Tryz.func171,Tryz.ntmps171;go_wp2_with fail
 go_loop [3,8] (fun s3 s8=>∃k:Nat,k≤n∧s8= .int .i64 k∧s3= .int .u64 (joinL (l.take k):Nat)) (fun _ s8=>n-(intOf s8).toNat)
 case atStart=>exact⟨0,Nat.zero_le _,by go_num,rfl⟩
 case round=>
  obtain⟨k,hk,rfl,rfl⟩:=hrel;by_cases hlt:k<n
  ·have hi1:(0:Int)≤(k:Int):=Int.natCast_nonneg _;have hi2:(k:Int)<(n:Int):=(by omega);have hkl:k<l.length:=(by rw[hn.out];exact hlt);obtain⟨b,off,rfl,hbK,hc⟩:=iZ.at_ h hkl;have hor:=u64_or_nat (joinL (l.take k)) l[k] (hj.out k) (h64.out _ (List.getElem_mem hkl));have hst:=hide (Ef hkl);generalize l[k]=x at*;generalize joinL (l.take k)=y at*;clear hkl;go_wp2
   go_round
   case rel=>exact⟨k+1,by omega,by go_num,by rw[hst.out]⟩
   case measure=>simp[intOf];omega
  ·obtain rfl:k=n:=(by omega);have ht:l.take k=l:=List.take_of_length_le (by rw[hn.out];exact Nat.le_refl _);rw[ht];clear ht;go_wp2;go_ret;exact⟨rfl,rfl⟩
theorem BQ(n:Nat)(hn:n≤64)(w:World):Calls Tryz.prog 172 #[.int .i64 n] w fun e w'=>e= .returned (.int .u64 (2^n-1:Nat))∧w=w':=by
 have h2:(0:Int)≤(n:Int):=Int.natCast_nonneg _;have h3:(n:Int)≤64:=(by omega);have hp:=hide (iA hn);have hp2:=hide (Nat.two_pow_pos n);go_enter Tryz.func172,Tryz.ntmps172;go_wp2;go_ret;refine⟨dP ?_,rfl⟩;have e1:=hp.out;have e2:=hp2.out;have e3:min n IntKind.u64.bits=n:=(by simp[IntKind.bits];omega);have e4:((2:Int)^n)=((2^n:Nat):Int):=(by simp);simp only[Int.toNat_natCast,IntKind.wrap_u64]at*;try rw[e3]
 rw[e4];generalize 2^n=x at*;omega
def iE(w:World):Prop:=∀j,j<Lib.deBruijn64tab.length→w.cell? ⟨0,j,none⟩=some (.int .u8 (Lib.deBruijn64tab.getD j 0))
theorem iE.lt{w:World}(h:iE w):0<w.heap.size:=by
 have:=h 0 (by decide);rcases Nat.lt_or_ge 0 w.heap.size with g|g
 ·exact g
 ·unfold World.cell? at this;simp[Array.getElem?_eq_none g]at this
theorem iE.below{w w':World}(h:iE w)(hb:Below w.heap.size w w'):iE w':=fun j hj=>(hb.cell (p:=⟨0,j,none⟩) h.lt).trans (h j hj)
theorem iE.drewN{w:World}(h:iE w)(n:Nat):iE (w.drewN n):=h
theorem Oh(x a:Nat)(hx:x<18446744073709551616)(hx0:x≠0)(hlow:x&&&(18446744073709551616-x)=a):
 IntKind.u64.wrap (bits BinOp.and IntKind.u64 (x:Int) (IntKind.u64.wrap (-(x:Int)))*285870213051353865)/288230376151711744=((a*285870213051353865%18446744073709551616/288230376151711744:Nat):Int):=by
 have e1:IntKind.u64.wrap (-(x:Int))=((18446744073709551616-x:Nat):Int):=(by rw[IntKind.wrap_u64];omega);rw[e1,u64_and_nat x _ hx (by omega),hlow,IntKind.wrap_u64];omega
theorem MK (x k idx:Nat) (w:World) (hx0:((x:Int)==0)=false)
 (key:IntKind.u64.wrap (bits BinOp.and IntKind.u64 (x:Int) (IntKind.u64.wrap (-(x:Int)))*285870213051353865)/288230376151711744=(idx:Int))
 (hi:idx<64) (hk:k<64) (hcell:w.cell? ⟨0,idx,none⟩=some (.int .u8 k)):
 Calls Tryz.prog 192 #[.int .u64 x] w fun e w'=>e= .returned (.int .i64 k)∧w=w':=by
 go_enter Tryz.func192,Tryz.ntmps192;go_wp2_with (simp only[key]);go_ret;exact⟨rfl,rfl⟩
theorem Km(x:Nat)(hx:x<18446744073709551616)(w:World)(hT:iE w):
 Calls Tryz.prog 192 #[.int .u64 x] w fun e w'=>e= .returned (.int .i64 (Lib.ctz 64 x))∧w=w':=by
 by_cases hx0:x=0
 ·subst hx0;go_enter Tryz.func192,Tryz.ntmps192;go_wp2;go_ret;exact⟨rfl,rfl⟩
 ·obtain⟨hlow,hk⟩:=Lib.lowest_bit 64 x hx0 hx;obtain⟨hi,htab⟩:=Lib.deBruijn64_at _ hk;have hcell:=hT _ hi;rw[htab]at hcell;exact MK x _ _ w (by simp;omega) (Oh x _ hx hx0 hlow) hi hk hcell
end Go.Proofs.YtfhnamomiaekdaaGreatDoor
namespace Go.Inq
open Go Go.RowKit
theorem below_grown{B:Nat}{w0 w w':World}{row:Option Nat}(hb:Below B w0 w)(hg:w.grownBy w' row)(hB:B≤w.heap.size)(hr:∀k,row=some k→B≤k):Below B w0 w':=
 hb.trans ⟨hg.os,hg.tape,hg.output,hg.size,fun k hk=>hg.block k (Nat.lt_of_lt_of_le hk hB) (fun e=>by have:=hr k e.symm;omega)⟩
theorem aT {P:Program} {W:World} {ops:Array Oper} {rest:List Oper} {o:Oper} {a:Act} {Q:Exit→Act→World→Prop} {α:Type} {enc:α→List Value}
 (hgd:o.guard=none) (s x:Operand) (t:TypeId) (ho:o.op= .call {callee:= .builtin .append,args:=#[s,x],argTypes:=#[t,t]})
 (base:Nat) (e:TypeId) (i:TypeInfo) (z:Value) (size bytes:Nat) (ht:P.underlying t=some (.slice e)) (hi:P.info? e=some i) (hz:i.zero=some z)
 (hsize:i.size=size) (hby:i.bytes=bytes) (hzs:z.cells.size=size) (hsz:0<size)
 (v:Value) (l:List α) (hs:a.eval s=v) (hown:W.ownsRow base e size v l.length (l.map enc).flatten) (hen:∀x,(enc x).length=size)
 (x0:α) (cs:Array Value) (hcs:cs.toList=enc x0) (hx:a.eval x= .slice (some ⟨W.heap.size,0,none⟩) 1 1)
 (h1:∀x,∀u∈enc x,u.oneCell'=true) (h63:l.length+1≤maxLen) (hbytes:(l.length+1)*bytes≤140737488355328) (hbase:base≤W.heap.size)
 (w0:World) (B:Nat) (hB:B≤base) (hb:Below B w0 W)
 (h:∀v' w',w'.ownsRow base e size v' (l++[x0]).length ((l++[x0]).map enc).flatten→(W.alloc (.cells cs e)).grownBy w' v.ownBlock→Below B w0 w'→(v'.ownBlock=v.ownBlock∨v'.ownBlock=some (W.heap.size+1))→wpList P ops Q rest (a.put o.dst v') w'):
 wpList P ops Q (o::rest) a (W.alloc (.cells cs e)):=by
 have hk:Blk (W.alloc (.cells cs e)) W.heap.size e cs:=Blk.new _ _ _;have hl:cs.size=size:=(by rw[←Array.length_toList,hcs,hen]);refine dM (enc:=enc) hgd s x t ho base e i z size bytes ht hi hz hsize hby hzs hsz v (fun _=>True) l hs (hown.alloc _) hen _ [x0] hx (SlR.one hk hl (by unfold Flat;exact hcs) trivial) h1 h63 hbytes (by simp;omega) ?_;intro v' w' g1 g2 g3;refine h v' w' g1 g2 (below_grown (hb.alloc (by omega) _) g2 (by simp;omega) ?_) (by simpa using g3);intro k hk;have:=(hown.lt k hk).1;omega
end Go.Inq
namespace Go.Proofs.YtfhnamomiaekdaaGreatDoor
open Go.RowKit Go.Inq
set_option maxHeartbeats 1000000
attribute [local go_sem↓] Go.wp_at_zero Go.wp_at_succ
def au(l:List Nat):List Int:=l.map fun(n:Nat)=>(n:Int)
theorem gX(l:List Nat)(x:Nat):au (l++[x])=au l++[(x:Int)]:=by simp[au]
theorem aN(l:List Nat):(au l).length=l.length:=by simp[au]
theorem iF{l:List Nat}{i:Nat}(h:i<l.length):(au l)[i]'(by rw[aN];exact h)=(l[i]:Int):=by simp[au]
theorem gW:(Tryz.prog.info? 3).map (fun i=>(i.zero,i.size,i.bytes))=some (some (.int .i64 0),1,8):=by kernel_rfl
def aS(w:World)(base:Nat)(v:Value)(l:List Int):Prop:=w.ownsRow base 3 1 v l.length (l.map Go.Inq.encI).flatten
def yR(w:World)(l:List Int)(e:Ending)(w':World):Prop:=∃v,e= .returned v∧aS w' w.heap.size v l∧Below w.heap.size w w'
theorem aS.form{w:World}{base:Nat}{v:Value}{l:List Int}(h:aS w base v l):∃A c,v= .slice A l.length c:=bY h
theorem aS.sl{w:World}{base:Nat}{v:Value}{l:List Int}(h:aS w base v l){K:Nat→Prop}(hK:∀g,base≤g→g<w.heap.size→K g):aI w K v l:=SlR.of_flat h rfl (fun _=>rfl) hK
theorem aS.nil(w:World)(base:Nat):aS w base (.slice none 0 0) []:=World.ownsRow_nil _ _ _ _
def B64(n:Nat):Prop:=n<18446744073709551616
def BR(s y:Nat)(l:List Nat):Prop:=l++iP y=iP s
theorem Eh{s y:Nat}{l:List Nat}(h:BR s y l)(h0:y≠0)(hy:y<18446744073709551616):BR s (y&&&(y-1)) (l++[Lib.ctz 64 y]):=by
 unfold BR at h⊢;rw[←h,qK y h0 hy];simp
theorem mJ(s:Nat)(hs:s<18446744073709551616)(w:World)(hT:iE w):
 Calls Tryz.prog 131 #[.int .u64 s] w (yR w (au (iP s))):=by
 obtain⟨ii,hii,hi1,hi2,hi3⟩:=info_parts gW;go_enter Tryz.func131,Tryz.ntmps131;go_wp2_with fail;go_loopw [0,3] (fun s0 s3 wr=>∃(y:Nat) (l:List Nat),B64 y∧s0= .int .u64 y∧Hid (BR s y l)∧aS wr w.heap.size s3 (au l)∧Below w.heap.size w wr) (fun s0 _ _=>(iP (intOf s0).toNat).length);case atStart=>exact⟨s,[],hs,rfl,(show[]++iP s=iP s from rfl),aS.nil _ _,Below.refl _ _⟩
 case round=>
  obtain⟨y,l,hy,rfl,hr,hown,hb⟩:=hrel;unfold B64 at hy;by_cases h0:y=0
  ·subst h0;have he:=hr.out;unfold BR at he;rw[Eb,List.append_nil]at he;subst he;go_wp2;go_ret;exact⟨_,rfl,hown,hb⟩
  ·have h0b:((y:Int) !=0)=true:=(by simp;omega);have hT2:=hT.below hb;have hn:=hide (Eh hr.out h0 hy);have hlen:l.length+1≤64:=by
    have h1:=congrArg List.length hr.out;have h2:=congrArg List.length (qK y h0 hy);have h3:=G7 s;simp only[List.length_append,List.length_cons]at h1 h2;omega
   have hand:=u64_and_nat y (y-1) hy (by omega);have hsub:IntKind.u64.wrap ((y:Int)-1)=((y-1:Nat):Int):=(by rw[IntKind.wrap_u64];omega);have hlt:=hide (J8 y hy);have hms:=hide (show(iP (y&&&(y-1))).length<(iP y).length by rw[qK y h0 hy];simp);generalize y&&&(y-1)=z at*;generalize y-1=y1 at*;have hsz:=hb.size;obtain⟨A,c,rfl⟩:=hown.form;replace hown:=hide hown;replace hr:=hide hr.out;replace hy:=hide hy;clear h0 hs;go_wp2_with (first|(go_at_call 192;refine(Km y hy.out _ hT2).mono ?_;rintro e w' ⟨rfl,rfl⟩)|(at_builtin;refine aT (enc:=Go.Inq.encI) rfl (.tmp 10) (.tmp 13) 33 rfl w.heap.size 3 ii _ 1 8 Tryz.underlying33 hii hi1 hi2 hi3 rfl (by decide) (.slice A (au l).length c) (au l) rfl hown.out (fun _=>rfl) (Lib.ctz 64 y:Int) _ rfl rfl fH (by rw[aN];simp[maxLen];omega) (by rw[aN];omega) hsz w w.heap.size (Nat.le_refl _) hb ?_;intro v1 w1 hown1 hg1 hb1 _));go_roundw;case rel=>exact⟨z,l++[Lib.ctz 64 y],hlt.out,rfl,hn,by unfold aS;rw[gX];exact hown1,hb1⟩
   case measure=>
    simp only[intOf,Int.toNat_natCast];exact hms.out
end Go.Proofs.YtfhnamomiaekdaaGreatDoor
namespace Go.Inq
open Go Go.RowKit
theorem rX {P:Program} {w:World} {ops:Array Oper} {rest:List Oper} {o:Oper} {a:Act} {Q:Exit→Act→World→Prop} {α:Type} (f:α→Value)
 (hgd:o.guard=none) (d s:Operand) (dT sT:TypeId) (ho:o.op= .call {callee:= .builtin .copy,args:=#[d,s],argTypes:=#[dT,sT]})
 (elem:TypeId) (hu:P.underlying dT=some (.slice elem)) (hsz:(P.info? elem).map (·.size)=some 1)
 (g n dc c:Nat) (A:Option Addr) (hd:a.eval d= .slice (some ⟨g,0,none⟩) n dc) (hs:a.eval s= .slice A n c)
 (cur:Array Value) (t:TypeId) (hg:Blk w g t cur) (hcur:cur.size=n) (l:List α) (hl:l.length=n)
 (hsrc:∀i (hi:i<l.length),∃b off,A=some ⟨b,off,none⟩∧w.cell? ⟨b,off+i,none⟩=some (f l[i])) (h1:∀x∈l,(f x).oneCell'=true)
 (h:∀w',Blk w' g t (l.map f).toArray→w.grownBy w' (some g)→wpList P ops Q rest (a.put o.dst (goInt n)) w'):wpList P ops Q (o::rest) a w:=by
 by_cases h0:n=0
 ·subst h0;have:l=[]:=List.eq_nil_of_length_eq_zero hl;subst this;have hc:cur=#[]:=Array.eq_empty_of_size_eq_zero hcur;subst hc;exact wpList_copy_nothing hgd d s dT sT ho elem hu hsz _ _ 0 dc 0 c hd hs rfl (h w (by simpa using hg) ⟨rfl,rfl,rfl,Nat.le_refl _,fun _ _ _=>rfl⟩)
 ·obtain⟨b,off,rfl,_⟩:=hsrc 0 (by omega);have hcs:(l.map f).length=n:=(by simpa using hl);refine wpList_copy_own hgd d s dT sT ho elem hu hsz g 0 n dc ⟨b,off,none⟩ n c hd hs cur t hg (l.map f) (by rw[hcs];simp[Nat.min_def]) (fun j v hj=> ?_) (by rw[hcs];omega) (fun v hv=> ?_) ?_
  ·rw[List.getElem?_map]at hj;cases hlj:l[j]? with
   |none=>rw[hlj]at hj;cases hj
   |some x=>
    rw[hlj]at hj;injection hj with hj
    obtain⟨hjl,rfl⟩:=List.getElem?_eq_some_iff.1 hlj;obtain⟨b',off',hA,hc⟩:=hsrc j hjl;injection hA with hA
    injection hA with e1 e2
    subst e1 e2;rw[Addr.add_lit,←hj];exact hc
  ·obtain⟨x,hx,rfl⟩:=List.mem_map.1 hv;exact h1 x hx
  ·rw[hcs];have e:(cur.toList.take 0++(l.map f++cur.toList.drop (0+n))).toArray=(l.map f).toArray:=by
    rw[List.drop_of_length_le (by simp;omega)];simp
   rw[e];exact h _ (setRow_heap w g cur _ t _ hg) ⟨rfl,rfl,rfl,by simp[World.setRow],fun k hk hne=>setRow_other w g k _ (fun e=>hne (by rw[e]))⟩
section
variable{w W:World}{o:Obj}{K:Nat→Prop}
theorem Blk.ay{g:Nat}{t:TypeId}{cs:Array Value}(h:Blk w g t cs)(e:w.alloc o=W):Blk W g t cs:=by subst e;exact h.alloc o
theorem Agree.ay(e:w.alloc o=W)(hk:∀b,K b→b<w.heap.size):Agree K w W:=by subst e;exact Agree.alloc hk o
theorem ah{B:Nat}{w0:World}(h:Below B w0 w)(e:w.alloc o=W)(hB:B≤w.heap.size):Below B w0 W:=by subst e;exact h.alloc hB o
theorem Blk.newEq{t:TypeId}{cs:Array Value}(e:w.alloc (.cells cs t)=W):Blk W w.heap.size t cs:=by subst e;exact Blk.new _ _ _
theorem Blk.fC{t:TypeId}{cs:Array Value}(e:(w.alloc (.cells cs t)).alloc o=W):Blk W w.heap.size t cs:=by subst e;exact(Blk.new _ _ _).alloc _
theorem Blk.dQ{t:TypeId}{cs:Array Value}(e:(w.alloc o).alloc (.cells cs t)=W):Blk W (w.heap.size+1) t cs:=by
 subst e;have:=Blk.new (w.alloc o) t cs;simpa using this
theorem size_two{o':Obj}(e:(w.alloc o).alloc o'=W):W.heap.size=w.heap.size+2:=by subst e;simp
theorem aG{o':Obj}(e:(w.alloc o).alloc o'=W):Below w.heap.size w W:=by subst e;exact((Below.refl _ _).alloc (Nat.le_refl _) _).alloc (by simp) _
theorem Blk.oz{o':Obj}{t:TypeId}{cs:Array Value}(e:((w.alloc (.cells cs t)).alloc o).alloc o'=W):Blk W w.heap.size t cs:=by subst e;exact((Blk.new _ _ _).alloc _).alloc _
theorem Blk.mK{o':Obj}{t:TypeId}{cs:Array Value}(e:((w.alloc o).alloc (.cells cs t)).alloc o'=W):Blk W (w.heap.size+1) t cs:=by
 subst e;have:=(Blk.new (w.alloc o) t cs).alloc o';simpa using this
theorem Blk.mM{o':Obj}{t:TypeId}{cs:Array Value}(e:((w.alloc o).alloc o').alloc (.cells cs t)=W):Blk W (w.heap.size+1+1) t cs:=by
 subst e;have:=Blk.new ((w.alloc o).alloc o') t cs;simpa using this
theorem qM{o' o'':Obj}(e:((w.alloc o).alloc o').alloc o''=W):W.heap.size=w.heap.size+3:=by subst e;simp
theorem dY{o' o'':Obj}(e:((w.alloc o).alloc o').alloc o''=W):Below w.heap.size w W:=by subst e;exact(((Below.refl _ _).alloc (Nat.le_refl _) _).alloc (by simp) _).alloc (by simp;omega) _
theorem aH(e:w.alloc o=W):W.heap.size=w.heap.size+1:=by subst e;simp
end
theorem av{w w' w'':World}{r:Option Nat}(h:w.grownBy w' r)(h':w'.grownBy w'' r):w.grownBy w'' r:=
 ⟨h'.os.trans h.os,h'.tape.trans h.tape,h'.output.trans h.output,Nat.le_trans h.size h'.size,fun k hk hne=>(h'.block k (Nat.lt_of_lt_of_le hk h.size) hne).trans (h.block k hk hne)⟩
theorem bQ{w w':World}{B:Nat}{r:Option Nat}(hb:Below B w w')(hB:w.heap.size≤B):w.grownBy w' r:=⟨hb.os,hb.tape,hb.output,hb.size,fun k hk _=>hb.block k (by omega)⟩
theorem dK{w:World}(g i:Nat)(u:Value):w.grownBy (w.setCell ⟨g,i,none⟩ u) (some g):=
 ⟨rfl,rfl,rfl,by simp,fun k hk hne=>Below.heap_setCell w ⟨g,i,none⟩ u k (fun e=>hne (by simp at e;rw[e]))⟩
theorem gY{w:World}{r:Option Nat}:w.grownBy w.drew r:=⟨rfl,rfl,rfl,Nat.le_refl _,fun _ _ _=>rfl⟩
theorem Agree.ku{K:Nat→Prop}{w w':World}{g:Nat}(h:w.grownBy w' (some g))(hK:∀b,K b→b<g)(hg:g≤w.heap.size):Agree K w w':=Agree.grown h fun b hb=>⟨by have:=hK b hb;omega,by have:=hK b hb;simp;omega⟩
end Go.Inq
namespace Go.Proofs.YtfhnamomiaekdaaGreatDoor
open Go.RowKit Go.Inq
set_option maxHeartbeats 4000000
attribute [local go_sem↓] Go.wp_at_zero Go.wp_at_succ
theorem zo(l:List Int):(l.map Go.Inq.encI).flatten=l.map (Value.int .i64):=by
 induction l with
 |nil=>rfl
 |cons x r ih=>rw[List.map_cons,List.flatten_cons,ih];rfl
theorem below_grow(w:World)(os:Array Obj):Below w.heap.size w (Go.Sort.grow w os):=
 ⟨rfl,rfl,rfl,by simp[Go.Sort.grow],fun k hk=>by simp[Go.Sort.grow,Array.getElem?_append,hk]⟩
theorem Ht(base:Nat)(A:Option Addr)(c:Nat)(l:List Int)(w:World)(h:aS w base (.slice A l.length c) l)(hl:l.length<4611686018427387904):
 Calls Tryz.prog 159 #[.slice A l.length c] w fun e w'=>e= .returned (.tuple #[])∧aS w' base (.slice A l.length c) (l.mergeSort fun x y=>decide (x≤y))∧Below base w w':=by
 unfold aS at h⊢;rw[zo]at h⊢;by_cases hv:(Value.slice A l.length c)= .slice none 0 0
 ·injection hv with h1 h2 h3
  subst h1 h3;have:l=[]:=List.eq_nil_of_length_eq_zero h2;subst this;refine(Go.Proofs.Tryz.slices_Sort_int_none none 0 w).mono ?_;rintro e w' ⟨rfl,rfl⟩;exact⟨rfl,by rw[List.mergeSort_nil];exact World.ownsRow_nil _ _ _ _,Below.refl _ _⟩
 ·obtain⟨g,cap,hv',hbg,hgl,hn,hm,_,hH⟩:=Go.Lib.holds_of_ownsRow h hv;injection hv' with h1 h2 h3
  subst h1 h3;refine(Go.Proofs.Tryz.slices_Sort_int g 0 c l w hH hgl hl).mono ?_;rintro e w' ⟨rfl,n,os,rfl⟩;have hlen:(l.mergeSort fun x y=>decide (x≤y)).length=l.length:=List.length_mergeSort l;have hr:=Go.Lib.ownsRow_putRow (q:=n) (k:=l.length) h hlen (Nat.le_refl _);rw[List.take_of_length_le (by rw[hlen];exact Nat.le_refl _)]at hr;rw[hlen];have hb2:=Go.Lib.below_putRow (enc:=Value.int .i64) (q:=n) (d:=(l.mergeSort fun x y=>decide (x≤y)).toArray) (Below.refl base w) hbg;have hz:=(hr.lt g rfl).2;exact⟨rfl,own_below hr (below_grow _ os) (Nat.le_refl _),hb2.trans ((below_grow _ os).mono (by omega))⟩
theorem AX(base:Nat)(A:Option Addr)(c:Nat)(l:List Int)(w:World)(h:aS w base (.slice A l.length c) l)(hl:l.length≤1000000000):
 Calls Tryz.prog 184 #[.slice A l.length c] w fun e w'=>∃v,e= .returned v∧aS w' base v (Go.Lib.compact l)∧Below base w w':=by
 unfold aS at h⊢;rw[zo]at h⊢;by_cases hv:(Value.slice A l.length c)= .slice none 0 0
 ·injection hv with h1 h2 h3
  subst h1 h3;have:l=[]:=List.eq_nil_of_length_eq_zero h2;subst this;refine(Go.Proofs.Tryz.slices_Compact_int_empty none 0 w).mono ?_;rintro e w' ⟨rfl,rfl⟩;exact⟨_,rfl,World.ownsRow_nil _ _ _ _,Below.refl _ _⟩
 ·obtain⟨g,cap,hv',hbg,hgl,hn,hm,_,hH⟩:=Go.Lib.holds_of_ownsRow h hv;injection hv' with h1 h2 h3
  subst h1 h3;refine(Go.Proofs.Tryz.slices_Compact_int g 0 c l w hH (by omega) hn).mono ?_;rintro e w' ⟨rfl,q,rfl⟩;have hk:(Go.Lib.compact l).length≤l.length:=Go.Lib.compact_length_le l;have hlen:(Go.Lib.compact l++List.replicate (l.length-(Go.Lib.compact l).length) 0).length=l.length:=(by simp;omega);have hr:=Go.Lib.ownsRow_putRow (q:=q) (k:=(Go.Lib.compact l).length) h hlen hk;rw[List.take_append_of_le_length (Nat.le_refl _),List.take_length]at hr;exact⟨_,rfl,hr,Go.Lib.below_putRow (enc:=Value.int .i64) (Below.refl base w) hbg⟩
set_option maxRecDepth 100000 in
theorem rY(A:Option Addr)(c:Nat)(H:List Txn)(key:Int)(w:World)(h:aF w (Old w) (.slice A H.length c) H)(hn:aB H)(hr:aC H=true):
 Calls Tryz.prog 115 #[.agg #[.slice A H.length c],.int .i64 key] w (yR w (au (fE H key))):=by
 obtain⟨ii,hii,hi1,hi2,hi3⟩:=info_parts gW;obtain⟨W0,hW0⟩:∃W0,w.alloc (.cells #[.slice A H.length c] 24)=W0:=⟨_,rfl⟩;have hB:=ah (Below.refl w.heap.size w) hW0 (Nat.le_refl _);have k0:=Blk.newEq hW0;have h0:=hide (h.below hB);have hlen:=hn.1;have hwl:=hide (fun i (hi:i<H.length)=>(hn.2 _ (List.getElem_mem hi)).1);replace hn:=hide hn;replace hr:=hide hr;replace h:=hide h;have c0:=Blk.n0 k0;go_enter Tryz.func115,Tryz.ntmps115;go_wp2_with fail;clear hW0 c0;refine(fF A c H _ h0.out hn.out).mono ?_;rintro e w1 ⟨rfl,hb1⟩;rw[hr.out];replace k0:=k0.below hb1 k0.lt;have hb:=hB.trans (hb1.mono hB.size);clear hb1 hB h0;have c0:=Blk.n0 k0;go_wp2_with fail;clear c0 k0;go_loopw [5,14] (fun s5 s14 wr=>∃k:Nat,k≤H.length∧s14= .int .i64 k∧aS wr w.heap.size s5 (au (fO H key k))∧Below w.heap.size w wr) (fun _ s14 _=>H.length-(intOf s14).toNat);case atStart=>exact⟨0,Nat.zero_le _,by go_num,aS.nil _ _,hb⟩
 case round=>
  clear hb;obtain⟨k,hk,rfl,hown,hb⟩:=hrel;have Kn:(0:Int)≤(k:Int):=Int.natCast_nonneg _;by_cases hlt:k<H.length
  ·have Ko:(k:Int)<(H.length:Int):=(by omega);obtain⟨b,off,Aw,cw,Ar,cr,rfl,_,d0,d1,d2,hws,_⟩:=aF.at_ (h.out.below hb) hlt;have hwk:=hwl.out k hlt;have hst:=hide (wP H key k);rw[aO hlt]at hst;have hcnt:(fO H key k).length≤k:=Nat.le_trans (List.length_filter_le _ _) (by simp);have qN:=hb.size;obtain⟨Av,cv,rfl⟩:=hown.form;generalize H[k]=t at*;obtain⟨ts,ws,rs⟩:=t;dsimp only at*;have Oi:=hide (hws.keep (w':=wr.alloc (.cells #[.int .i64 ts,.slice Aw ws.length cw,.slice Ar rs.length cr] 109)) (Agree.alloc (fun b hb=>hb) _) (fun b h=>h));have hb2:=hb.alloc qN (.cells #[.int .i64 ts,.slice Aw ws.length cw,.slice Ar rs.length cr] 109);have hown2:=hown.alloc (.cells #[.int .i64 ts,.slice Aw ws.length cw,.slice Ar rs.length cr] 109);clear hws;replace hown2:=hide hown2;have hlq:=hide (aN (fO H key k));have hsn:=hide (gX (fO H key k) k);go_wp2_with fail;clear d0 d1 d2;refine(gJ Aw cw ws key _ _ Oi.out (by unfold maxLen;omega)).mono ?_;rintro e w3 ⟨rfl,rfl⟩;have hsz2:=hb2.size;cases hc:ws.contains key with
   |true=>
    have rZ:Hid (fO H key (k+1)=fO H key k++[k]):=hide (by rw[hst.out,hc];rfl);clear hc hst;generalize wr.alloc (.cells #[.int .i64 ts,.slice Aw ws.length cw,.slice Ar rs.length cr] 109)=Wx at*;go_wp2_with (at_builtin;refine aT (enc:=Go.Inq.encI) rfl (.tmp 23) (.tmp 25) 33 rfl w.heap.size 3 ii _ 1 8 Tryz.underlying33 hii hi1 hi2 hi3 rfl (by decide) (.slice Av (au (fO H key k)).length cv) (au (fO H key k)) rfl hown2.out (fun _=>rfl) (k:Int) _ rfl rfl Go.Inq.fH (by rw[hlq.out];simp[maxLen];omega) (by rw[hlq.out];omega) hsz2 w w.heap.size (Nat.le_refl _) hb2 ?_;intro v1 w6 hown1 hg1 hb1 ji);go_roundw;case rel=>exact⟨k+1,by omega,by go_num,by unfold aS;rw[rZ.out,hsn.out];exact hown1,hb1⟩
    case measure=>simp[intOf];omega
   |false=>
    have rZ:Hid (fO H key (k+1)=fO H key k):=hide (by rw[hst.out,hc];simp);clear hc hst;go_wp2;go_roundw;case rel=>exact⟨k+1,by omega,by go_num,by unfold aS;rw[rZ.out];exact hown2.out,hb2⟩
    case measure=>simp[intOf];omega
  ·obtain rfl:k=H.length:=(by omega);go_wp2;go_ret;exact⟨_,rfl,hown,hb⟩
def vH(H:List Txn)(k:Nat):List Int:=((H.take k).map (·.writes)).flatten
theorem zq{H:List Txn}{k:Nat}(h:k<H.length):vH H (k+1)=vH H k++H[k].writes:=by
 unfold vH;rw[List.take_succ_eq_append_getElem h,List.map_append,List.flatten_append];simp
theorem BS{H:List Txn}(h:∀i (hi:i<H.length),H[i].writes.length≤1000000):∀k,k≤H.length→(vH H k).length≤k*1000000
 |0,_=>by simp[vH]
 |k+1,hk=>by
  rw[zq (by omega),List.length_append];have:=BS h k (by omega);have:=h k (by omega);omega
set_option maxRecDepth 100000 in
theorem zu(A:Option Addr)(c:Nat)(H:List Txn)(w:World)(h:aF w (Old w) (.slice A H.length c) H)(hn:aB H)(hr:aC H=true):
 Calls Tryz.prog 114 #[.agg #[.slice A H.length c]] w (yR w (dW H)):=by
 obtain⟨ii,hii,hi1,hi2,hi3⟩:=info_parts gW;obtain⟨W0,hW0⟩:∃W0,w.alloc (.cells #[.slice A H.length c] 24)=W0:=⟨_,rfl⟩;have hB:=ah (Below.refl w.heap.size w) hW0 (Nat.le_refl _);have k0:=Blk.newEq hW0;have h0:=hide (h.below hB);have h32:H.length≤32:=((aA H).1 hr).1;have hwl:=hide (fun i (hi:i<H.length)=>(hn.2 _ (List.getElem_mem hi)).1);have hal:=hide (BS hwl.out);have hkl:Hid (dW H=Go.Lib.compact ((vH H H.length).mergeSort fun x y=>decide (x≤y))):=hide (by unfold dW vH;rw[List.take_length]);replace hn:=hide hn;replace hr:=hide hr;replace h:=hide h;have c0:=Blk.n0 k0;go_enter Tryz.func114,Tryz.ntmps114;go_wp2_with fail;clear hW0 c0;refine(fF A c H _ h0.out hn.out).mono ?_;rintro e w1 ⟨rfl,hb1⟩;rw[hr.out];replace k0:=k0.below hb1 k0.lt;have hb:=hB.trans (hb1.mono hB.size);clear hb1 hB h0;have c0:=Blk.n0 k0;go_wp2_with fail;clear c0 k0;go_loopw [3,12] (fun s3 s12 wr=>∃k:Nat,k≤H.length∧s12= .int .i64 k∧aS wr w.heap.size s3 (vH H k)∧Below w.heap.size w wr) (fun _ s12 _=>H.length-(intOf s12).toNat);case atStart=>exact⟨0,Nat.zero_le _,by go_num,aS.nil _ _,hb⟩
 case round=>
  clear hb;obtain⟨k,hk,rfl,hown,hb⟩:=hrel;have Kn:(0:Int)≤(k:Int):=Int.natCast_nonneg _;by_cases hlt:k<H.length
  ·have Ko:(k:Int)<(H.length:Int):=(by omega);obtain⟨b,off,Aw,cw,Ar,cr,rfl,_,d0,d1,d2,hws,_⟩:=aF.at_ (h.out.below hb) hlt;have hwk:=hwl.out k hlt;have hst:=hide (zq hlt);have hcnt:=hal.out k hk;have qN:=hb.size;obtain⟨Av,cv,rfl⟩:=hown.form;generalize H[k]=t at*;obtain⟨ts,ws,rs⟩:=t;dsimp only at*;have Oi:=hide (hws.keep (w':=wr.alloc (.cells #[.int .i64 ts,.slice Aw ws.length cw,.slice Ar rs.length cr] 109)) (Agree.alloc (fun b hb=>hb) _) (fun b h=>h));have hb2:=hb.alloc qN (.cells #[.int .i64 ts,.slice Aw ws.length cw,.slice Ar rs.length cr] 109);have hown2:=hown.alloc (.cells #[.int .i64 ts,.slice Aw ws.length cw,.slice Ar rs.length cr] 109);have hlo:=hide (fun b hb=>(hown.lt b hb).1);clear hws;replace hown2:=hide hown2;generalize vH H k=M at*;go_wp2_with (at_builtin;refine dM (enc:=Go.Inq.encI) rfl (.tmp 16) (.tmp 18) 33 rfl w.heap.size 3 ii _ 1 8 Tryz.underlying33 hii hi1 hi2 hi3 rfl (by decide) (.slice Av M.length cv) (Old wr) M rfl hown2.out (fun _=>rfl) (.slice Aw ws.length cw) ws rfl Oi.out Go.Inq.fH (by simp[maxLen];omega) (by omega) (by simp;omega) ?_;intro v1 w6 hown1 hg1 ji);have hb3:=below_grown hb2 hg1 (by simp;omega) (fun k hk=>hlo.out k hk);go_wp2;go_roundw;case rel=>exact⟨k+1,by omega,by go_num,by unfold aS;rw[hst.out];exact hown1,hb3⟩
   case measure=>simp[intOf];omega
  ·obtain rfl:k=H.length:=(by omega);have hcnt:=hal.out _ hk;obtain⟨Av,cv,rfl⟩:=hown.form;have hMl:(vH H H.length).length<4611686018427387904:=(by omega);have QS:(vH H H.length).length≤1000000000:=(by omega);clear hcnt;generalize vH H H.length=M at*;have BU:=List.length_mergeSort (le:=fun x y:Int=>decide (x≤y)) M;replace BU:=hide BU;have qN:=hb.size;go_wp2_with fail;refine(Ht w.heap.size Av cv M _ hown hMl).mono ?_;rintro e w2 ⟨rfl,hown2,hb2⟩;replace hb:=hb.trans hb2;have hs2:Hid (aS w2 w.heap.size (.slice Av (M.mergeSort fun x y=>decide (x≤y)).length cv) (M.mergeSort fun x y=>decide (x≤y))):=hide (by rw[BU.out];exact hown2);clear hown hown2 hb2;go_wp2_with fail;rw[←BU.out];have QT:(M.mergeSort fun x y=>decide (x≤y)).length≤1000000000:=(by rw[BU.out];exact QS);refine(AX w.heap.size Av cv _ _ hs2.out QT).mono ?_;rintro e w3 ⟨v,rfl,hown3,hb3⟩;replace hb:=hb.trans hb3;go_wp2;go_ret;exact⟨_,rfl,by rw[hkl.out];exact hown3,hb⟩
end Go.Proofs.YtfhnamomiaekdaaGreatDoor
namespace Go.Inq
def bI(key:Int)(l:List Nat)(i:Nat):List Cho:=((List.range i).map fun a=>(l.drop (a+1)).map fun(b:Nat)=>(⟨key,(l.getD a 0:Nat),b⟩:Cho)).flatten
theorem uN(key:Int)(l:List Nat){i:Nat}(h:i<l.length):bI key l (i+1)=bI key l i++(l.drop (i+1)).map fun(b:Nat)=>(⟨key,(l[i]:Nat),b⟩:Cho):=by
 unfold bI;rw[List.range_succ,List.map_append,List.flatten_append];simp[List.getD_eq_getElem?_getD,List.getElem?_eq_getElem h]
theorem uO(key:Int)(a:Nat)(r:List Nat):∀i,bI key (a::r) (i+1)=(r.map fun(b:Nat)=>(⟨key,a,b⟩:Cho))++bI key r i
 |0=>by simp[bI,List.range_succ]
 |i+1=>by
  have h1:bI key (a::r) (i+1+1)=bI key (a::r) (i+1)++((a::r).drop (i+1+1)).map fun(b:Nat)=>(⟨key,((a::r).getD (i+1) 0:Nat),b⟩:Cho):=by
   unfold bI;rw[List.range_succ,List.map_append,List.flatten_append];simp
  have h2:bI key r (i+1)=bI key r i++(r.drop (i+1)).map fun(b:Nat)=>(⟨key,(r.getD i 0:Nat),b⟩:Cho):=by
   unfold bI;rw[List.range_succ,List.map_append,List.flatten_append];simp
  rw[h1,h2,uO key a r i];simp
theorem qO(key:Int):∀l:List Nat,bI key l l.length=fJ key l
 |[]=>by simp[bI,fJ]
 |a::r=>by rw[List.length_cons,uO,qO key r];rfl
def dZ(H:List Txn)(k:Nat):List Cho:=(((dW H).take k).map fun key=>fJ key (fE H key)).flatten
theorem r9{H:List Txn}{k:Nat}(h:k<(dW H).length):dZ H (k+1)=dZ H k++fJ (dW H)[k] (fE H (dW H)[k]):=by
 unfold dZ;rw[List.take_succ_eq_append_getElem h,List.map_append,List.flatten_append];simp
theorem uP(H:List Txn):dZ H (dW H).length=aM H:=by unfold dZ aM;rw[List.take_length]
theorem qP(key:Int):∀l:List Nat,(fJ key l).length≤l.length*l.length
 |[]=>by simp[fJ]
 |a::r=>by
  unfold fJ;rw[List.length_append,List.length_map,List.length_cons];have:=qP key r;rw[Nat.add_mul,Nat.mul_add];omega
theorem qQ(key:Int)(l:List Nat):∀i,(bI key l i).length≤i*l.length
 |0=>by simp[bI]
 |i+1=>by
  have h1:bI key l (i+1)=bI key l i++(l.drop (i+1)).map fun(b:Nat)=>(⟨key,(l.getD i 0:Nat),b⟩:Cho):=by
   unfold bI;rw[List.range_succ,List.map_append,List.flatten_append];simp
  rw[h1,List.length_append,List.length_map,List.length_drop,Nat.add_mul];have:=qQ key l i;omega
theorem oC{H:List Txn}(hr:aC H=true):(dW H).length≤16:=by
 have hb:∀t∈H,∀k∈t.writes,0≤k∧k<16:=fun t ht k hk=>by
  obtain⟨i,hi,rfl⟩:=List.getElem_of_mem ht;exact(((aA H).1 hr).2 i hi).PL k hk
 rw[wQ hb,List.length_map];exact Nat.le_trans (List.length_filter_le _ _) (by simp)
theorem oD{H:List Txn}(h32:H.length≤32):∀k,k≤(dW H).length→(dZ H k).length≤k*1024
 |0,_=>by simp[dZ]
 |k+1,hk=>by
  rw[r9 (by omega),List.length_append];have h1:=oD h32 k (by omega);have h2:=qP (dW H)[k] (fE H (dW H)[k]);have h3:=og H (dW H)[k];have h4:(fE H (dW H)[k]).length*(fE H (dW H)[k]).length≤32*32:=Nat.mul_le_mul (by omega) (by omega);omega
theorem mO{H:List Txn}(hr:aC H=true):(aM H).length≤16384:=by
 have h1:=oD ((aA H).1 hr).1 _ (Nat.le_refl _);rw[uP]at h1;have:=oC hr;omega
theorem wZ{key:Int}{c:Cho}:∀{l:List Nat},c∈fJ key l→c.key=key∧∃a b:Nat,c.a=a∧c.b=b∧a∈l∧b∈l
 |[],h=>by simp[fJ]at h
 |a::r,h=>by
  unfold fJ at h;rw[List.mem_append]at h;rcases h with h|h
  ·obtain⟨b,hb,rfl⟩:=List.mem_map.1 h;exact⟨rfl,a,b,rfl,rfl,by simp,by simp[hb]⟩
  ·obtain⟨h1,x,y,h2,h3,h4,h5⟩:=wZ h;exact⟨h1,x,y,h2,h3,by simp[h4],by simp[h5]⟩
theorem zw{key:Int}{c:Cho}:∀{l:List Nat},l.Pairwise (·<·)→c∈fJ key l→c.a<c.b
 |[],_,h=>by simp[fJ]at h
 |a::r,hp,h=>by
  rw[List.pairwise_cons]at hp;unfold fJ at h;rw[List.mem_append]at h;rcases h with h|h
  ·obtain⟨b,hb,rfl⟩:=List.mem_map.1 h;have:=hp.1 b hb;show(a:Int)<(b:Int);omega
  ·exact zw hp.2 h
theorem Ei{H:List Txn}{c:Cho}(h:c∈aM H):∃a b:Nat,c.a=a∧c.b=b∧a<b∧b<H.length∧c.key∈(aL H a).writes∧c.key∈(aL H b).writes:=by
 unfold aM at h;obtain⟨l,hl,hc⟩:=List.mem_flatten.1 h;obtain⟨key,_,rfl⟩:=List.mem_map.1 hl;obtain⟨hk,a,b,ha,hb,h1,h2⟩:=wZ hc;have hlt:=zw (G6 H key) hc;obtain⟨_,h3⟩:=jH.1 h1;obtain⟨h4,h5⟩:=jH.1 h2;rw[hk];exact⟨a,b,ha,hb,by omega,h4,h3,h5⟩
def wrB(H:List Txn)(t key:Int):Bool:=decide (0≤t)&&decide (t<(H.length:Int))&&(aL H t.toNat).writes.contains key
def dB(H:List Txn)(c:Cho):Bool:=decide (c.a≠c.b)&&wrB H c.a c.key&&wrB H c.b c.key
def cB(H:List Txn)(l:List Cho):Bool:=aC H&&decide (l.length≤20000)&&l.all (dB H)
theorem pJ{H:List Txn}{t:Nat}{key:Int}(h:t<H.length):wrB H (t:Int) key=(aL H t).writes.contains key:=by unfold wrB;simp[h]
theorem Gm{H:List Txn}{t key:Int}:wrB H t key=true↔∃n:Nat,t=n∧n<H.length∧key∈(aL H n).writes:=by
 unfold wrB;constructor
 ·intro h;simp only[Bool.and_eq_true,decide_eq_true_eq,List.contains_iff_mem]at h;exact⟨t.toNat,by omega,by omega,h.2⟩
 ·rintro⟨n,rfl,h1,h2⟩;simp[h1,h2]
theorem sj{H:List Txn}{c:Cho}:dB H c=true↔∃a b:Nat,c.a=a∧c.b=b∧a≠b∧a<H.length∧b<H.length∧c.key∈(aL H a).writes∧c.key∈(aL H b).writes:=by
 unfold dB;rw[Bool.and_eq_true,Bool.and_eq_true,Gm,Gm];constructor
 ·rintro⟨⟨h1,a,ha,h2,h3⟩,b,hb,h4,h5⟩;have:=of_decide_eq_true h1;exact⟨a,b,ha,hb,by omega,h2,h4,h3,h5⟩
 ·rintro⟨a,b,ha,hb,h1,h2,h3,h4,h5⟩;exact⟨⟨decide_eq_true (by omega),a,ha,h2,h4⟩,b,hb,h3,h5⟩
theorem zx{H:List Txn}{c:Cho}(h:c∈aM H):dB H c=true:=by
 obtain⟨a,b,ha,hb,h1,h2,h3,h4⟩:=Ei h;exact sj.2 ⟨a,b,ha,hb,by omega,by omega,h2,h3,h4⟩
def bg(c:Cho):Cho:=⟨c.key,c.b,c.a⟩
theorem su{H:List Txn}{c:Cho}(h:dB H c=true):dB H (bg c)=true:=by
 obtain⟨a,b,ha,hb,h1,h2,h3,h4,h5⟩:=sj.1 h;exact sj.2 ⟨b,a,hb,ha,h1.symm,h3,h2,h5,h4⟩
end Go.Inq
namespace Go.Proofs.YtfhnamomiaekdaaGreatDoor
open Go.RowKit Go.Inq
set_option maxHeartbeats 4000000
attribute [local go_sem↓] Go.wp_at_zero Go.wp_at_succ
def jJ(x:Cho):List Value:=[.int .i64 x.key,.int .i64 x.a,.int .i64 x.b]
theorem iG:∀(x:Cho),∀u∈jJ x,u.oneCell'=true:=by
 intro x u hu;simp[jJ]at hu;rcases hu with rfl|rfl|rfl<;>rfl
theorem mP:(Tryz.prog.info? 102).map (fun i=>(i.zero,i.size,i.bytes))=some (some (.agg #[.int .i64 0,.int .i64 0,.int .i64 0]),3,24):=by kernel_rfl
def bq(w:World)(K:Nat→Prop)(v:Value)(l:List Cho):Prop:=SlR 3 (Flat jJ) w K v l
section
variable{w w':World}{K K':Nat→Prop}{v:Value}{l:List Cho}
theorem bq.keep(h:bq w K v l)(ha:Agree K w w')(hk:∀b,K b→K' b):bq w' K' v l:=SlR.keep (Flat.bE _) h ha hk
theorem bq.below(h:bq w (Old w) v l)(hb:Below w.heap.size w w'):bq w' (Old w') v l:=SlR.below (Flat.bE _) h hb
theorem bq.fit(h:bq w K v l)(hk:∀b,K b→K' b):bq w K' v l:=SlR.fit (Flat.bE _) h hk
theorem bq.nil(w:World)(K:Nat→Prop)(A:Option Addr)(c:Nat):bq w K (.slice A 0 c) []:=SlR.nil _ _ _ _ _ _
theorem bq.at_{A:Option Addr}{n c:Nat}(h:bq w K (.slice A n c) l){i:Nat}(hi:i<l.length):
 ∃b off,A=some ⟨b,off,none⟩∧K b∧w.cell? ⟨b,off+i*3,none⟩=some (.int .i64 l[i].key)∧w.cell? ⟨b,off+i*3+1,none⟩=some (.int .i64 l[i].a)∧w.cell? ⟨b,off+i*3+2,none⟩=some (.int .i64 l[i].b):=by
 obtain⟨b,off,cs,hA,hK,_,hR,hc⟩:=SlR.at_ h hi;unfold Flat at hR;subst hR;exact⟨b,off,hA,hK,hc 0 _ rfl,hc 1 _ rfl,hc 2 _ rfl⟩
end
def dw(w:World)(base:Nat)(v:Value)(l:List Cho):Prop:=w.ownsRow base 102 3 v l.length (l.map jJ).flatten
def Kq(w:World)(l:List Cho)(e:Ending)(w':World):Prop:=∃v,e= .returned v∧dw w' w.heap.size v l∧Below w.heap.size w w'
theorem dw.form{w:World}{base:Nat}{v:Value}{l:List Cho}(h:dw w base v l):∃A c,v= .slice A l.length c:=bY h
theorem dw.sl{w:World}{base:Nat}{v:Value}{l:List Cho}(h:dw w base v l){K:Nat→Prop}(hK:∀g,base≤g→g<w.heap.size→K g):bq w K v l:=SlR.of_flat h rfl (fun _=>rfl) hK
theorem dw.nil(w:World)(base:Nat):dw w base (.slice none 0 0) []:=World.ownsRow_nil _ _ _ _
set_option maxRecDepth 100000 in
theorem qR(A:Option Addr)(c:Nat)(H:List Txn)(w:World)(h:aF w (Old w) (.slice A H.length c) H)(hn:aB H)(hr:aC H=true):
 Calls Tryz.prog 52 #[.agg #[.slice A H.length c]] w (Kq w (aM H)):=by
 obtain⟨ic,hic,hi1,hi2,hi3⟩:=info_parts mP;obtain⟨W0,hW0⟩:∃W0,w.alloc (.cells #[.slice A H.length c] 24)=W0:=⟨_,rfl⟩;have hB:=ah (Below.refl w.heap.size w) hW0 (Nat.le_refl _);have k0:=Blk.newEq hW0;have h0:=hide (h.below hB);have h32:H.length≤32:=((aA H).1 hr).1;have QU:=oC hr;have hpt:=hide (oD h32);have hstep:=hide (fun k (hk:k<(dW H).length)=>r9 hk);have hall:=hide (uP H);have hs0:=aH hW0;replace hn:=hide hn;replace hr:=hide hr;replace h:=hide h;have c0:=Blk.n0 k0;replace hs0:=hide hs0;go_enter Tryz.func52,Tryz.ntmps52;go_wp2_with fail;clear hW0 c0;refine(zu A c H _ h0.out hn.out hr.out).mono ?_;rintro e wk ⟨vk,rfl,hKO,hbk⟩;obtain⟨Ak,ck,rfl⟩:=hKO.form;have hwW:w.heap.size<W0.heap.size:=(by have:=hs0.out;omega);have hKS:=hide (hKO.sl (K:=fun b=>W0.heap.size≤b∧b<wk.heap.size) (fun g h1 h2=>⟨h1,h2⟩));replace k0:=k0.below hbk k0.lt;have hb:=hB.trans (hbk.mono hB.size);have QV:=hbk.size;clear hbk hB h0 hKO;generalize hKL:dW H=KL at*;go_wp2_with fail;go_loopw [3,14] (fun s3 s14 wr=>∃k:Nat,k≤KL.length∧s14= .int .i64 k∧dw wr w.heap.size s3 (dZ H k)∧Below w.heap.size w wr∧Agree (fun b=>w.heap.size≤b∧b<wk.heap.size) wk wr∧wk.heap.size≤wr.heap.size∧Hid (∀g,s3.ownBlock=some g→wk.heap.size≤g)) (fun _ s14 _=>KL.length-(intOf s14).toNat);case atStart=>exact⟨0,Nat.zero_le _,by go_num,dw.nil _ _,hb,Agree.refl _ _,Nat.le_refl _,hide fun g hg=>by simp[Value.ownBlock]at hg⟩
 case round=>
  clear hb;obtain⟨Wo,rfl⟩:∃Wo,Wo=wr:=⟨_,rfl⟩;obtain⟨k,hk,rfl,hown,hb,hag,Oj,jc⟩:=hrel;have Kn:(0:Int)≤(k:Int):=Int.natCast_nonneg _;by_cases hlt:k<KL.length
  ·have Ko:(k:Int)<(KL.length:Int):=(by omega);obtain⟨bk,ok,rfl,_,hck⟩:=(hKS.out.keep (hag.mono fun b hb=>⟨by omega,hb.2⟩) (fun b h=>h)).at_ hlt;have m0:=k0.agree hag ⟨Nat.le_refl _,k0.lt⟩;have hst:=hide (hstep.out k hlt);have hlen:=hpt.out k hk;have c0:=Blk.n0 m0;generalize KL[k]=key at*;go_wp2_with fail;clear c0 hck;refine(rY A c H key _ (h.out.below hb) hn.out hr.out).mono ?_;rintro e wl ⟨vl,rfl,hLO,hbl⟩;have hLn:=og H key;have hpa:=hide (qO key (fE H key));have hpi:=hide (fun i (hi:i<(fE H key).length)=>uN key (fE H key) hi);have hpl:=hide (qQ key (fE H key));generalize fE H key=L at*;obtain⟨Al,cl,hv⟩:=hLO.form;rw[aN]at hv;subst hv;have hLS:=hide (hLO.sl (K:=fun b=>Wo.heap.size≤b∧b<wl.heap.size) (fun g h1 h2=>⟨h1,h2⟩));have hb2:=hb.trans (hbl.mono hb.size);have Ol:=hbl.size;have ML:Agree (fun b=>w.heap.size≤b∧b<wk.heap.size) wk wl:=hag.trans (Agree.below hbl fun b hb=>by omega);have hown2:dw wl w.heap.size _ (dZ H k):=own_below hown hbl (Nat.le_refl _);have hlt2:=hide (fun g hg=>(hown.lt g hg).2);clear hLO hbl hb hag hown m0;go_wp2_with fail;go_loopw [3,23] (fun s3 s23 wq=>∃i:Nat,i≤L.length∧s23= .int .i64 i∧dw wq w.heap.size s3 (dZ H k++bI key L i)∧Below w.heap.size w wq∧Agree (fun b=>w.heap.size≤b∧b<wk.heap.size) wk wq∧Agree (fun b=>Wo.heap.size≤b∧b<wl.heap.size) wl wq∧wl.heap.size≤wq.heap.size∧Hid (∀g,s3.ownBlock=some g→wk.heap.size≤g∧(g<Wo.heap.size∨wl.heap.size≤g))) (fun _ s23 _=>L.length-(intOf s23).toNat);case atStart=>exact⟨0,Nat.zero_le _,by go_num,by simpa[bI]using hown2,hb2,ML,Agree.refl _ _,Nat.le_refl _,hide fun g hg=>⟨jc.out g hg,.inl (hlt2.out g hg)⟩⟩
   case round=>
    clear hown2 hb2 ML hlt2 jc;obtain⟨Wp,rfl⟩:∃Wp,Wp=wr:=⟨_,rfl⟩;obtain⟨i,hi,rfl,hown,hb,hag,BX,Hu,jc⟩:=hrel;have hj1:(0:Int)≤(i:Int):=Int.natCast_nonneg _;by_cases hil:i<L.length
    ·have hj2:(i:Int)<(L.length:Int):=(by omega);obtain⟨bl,ol,rfl,_,hcl⟩:=(hLS.out.keep BX (fun b h=>h)).at_ (i:=i) (by rw[aN];exact hil);rw[iF hil]at hcl;have MO:=hide (hpi.out i hil);have hdl:(L.drop (i+1)).length=L.length-(i+1):=List.length_drop;have rW:=hpl.out i;have hlen3:i*L.length≤32*32:=Nat.mul_le_mul (by omega) (by omega);generalize L[i]=a at*;have hle:i+1≤L.length:=(by omega);have hle3:(i:Int)+1≤(L.length:Int):=(by omega);have QW:L.length≤cl:=by
      obtain⟨_,_,e,h2⟩:=SlR.len hLS.out;injection e with e1 e2 e3
      rw[aN]at h2;omega
     by_cases hcap:cl=i+1
     ·have hLi:L.length=i+1:=(by omega);have hd0:L.drop (i+1)=[]:=List.drop_of_length_le (by omega);have hown3:Hid (dw Wp w.heap.size u3 (dZ H k++bI key L (i+1))):=hide (by rw[MO.out,hd0,List.map_nil,List.append_nil];exact hown);have hz0:L.length-(i+1)=0:=(by omega);clear hd0 QW;replace hown:=hide hown;subst hcap;go_wp2_with fail
      go_loop [3,33] (fun s3 s33=>s33= .int .i64 0∧dw Wp w.heap.size s3 (dZ H k++bI key L (i+1))∧Hid (∀g,s3.ownBlock=some g→wk.heap.size≤g∧(g<Wo.heap.size∨wl.heap.size≤g))) (fun _ _=>0)
      case atStart=>exact⟨rfl,hown3.out,jc⟩
      case round=>
       clear hown3 jc;obtain⟨rfl,hown3,jc⟩:=hrel;go_wp2;go_roundw;case rel=>exact⟨i+1,by omega,by go_num,hown3,hb,hag,BX,Hu,jc⟩
       case measure=>simp[intOf];omega
     ·go_wp2_with fail;have hdo:=hide (fun j (hj:j<L.length-(i+1))=>(show i+1+j<L.length by omega));go_loopw [3,33] (fun s3 s33 wq=>∃j:Nat,j≤L.length-(i+1)∧s33= .int .i64 j∧dw wq w.heap.size s3 (dZ H k++bI key L i++((L.drop (i+1)).take j).map fun(b:Nat)=>(⟨key,(a:Nat),b⟩:Cho))∧Below w.heap.size w wq∧Agree (fun b=>w.heap.size≤b∧b<wk.heap.size) wk wq∧Agree (fun b=>Wo.heap.size≤b∧b<wl.heap.size) wl wq∧wl.heap.size≤wq.heap.size∧Hid (∀g,s3.ownBlock=some g→wk.heap.size≤g∧(g<Wo.heap.size∨wl.heap.size≤g))) (fun _ s33 _=>(L.length-(i+1))-(intOf s33).toNat);case atStart=>exact⟨0,Nat.zero_le _,by go_num,by simpa using hown,hb,hag,BX,Hu,jc⟩
      case round=>
       clear hown hb hag BX Hu jc hcl;obtain⟨j,hj,rfl,hown,hb,hag,BX,Hu,jc⟩:=hrel;have hjj:(0:Int)≤(j:Int):=Int.natCast_nonneg _;by_cases hjl:j<L.length-(i+1)
       ·have hj3:(j:Int)<((L.length-(i+1):Nat):Int):=(by omega);have hix:=hdo.out j hjl;obtain⟨_,_,e,_,hcj⟩:=(hLS.out.keep BX (fun b h=>h)).at_ (i:=i+1+j) (by rw[aN];exact hix);injection e with e
        injection e with e1 e2
        subst e1 e2;rw[iF hix,←Nat.add_assoc]at hcj;have hdj:Hid (((L.drop (i+1)).take (j+1))=(L.drop (i+1)).take j++[L[i+1+j]]):=hide (by rw[take_snoc' (by rw[hdl];exact hjl),List.getElem_drop]);have hjn:((L.drop (i+1)).take j).length≤32:=(by rw[List.length_take,hdl];omega);have PS:(dZ H k).length≤16384:=(by omega);have Sg:(dZ H k++bI key L i++((L.drop (i+1)).take j).map fun(b:Nat)=>(⟨key,(a:Nat),b⟩:Cho)).length≤20000:=by
         rw[List.length_append,List.length_append,List.length_map];omega
        obtain⟨Av,cv,rfl⟩:=hown.form;generalize hM:(dZ H k++bI key L i++((L.drop (i+1)).take j).map fun(b:Nat)=>(⟨key,(a:Nat),b⟩:Cho))=M at*;generalize L[i+1+j]=y at*;have hM2:Hid ((dZ H k++bI key L i++((L.drop (i+1)).take (j+1)).map fun(b:Nat)=>(⟨key,(a:Nat),b⟩:Cho))=M++[⟨key,a,y⟩]):=hide (by rw[hdj.out,List.map_append,←List.append_assoc,hM];rfl);have qN:=hb.size;clear hM hjn PS hdj;replace hown:=hide hown;go_wp2_with (at_builtin;refine aT (enc:=jJ) rfl (.tmp 37) (.tmp 42) 65 rfl w.heap.size 102 ic _ 3 24 Tryz.underlying65 hic hi1 hi2 hi3 rfl (by decide) (.slice Av M.length cv) M rfl hown.out (fun _=>rfl) (⟨key,a,y⟩:Cho) _ rfl rfl iG (by simp[maxLen];omega) (by omega) qN w w.heap.size (Nat.le_refl _) hb ?_;intro v1 w6 hown1 hg1 hb1 ji);have hg6:=hg1.size;simp only[World.size_alloc]at hg6;have hA1:Agree (fun b=>w.heap.size≤b∧b<wk.heap.size) wk w6:=(hag.trans (Agree.alloc (fun b hb=>by omega) _)).trans (Agree.grown hg1 fun b hb=>⟨by simp;omega,fun e=>by have:=(jc.out b e.symm).1;omega⟩);have hA2:Agree (fun b=>Wo.heap.size≤b∧b<wl.heap.size) wl w6:=(BX.trans (Agree.alloc (fun b hb=>by omega) _)).trans (Agree.grown hg1 fun b hb=>⟨by simp;omega,fun e=>by have:=(jc.out b e.symm).2;omega⟩);go_wp2;go_roundw;case rel=>exact⟨j+1,by omega,by go_num,by rw[hM2.out];exact hown1,hb1,hA1,hA2,by omega,hide fun g hg=>by
         rcases ji with e|e
         ·rw[e]at hg;exact jc.out g hg
         ·rw[e]at hg;injection hg with hg;omega⟩
        case measure=>simp[intOf];omega
       ·obtain rfl:j=L.length-(i+1):=(by omega);rw[List.take_of_length_le (by rw[hdl];exact Nat.le_refl _),List.append_assoc,←MO.out]at hown;go_wp2;go_roundw;case rel=>exact⟨i+1,by omega,by go_num,hown,hb,hag,BX,Hu,jc⟩
        case measure=>simp[intOf];omega
    ·obtain rfl:i=L.length:=(by omega);rw[hpa.out,←hst.out]at hown;go_wp2;go_roundw;case rel=>exact⟨k+1,by omega,by go_num,hown,hb,hag,by omega,hide fun g hg=>(jc.out g hg).1⟩
     case measure=>simp[intOf];omega
  ·obtain rfl:k=KL.length:=(by omega);rw[hall.out]at hown;go_wp2;go_ret;exact⟨_,rfl,hown,hb⟩
set_option maxHeartbeats 2000000
def uj{α:Type}(p:α→Bool)(l:List α):Int:=match l.findIdx? p with|some k=>k|none=> -1
theorem jK{α:Type}{p:α→Bool}{l:List α}{k:Nat}(hk:k<l.length)(h:p l[k]=true)(h0:∀j (hj:j<l.length),j<k→p l[j]=false):uj p l=k:=by
 unfold uj;have:l.findIdx? p=some k:=by
  rw[List.findIdx?_eq_some_iff_getElem];exact⟨hk,h,fun j hj=>by rw[h0 j (by omega) hj];simp⟩
 rw[this]
theorem iQ{α:Type}{p:α→Bool}{l:List α}(h0:∀j (hj:j<l.length),p l[j]=false):uj p l= -1:=by
 unfold uj;have:l.findIdx? p=none:=by
  rw[List.findIdx?_eq_none_iff];intro y hy;obtain⟨j,hj,rfl⟩:=List.getElem_of_mem hy;exact h0 j hj
 rw[this]
theorem jL{α:Type}(p:α→Bool)(l:List α):decide (0≤uj p l)=l.any p:=by
 unfold uj;cases hf:l.findIdx? p with
 |none=>
  rw[List.findIdx?_eq_none_iff]at hf;have:l.any p=false:=(by rw[List.any_eq_false];intro x hx;rw[hf x hx];simp);rw[this];rfl
 |some k=>
  rw[List.findIdx?_eq_some_iff_getElem]at hf;obtain⟨h1,h2,_⟩:=hf;have:l.any p=true:=List.any_eq_true.2 ⟨_,List.getElem_mem h1,h2⟩;rw[this];simp
set_option maxRecDepth 100000 in
theorem Ej (f:Nat) (hf:∀args w,(callFunc f args).run Tryz.prog w= .ok (.enter f args) w) (lb:Array Value) (p:Cho→Bool) (A:Option Addr) (c:Nat) (l:List Cho) (w:World) (h:bq w (Old w) (.slice A l.length c) l) (hl:l.length≤1000000000)
 (hp:∀W,Below w.heap.size w W→∀x∈l,Calls Tryz.prog f (#[.agg #[.int .i64 x.key,.int .i64 x.a,.int .i64 x.b]]++lb) W fun e W'=>e= .returned (.bool (p x))∧Below W.heap.size W W'):
 Calls Tryz.prog 202 #[.slice A l.length c,.func (.func f) #[] lb] w fun e w'=>e= .returned (.int .i64 (uj p l))∧Below w.heap.size w w':=by
 have hhit:=hide (fun k=>jK (p:=p) (l:=l) (k:=k));have hnone:=hide (iQ (p:=p) (l:=l));replace h:=hide h;replace hp:=hide hp;go_enter Tryz.func202,Tryz.ntmps202;go_wp2_with fail;go_loopw [8] (fun s8 wr=>∃k:Nat,k≤l.length∧s8= .int .i64 k∧Hid (∀j (hj:j<l.length),j<k→p l[j]=false)∧Below w.heap.size w wr) (fun s8 _=>l.length-(intOf s8).toNat);case atStart=>exact⟨0,Nat.zero_le _,by go_num,fun j hj h=>absurd h (by omega),Below.refl _ _⟩
 case round=>
  obtain⟨k,hk,rfl,hall,hb⟩:=hrel;have hk1:(0:Int)≤(k:Int):=Int.natCast_nonneg _;by_cases hlt:k<l.length
  ·have hi2:(k:Int)<(l.length:Int):=(by omega);obtain⟨b,off,rfl,_,d0,d1,d2⟩:=(h.out.below hb).at_ hlt;have hcall:=hide (hp.out _ hb _ (List.getElem_mem hlt));have hh:=hide (fun g=>hhit.out k hlt g hall.out);have hst:Hid (p l[k]=false→∀j (hj:j<l.length),j<k+1→p l[j]=false):=fun g j hj hjk=>by
    by_cases e:j=k
    ·subst e;exact g
    ·exact hall.out j hj (by omega)
   clear hall;generalize l[k]=x at*;go_wp2_with fail;refine hcall.out.mono ?_;rintro e W2 ⟨rfl,hb2⟩;have hb3:=hb.trans (hb2.mono hb.size);cases hpx:p x with
   |true=>
    have hr:=hide (hh.out hpx);clear hpx hh hst hcall;go_wp2;go_ret;exact⟨dP hr.out.symm,hb3⟩
   |false=>
    have hr:=hide (hst.out hpx);clear hpx hh hst hcall;go_wp2;go_roundw;case rel=>exact⟨k+1,by omega,by go_num,hr,hb3⟩
    case measure=>simp[intOf];omega
  ·have hr:=hide (hnone.out fun j hj=>hall.out j hj (by omega));go_wp2;go_ret;exact⟨dP hr.out.symm,hb⟩
theorem yS (f:Nat) (hf:∀args w,(callFunc f args).run Tryz.prog w= .ok (.enter f args) w) (lb:Array Value) (p:Cho→Bool) (A:Option Addr) (c:Nat) (l:List Cho) (w:World) (h:bq w (Old w) (.slice A l.length c) l) (hl:l.length≤1000000000)
 (hp:∀W,Below w.heap.size w W→∀x∈l,Calls Tryz.prog f (#[.agg #[.int .i64 x.key,.int .i64 x.a,.int .i64 x.b]]++lb) W fun e W'=>e= .returned (.bool (p x))∧Below W.heap.size W W'):
 Calls Tryz.prog 146 #[.slice A l.length c,.func (.func f) #[] lb] w fun e w'=>e= .returned (.bool (l.any p))∧Below w.heap.size w w':=by
 have hd:=hide (jL p l);have hcall:=hide (Ej f hf lb p A c l w h hl hp);clear hp hf h;go_enter Tryz.func146,Tryz.ntmps146;go_wp2_with fail;refine hcall.out.mono ?_;rintro e w1 ⟨rfl,hb⟩;clear hcall;go_wp2;go_ret;exact⟨by rw[←hd.out];rfl,hb⟩
theorem El(A:Option Addr)(c:Nat)(l:List It)(xa xb:Int)(w:World)(h:ItS w (Old w) (.slice A l.length c) l)(hl:l.length≤1000000000):
 Calls Tryz.prog 227 #[.slice A l.length c,.agg #[.int .i64 xa,.int .i64 xb]] w fun e w'=>e= .returned (.int .i64 (uj (fun x:It=>decide (x.a=xa)&&decide (x.b=xb)) l))∧Below w.heap.size w w':=by
 have hhit:=hide (fun k=>jK (p:=fun x:It=>decide (x.a=xa)&&decide (x.b=xb)) (l:=l) (k:=k));have hnone:=hide (iQ (p:=fun x:It=>decide (x.a=xa)&&decide (x.b=xb)) (l:=l));obtain⟨W0,hW0⟩:∃W0,w.alloc (.cells #[.int .i64 xa,.int .i64 xb] 106)=W0:=⟨_,rfl⟩;have hB:=ah (Below.refl w.heap.size w) hW0 (Nat.le_refl _);have k0:=Blk.newEq hW0;replace h:=hide h;go_enter Tryz.func227,Tryz.ntmps227;go_wp2_with fail;clear hW0;go_loopw [8] (fun s8 wr=>∃k:Nat,k≤l.length∧s8= .int .i64 k∧Hid (∀j (hj:j<l.length),j<k→(decide (l[j].a=xa)&&decide (l[j].b=xb))=false)∧Below w.heap.size w wr∧Blk wr w.heap.size 106 #[.int .i64 xa,.int .i64 xb]) (fun s8 _=>l.length-(intOf s8).toNat);case atStart=>exact⟨0,Nat.zero_le _,by go_num,fun j hj h=>absurd h (by omega),hB,k0⟩
 case round=>
  clear k0 hB;obtain⟨k,hk,rfl,hall,hb,k0⟩:=hrel;have hk1:(0:Int)≤(k:Int):=Int.natCast_nonneg _;by_cases hlt:k<l.length
  ·have hi2:(k:Int)<(l.length:Int):=(by omega);obtain⟨b,off,rfl,_,d0,d1⟩:=(h.out.below hb).at_ hlt;have hh:=hide (fun g=>hhit.out k hlt g hall.out);have hst:Hid ((decide (l[k].a=xa)&&decide (l[k].b=xb))=false→∀j (hj:j<l.length),j<k+1→(decide (l[j].a=xa)&&decide (l[j].b=xb))=false):=fun g j hj hjk=>by
    by_cases e:j=k
    ·subst e;exact g
    ·exact hall.out j hj (by omega)
   have c0:=Blk.n0 k0;have c1:=Blk.n1 k0;clear hall;generalize l[k]=x at*;obtain⟨ya,yb⟩:=x;dsimp only at*;by_cases q1:xa=ya
   ·by_cases q2:xb=yb
    ·have q1b:(xa==ya)=true:=(by simpa using q1);have q2b:(xb==yb)=true:=(by simpa using q2);have hr:=hide (hh.out (by simp[q1,q2]));clear q1 q2 hh hst;go_wp2;go_quiet (fail);go_wp2;go_ret;exact⟨dP hr.out.symm,hb.trans ⟨rfl,rfl,rfl,Nat.le_refl _,fun _ _=>rfl⟩⟩
    ·have q1b:(xa==ya)=true:=(by simpa using q1);have q2b:(xb==yb)=false:=(by simpa using q2);have hr:=hide (hst.out (by simp;intro _ e;exact q2 e.symm));clear q1 q2 hh hst;go_wp2;go_quiet (fail);go_wp2;go_roundw;case rel=>exact⟨k+1,by omega,by go_num,hr,hb.trans ⟨rfl,rfl,rfl,Nat.le_refl _,fun _ _=>rfl⟩,k0⟩
     case measure=>simp[intOf];omega
   ·have q1b:(xa==ya)=false:=(by simpa using q1);have hr:=hide (hst.out (by simp;intro e;exact absurd e.symm q1));clear q1 hh hst;go_wp2;go_quiet (fail);go_wp2;go_roundw;case rel=>exact⟨k+1,by omega,by go_num,hr,hb.trans ⟨rfl,rfl,rfl,Nat.le_refl _,fun _ _=>rfl⟩,k0⟩
    case measure=>simp[intOf];omega
  ·have hr:=hide (hnone.out fun j hj=>hall.out j hj (by omega));go_wp2;go_ret;exact⟨dP hr.out.symm,hb⟩
theorem qy(A:Option Addr)(c:Nat)(l:List It)(xa xb:Int)(w:World)(h:ItS w (Old w) (.slice A l.length c) l)(hl:l.length≤1000000000):
 Calls Tryz.prog 169 #[.slice A l.length c,.agg #[.int .i64 xa,.int .i64 xb]] w fun e w'=>e= .returned (.bool (l.any fun x=>decide (x.a=xa)&&decide (x.b=xb)))∧Below w.heap.size w w':=by
 have hd:=hide (jL (fun x:It=>decide (x.a=xa)&&decide (x.b=xb)) l);obtain⟨W0,hW0⟩:∃W0,w.alloc (.cells #[.int .i64 xa,.int .i64 xb] 106)=W0:=⟨_,rfl⟩;have hB:=ah (Below.refl w.heap.size w) hW0 (Nat.le_refl _);have h0:=h.below hB;have hcall:=hide (El A c l xa xb W0 h0 hl);have k0:=Blk.newEq hW0;clear h h0;have c0:=Blk.n0 k0;have c1:=Blk.n1 k0;go_enter Tryz.func169,Tryz.ntmps169;go_wp2_with fail;clear hW0;refine hcall.out.mono ?_;rintro e w1 ⟨rfl,hb⟩;have hb2:=hB.trans (hb.mono hB.size);clear hcall;go_wp2;go_ret;exact⟨by rw[←hd.out];rfl,hb2⟩
def vI(w:World)(K:Nat→Prop)(v:Value)(l:List (Value×Bool)):Prop:=SlR 1 (Flat fun x:Value×Bool=>[x.1]) w K v l
theorem vI.below{w w':World}{v:Value}{l:List (Value×Bool)}(h:vI w (Old w) v l)(hb:Below w.heap.size w w'):vI w' (Old w') v l:=SlR.below (Flat.bE _) h hb
theorem vI.at_{w:World}{K:Nat→Prop}{A:Option Addr}{n c:Nat}{l:List (Value×Bool)}(h:vI w K (.slice A n c) l){i:Nat}(hi:i<l.length):
 ∃b off,A=some ⟨b,off,none⟩∧K b∧w.cell? ⟨b,off+i,none⟩=some l[i].1:=by
 obtain⟨b,off,cs,hA,hK,_,hR,hc⟩:=SlR.at_ h hi;unfold Flat at hR;subst hR;have:=hc 0 _ rfl;rw[Nat.mul_one,Nat.add_zero]at this;exact⟨b,off,hA,hK,this⟩
set_option maxRecDepth 100000 in
theorem BZ (f:Nat) (hf:∀args w,(callFunc f args).run Tryz.prog w= .ok (.enter f args) w) (lb:Array Value) (p:It→Bool) (A:Option Addr) (c:Nat) (l:List (It)) (w:World) (h:ItS w (Old w) (.slice A l.length c) l) (hl:l.length≤1000000000)
 (hp:∀W,Below w.heap.size w W→∀x∈l,Calls Tryz.prog f (#[.agg #[.int .i64 x.a,.int .i64 x.b]]++lb) W fun e W'=>e= .returned (.bool (p x))∧Below W.heap.size W W'):
 Calls Tryz.prog 257 #[.slice A l.length c,.func (.func f) #[] lb] w fun e w'=>e= .returned (.int .i64 (uj p l))∧Below w.heap.size w w':=by
 have hhit:=hide (fun k=>jK (p:=p) (l:=l) (k:=k));have hnone:=hide (iQ (p:=p) (l:=l));replace h:=hide h;replace hp:=hide hp;go_enter Tryz.func257,Tryz.ntmps257;go_wp2_with fail;go_loopw [8] (fun s8 wr=>∃k:Nat,k≤l.length∧s8= .int .i64 k∧Hid (∀j (hj:j<l.length),j<k→p l[j]=false)∧Below w.heap.size w wr) (fun s8 _=>l.length-(intOf s8).toNat);case atStart=>exact⟨0,Nat.zero_le _,by go_num,fun j hj h=>absurd h (by omega),Below.refl _ _⟩
 case round=>
  obtain⟨k,hk,rfl,hall,hb⟩:=hrel;have hk1:(0:Int)≤(k:Int):=Int.natCast_nonneg _;by_cases hlt:k<l.length
  ·have hi2:(k:Int)<(l.length:Int):=(by omega);obtain⟨b,off,rfl,_,d0,d1⟩:=(h.out.below hb).at_ hlt;have hcall:=hide (hp.out _ hb _ (List.getElem_mem hlt));have hh:=hide (fun g=>hhit.out k hlt g hall.out);have hst:Hid (p l[k]=false→∀j (hj:j<l.length),j<k+1→p l[j]=false):=fun g j hj hjk=>by
    by_cases e:j=k
    ·subst e;exact g
    ·exact hall.out j hj (by omega)
   clear hall;generalize l[k]=x at*;go_wp2_with fail;refine hcall.out.mono ?_;rintro e W2 ⟨rfl,hb2⟩;have hb3:=hb.trans (hb2.mono hb.size);cases hpx:p x with
   |true=>
    have hr:=hide (hh.out hpx);clear hpx hh hst hcall;go_wp2;go_ret;exact⟨dP hr.out.symm,hb3⟩
   |false=>
    have hr:=hide (hst.out hpx);clear hpx hh hst hcall;go_wp2;go_roundw;case rel=>exact⟨k+1,by omega,by go_num,hr,hb3⟩
    case measure=>simp[intOf];omega
  ·have hr:=hide (hnone.out fun j hj=>hall.out j hj (by omega));go_wp2;go_ret;exact⟨dP hr.out.symm,hb⟩
theorem oH (f:Nat) (hf:∀args w,(callFunc f args).run Tryz.prog w= .ok (.enter f args) w) (lb:Array Value) (p:It→Bool) (A:Option Addr) (c:Nat) (l:List (It)) (w:World) (h:ItS w (Old w) (.slice A l.length c) l) (hl:l.length≤1000000000)
 (hp:∀W,Below w.heap.size w W→∀x∈l,Calls Tryz.prog f (#[.agg #[.int .i64 x.a,.int .i64 x.b]]++lb) W fun e W'=>e= .returned (.bool (p x))∧Below W.heap.size W W'):
 Calls Tryz.prog 217 #[.slice A l.length c,.func (.func f) #[] lb] w fun e w'=>e= .returned (.bool (l.any p))∧Below w.heap.size w w':=by
 have hd:=hide (jL p l);have hcall:=hide (BZ f hf lb p A c l w h hl hp);clear hp hf h;go_enter Tryz.func217,Tryz.ntmps217;go_wp2_with fail;refine hcall.out.mono ?_;rintro e w1 ⟨rfl,hb⟩;clear hcall;go_wp2;go_ret;exact⟨by rw[←hd.out];rfl,hb⟩
set_option maxRecDepth 100000 in
theorem Ca (f:Nat) (hf:∀args w,(callFunc f args).run Tryz.prog w= .ok (.enter f args) w) (lb:Array Value) (p:Cho→Bool) (A:Option Addr) (c:Nat) (l:List (Cho)) (w:World) (h:bq w (Old w) (.slice A l.length c) l) (hl:l.length≤1000000000)
 (hp:∀W,Below w.heap.size w W→∀x∈l,Calls Tryz.prog f (#[.agg #[.int .i64 x.key,.int .i64 x.a,.int .i64 x.b]]++lb) W fun e W'=>e= .returned (.bool (p x))∧Below W.heap.size W W'):
 Calls Tryz.prog 301 #[.slice A l.length c,.func (.func f) #[] lb] w fun e w'=>e= .returned (.int .i64 (uj p l))∧Below w.heap.size w w':=by
 have hhit:=hide (fun k=>jK (p:=p) (l:=l) (k:=k));have hnone:=hide (iQ (p:=p) (l:=l));replace h:=hide h;replace hp:=hide hp;go_enter Tryz.func301,Tryz.ntmps301;go_wp2_with fail;go_loopw [8] (fun s8 wr=>∃k:Nat,k≤l.length∧s8= .int .i64 k∧Hid (∀j (hj:j<l.length),j<k→p l[j]=false)∧Below w.heap.size w wr) (fun s8 _=>l.length-(intOf s8).toNat);case atStart=>exact⟨0,Nat.zero_le _,by go_num,fun j hj h=>absurd h (by omega),Below.refl _ _⟩
 case round=>
  obtain⟨k,hk,rfl,hall,hb⟩:=hrel;have hk1:(0:Int)≤(k:Int):=Int.natCast_nonneg _;by_cases hlt:k<l.length
  ·have hi2:(k:Int)<(l.length:Int):=(by omega);obtain⟨b,off,rfl,_,d0,d1,d2⟩:=(h.out.below hb).at_ hlt;have hcall:=hide (hp.out _ hb _ (List.getElem_mem hlt));have hh:=hide (fun g=>hhit.out k hlt g hall.out);have hst:Hid (p l[k]=false→∀j (hj:j<l.length),j<k+1→p l[j]=false):=fun g j hj hjk=>by
    by_cases e:j=k
    ·subst e;exact g
    ·exact hall.out j hj (by omega)
   clear hall;generalize l[k]=x at*;go_wp2_with fail;refine hcall.out.mono ?_;rintro e W2 ⟨rfl,hb2⟩;have hb3:=hb.trans (hb2.mono hb.size);cases hpx:p x with
   |true=>
    have hr:=hide (hh.out hpx);clear hpx hh hst hcall;go_wp2;go_ret;exact⟨dP hr.out.symm,hb3⟩
   |false=>
    have hr:=hide (hst.out hpx);clear hpx hh hst hcall;go_wp2;go_roundw;case rel=>exact⟨k+1,by omega,by go_num,hr,hb3⟩
    case measure=>simp[intOf];omega
  ·have hr:=hide (hnone.out fun j hj=>hall.out j hj (by omega));go_wp2;go_ret;exact⟨dP hr.out.symm,hb⟩
theorem xg (f:Nat) (hf:∀args w,(callFunc f args).run Tryz.prog w= .ok (.enter f args) w) (lb:Array Value) (p:Cho→Bool) (A:Option Addr) (c:Nat) (l:List (Cho)) (w:World) (h:bq w (Old w) (.slice A l.length c) l) (hl:l.length≤1000000000)
 (hp:∀W,Below w.heap.size w W→∀x∈l,Calls Tryz.prog f (#[.agg #[.int .i64 x.key,.int .i64 x.a,.int .i64 x.b]]++lb) W fun e W'=>e= .returned (.bool (p x))∧Below W.heap.size W W'):
 Calls Tryz.prog 298 #[.slice A l.length c,.func (.func f) #[] lb] w fun e w'=>e= .returned (.bool (l.any p))∧Below w.heap.size w w':=by
 have hd:=hide (jL p l);have hcall:=hide (Ca f hf lb p A c l w h hl hp);clear hp hf h;go_enter Tryz.func298,Tryz.ntmps298;go_wp2_with fail;refine hcall.out.mono ?_;rintro e w1 ⟨rfl,hb⟩;clear hcall;go_wp2;go_ret;exact⟨by rw[←hd.out];rfl,hb⟩
set_option maxRecDepth 100000 in
theorem Cb (f:Nat) (hf:∀args w,(callFunc f args).run Tryz.prog w= .ok (.enter f args) w) (lb:Array Value) (p:Value×Bool→Bool) (A:Option Addr) (c:Nat) (l:List (Value×Bool)) (w:World) (h:vI w (Old w) (.slice A l.length c) l) (hl:l.length≤1000000000)
 (hp:∀W,Below w.heap.size w W→∀x∈l,Calls Tryz.prog f (#[x.1]++lb) W fun e W'=>e= .returned (.bool (p x))∧Below W.heap.size W W'):
 Calls Tryz.prog 277 #[.slice A l.length c,.func (.func f) #[] lb] w fun e w'=>e= .returned (.int .i64 (uj p l))∧Below w.heap.size w w':=by
 have hhit:=hide (fun k=>jK (p:=p) (l:=l) (k:=k));have hnone:=hide (iQ (p:=p) (l:=l));replace h:=hide h;replace hp:=hide hp;go_enter Tryz.func277,Tryz.ntmps277;go_wp2_with fail;go_loopw [8] (fun s8 wr=>∃k:Nat,k≤l.length∧s8= .int .i64 k∧Hid (∀j (hj:j<l.length),j<k→p l[j]=false)∧Below w.heap.size w wr) (fun s8 _=>l.length-(intOf s8).toNat);case atStart=>exact⟨0,Nat.zero_le _,by go_num,fun j hj h=>absurd h (by omega),Below.refl _ _⟩
 case round=>
  obtain⟨k,hk,rfl,hall,hb⟩:=hrel;have hk1:(0:Int)≤(k:Int):=Int.natCast_nonneg _;by_cases hlt:k<l.length
  ·have hi2:(k:Int)<(l.length:Int):=(by omega);obtain⟨b,off,rfl,_,d0⟩:=(h.out.below hb).at_ hlt;have hcall:=hide (hp.out _ hb _ (List.getElem_mem hlt));have hh:=hide (fun g=>hhit.out k hlt g hall.out);have hst:Hid (p l[k]=false→∀j (hj:j<l.length),j<k+1→p l[j]=false):=fun g j hj hjk=>by
    by_cases e:j=k
    ·subst e;exact g
    ·exact hall.out j hj (by omega)
   clear hall;generalize l[k]=x at*;go_wp2_with fail;refine hcall.out.mono ?_;rintro e W2 ⟨rfl,hb2⟩;have hb3:=hb.trans (hb2.mono hb.size);cases hpx:p x with
   |true=>
    have hr:=hide (hh.out hpx);clear hpx hh hst hcall;go_wp2;go_ret;exact⟨dP hr.out.symm,hb3⟩
   |false=>
    have hr:=hide (hst.out hpx);clear hpx hh hst hcall;go_wp2;go_roundw;case rel=>exact⟨k+1,by omega,by go_num,hr,hb3⟩
    case measure=>simp[intOf];omega
  ·have hr:=hide (hnone.out fun j hj=>hall.out j hj (by omega));go_wp2;go_ret;exact⟨dP hr.out.symm,hb⟩
theorem xq (f:Nat) (hf:∀args w,(callFunc f args).run Tryz.prog w= .ok (.enter f args) w) (lb:Array Value) (p:Value×Bool→Bool) (A:Option Addr) (c:Nat) (l:List (Value×Bool)) (w:World) (h:vI w (Old w) (.slice A l.length c) l) (hl:l.length≤1000000000)
 (hp:∀W,Below w.heap.size w W→∀x∈l,Calls Tryz.prog f (#[x.1]++lb) W fun e W'=>e= .returned (.bool (p x))∧Below W.heap.size W W'):
 Calls Tryz.prog 273 #[.slice A l.length c,.func (.func f) #[] lb] w fun e w'=>e= .returned (.bool (l.any p))∧Below w.heap.size w w':=by
 have hd:=hide (jL p l);have hcall:=hide (Cb f hf lb p A c l w h hl hp);clear hp hf h;go_enter Tryz.func273,Tryz.ntmps273;go_wp2_with fail;refine hcall.out.mono ?_;rintro e w1 ⟨rfl,hb⟩;clear hcall;go_wp2;go_ret;exact⟨by rw[←hd.out];rfl,hb⟩
end Go.Proofs.YtfhnamomiaekdaaGreatDoor
namespace Go.Inq
def vJ(H:List Txn)(x y:Nat):Bool:=(aL H y).reads.any fun r=>decide (r.b=(x:Int))
def jM(H:List Txn)(x y:Nat)(c:Cho):Bool:=decide (c.a=(x:Int))&&decide (c.b=(y:Int))&&decide (x≠y)&&(aL H x).writes.contains c.key&&(aL H y).writes.contains c.key
def lM(H:List Txn)(l:List Cho)(x y:Nat):Bool:=l.any (jM H x y)
def jN(H:List Txn)(l:List Cho)(y:Nat)(r:It):Bool:=(aL H y).writes.contains r.a&&(decide (r.b<0)||(decide (r.b≠(y:Int))&&l.any fun c=>decide (c=⟨r.a,r.b,y⟩)))
def oI(H:List Txn)(l:List Cho)(x y:Nat):Bool:=decide (x≠y)&&(aL H x).reads.any (jN H l y)
def Om(H:List Txn)(l:List Cho)(x y:Nat):Bool:=soE H x y||vJ H x y||lM H l x y
def nP(H:List Txn)(x y:Int):Bool:=aC H&&decide (0≤x)&&decide (x<(H.length:Int))&&decide (0≤y)&&decide (y<(H.length:Int))
def aK(H:List Txn)(l:List Cho)(x y:Int):Bool:=nP H x y&&Om H l x.toNat y.toNat
def eX(H:List Txn)(l:List Cho)(x y:Int):Bool:=nP H x y&&oI H l x.toNat y.toNat
def isB(H:List Txn)(level:Int)(l:List Cho)(x y:Int):Bool:=
 if level=0 then aK H l x y||eX H l x y
 else if level=1 then(List.range H.length).any fun m=>aK H l x (m:Int)&&(decide ((m:Int)=y)||eX H l (m:Int) y)
 else false
def kD(H:List Txn)(level:Int)(l:List Cho)(row:List Int):Bool:=
 decide (0<row.length)&&(List.range row.length).all fun i=> !(row.take i).contains (row.getD i 0)&&isB H level l (row.getD i 0) (row.getD ((i+1)%row.length) 0)
theorem oJ{H:List Txn}{x y:Int}:nP H x y=true↔aC H=true∧∃a b:Nat,x=a∧y=b∧a<H.length∧b<H.length:=by
 unfold nP;simp only[Bool.and_eq_true,decide_eq_true_eq];constructor
 ·rintro⟨⟨⟨⟨h1,h2⟩,h3⟩,h4⟩,h5⟩;exact⟨h1,x.toNat,y.toNat,by omega,by omega,by omega,by omega⟩
 ·rintro⟨h1,a,b,rfl,rfl,h2,h3⟩;exact⟨⟨⟨⟨h1,by omega⟩,by omega⟩,by omega⟩,by omega⟩
end Go.Inq
namespace Go.Proofs.YtfhnamomiaekdaaGreatDoor
open Go.RowKit Go.Inq
set_option maxHeartbeats 4000000
attribute [local go_sem↓] Go.wp_at_zero Go.wp_at_succ
theorem sw(A:Option Addr)(c:Nat)(H:List Txn)(hn:aB H)(t key:Int)(Bh:Nat)(w:World)(h:aF w (Old w) (.slice A H.length c) H)(hBh:w.cell? ⟨Bh,0,none⟩=some (.slice A H.length c)):
 Calls Tryz.prog 144 #[.int .i64 t,.int .i64 key,.pointer (some ⟨Bh,0,none⟩)] w fun e w'=>e= .returned (.bool (wrB H t key))∧w=w':=by
 have hlen:=hn.1;by_cases h0:0≤t
 ·have h0b:decide (t≥0)=true:=(by simpa using h0);by_cases h1:t<(H.length:Int)
  ·obtain⟨m,rfl⟩:∃m:Nat,t=m:=⟨t.toNat,by omega⟩;have hm:m<H.length:=(by omega);have hr:=hide (pJ (key:=key) hm);rw[aO hm]at hr;obtain⟨b,off,Aw,cw,Ar,cr,rfl,_,d0,d1,d2,hws,_⟩:=aF.at_ h hm;have hwl:=(hn.2 _ (List.getElem_mem hm)).1;generalize H[m]=x at*;obtain⟨ts,ws,rs⟩:=x;dsimp only at*;have hm1:decide (m<H.length)=true:=(by simpa using hm);have hm2:(0:Int)≤(m:Int):=Int.natCast_nonneg _;replace hn:=hide hn;clear h h0;go_enter Tryz.func144,Tryz.ntmps144;go_wp2_with fail;refine(gJ Aw cw ws key _ _ hws (by unfold maxLen;omega)).mono ?_;rintro e w3 ⟨rfl,rfl⟩;generalize ws.contains key=cb at*;go_wp2;go_ret;exact⟨by rw[hr.out];rfl,rfl⟩
  ·have hr:wrB H t key=false:=(by unfold wrB;simp;intro _ e;exact absurd e h1);have h1b:decide (t<(H.length:Int))=false:=(by simpa using h1);rw[hr];replace hn:=hide hn;clear h h0 h1 hr;go_enter Tryz.func144,Tryz.ntmps144;go_wp2;go_ret;exact⟨rfl,rfl⟩
 ·have hr:wrB H t key=false:=(by unfold wrB;simp;intro e;exact absurd e h0);have h0b:decide (t≥0)=false:=(by simpa using h0);rw[hr];replace hn:=hide hn;clear h h0 hr;go_enter Tryz.func144,Tryz.ntmps144;go_wp2;go_ret;exact⟨rfl,rfl⟩
theorem Hw(A:Option Addr)(c:Nat)(H:List Txn)(hn:aB H)(x:Cho)(Bh Bf:Nat)(w:World)(h:aF w (Old w) (.slice A H.length c) H)(hBh:w.cell? ⟨Bh,0,none⟩=some (.slice A H.length c))(hBf:w.cell? ⟨Bf,0,none⟩=some (.func (.func 144) #[] #[.pointer (some ⟨Bh,0,none⟩)])):
 Calls Tryz.prog 147 #[.agg #[.int .i64 x.key,.int .i64 x.a,.int .i64 x.b],.pointer (some ⟨Bf,0,none⟩)] w fun e w'=>e= .returned (.bool (!dB H x))∧Below w.heap.size w w':=by
 obtain⟨key,a,b⟩:=x;dsimp only;obtain⟨W0,hW0⟩:∃W0,w.alloc (.cells #[.int .i64 key,.int .i64 a,.int .i64 b] 102)=W0:=⟨_,rfl⟩;have hB:=ah (Below.refl w.heap.size w) hW0 (Nat.le_refl _);have k0:=Blk.newEq hW0;have PU:=(hB.cell (p:=⟨Bh,0,none⟩) (block_lt_of_cell hBh)).trans hBh;have Sl:=(hB.cell (p:=⟨Bf,0,none⟩) (block_lt_of_cell hBf)).trans hBf;have h2:=hide (h.below hB);have c0:=Blk.n0 k0;have c1:=Blk.n1 k0;have c2:=Blk.n2 k0;replace hn:=hide hn;clear h hBh hBf;by_cases h0:a=b
 ·have hr:dB H ⟨key,a,b⟩=false:=(by unfold dB;simp[h0]);have h0b:(a==b)=true:=(by simpa using h0);rw[hr];clear h0 hr;go_enter Tryz.func147,Tryz.ntmps147;go_wp2;go_ret;exact⟨rfl,hB⟩
 ·have hr:dB H ⟨key,a,b⟩=(wrB H a key&&wrB H b key):=(by unfold dB;simp[h0]);have h0b:(a==b)=false:=(by simpa using h0);rw[hr];clear h0 hr;go_enter Tryz.func147,Tryz.ntmps147;go_wp2_with fail;clear hW0;refine(sw A c H hn.out a key Bh _ h2.out PU).mono ?_;rintro e w1 ⟨rfl,rfl⟩;cases hw:wrB H a key with
  |false=>
   replace hw:=hide hw;go_wp2;go_ret;exact⟨by rw[hw.out];rfl,hB⟩
  |true=>
   replace hw:=hide hw;go_wp2_with fail;refine(sw A c H hn.out b key Bh _ h2.out PU).mono ?_;rintro e w1 ⟨rfl,rfl⟩;go_wp2;go_ret;exact⟨by rw[hw.out];rfl,hB⟩
set_option maxRecDepth 100000 in
theorem kI(A:Option Addr)(c:Nat)(H:List Txn)(Al:Option Addr)(cl:Nat)(l:List Cho)(w:World)(h:aF w (Old w) (.slice A H.length c) H)(hn:aB H)(hl:bq w (Old w) (.slice Al l.length cl) l)(hln:l.length≤1000000000):
 Calls Tryz.prog 80 #[.agg #[.slice A H.length c],.slice Al l.length cl] w fun e w'=>e= .returned (.bool (cB H l))∧Below w.heap.size w w':=by
 obtain⟨W0,hW0⟩:∃W0,w.alloc (.cells #[.slice A H.length c] 24)=W0:=⟨_,rfl⟩;have hB:=ah (Below.refl w.heap.size w) hW0 (Nat.le_refl _);have k0:=Blk.newEq hW0;have h2:=hide (h.below hB);have hl2:=hide (hl.below hB);have c0:=Blk.n0 k0;replace hn:=hide hn;have hs0:=aH hW0;replace hs0:=hide hs0;have hrc:Hid (cB H l=(aC H&&decide (l.length≤20000)&&l.all (dB H))):=hide rfl;have hal:Hid (l.all (dB H)= !(l.any fun x=> !dB H x)):=hide (by rw[Bool.eq_iff_iff];simp);clear h hl;go_enter Tryz.func80,Tryz.ntmps80;go_wp2_with fail;clear hW0 c0;refine(fF A c H _ h2.out hn.out).mono ?_;rintro e w1 ⟨rfl,hb1⟩;replace k0:=k0.below hb1 k0.lt;have hT1:=hide (h2.out.below hb1);have hC1:=hide (hl2.out.below hb1);have hb:=hB.trans (hb1.mono hB.size);clear hb1 hB h2 hl2;cases hr:aC H with
 |false=>
  rw[hr]at hrc;clear hr;go_wp2;go_ret;exact⟨by rw[hrc.out];rfl,hb⟩
 |true=>
  rw[hr]at hrc;clear hr;by_cases hm:l.length≤20000
  ·have hm1:decide ((l.length:Int)>20000)=false:=(by simp;omega);have hm2:decide (l.length≤20000)=true:=(by simpa using hm);rw[hm2]at hrc;obtain⟨W2,hW2⟩:∃W2,w1.alloc (.cells #[.func (.func 144) #[] #[.pointer (some ⟨w.heap.size,0,none⟩)]] 224)=W2:=⟨_,rfl⟩;have hB2:=ah (Below.refl w1.heap.size w1) hW2 (Nat.le_refl _);have kF:=Blk.newEq hW2;have hT2:=hT1.out.below hB2;have hC2:=hC1.out.below hB2;have k02:=k0.ay hW2;have hb2:=hb.trans (hB2.mono hb.size);have hcall:=hide (yS 147 (enters_of Tryz.func147 (by kernel_rfl) rfl) #[.pointer (some ⟨w1.heap.size,0,none⟩)] (fun x=> !dB H x) Al cl l W2 hC2 (by omega) (fun W hbW x _=>
    Hw A c H hn.out x w.heap.size w1.heap.size W (hT2.below hbW) (by have:=(k02.below hbW k02.lt).cell 0;simpa using this) (by have:=(kF.below hbW kF.lt).cell 0;simpa using this)))
   clear hm hm2 hB2 kF hT1 hC1 hT2 hC2 k0 k02;go_wp2_with fail;clear hW2;refine hcall.out.mono ?_;rintro e w3 ⟨rfl,hb3⟩;have hb4:=hb2.trans (hb3.mono hb2.size);clear hcall;go_wp2;go_ret;exact⟨by rw[hrc.out,hal.out];simp,hb4⟩
  ·have hm1:decide ((l.length:Int)>20000)=true:=(by simp;omega);have hm2:decide (l.length≤20000)=false:=(by simpa using hm);rw[hm2]at hrc;clear hm hm2;go_wp2;go_ret;exact⟨by rw[hrc.out];rfl,hb⟩
end Go.Proofs.YtfhnamomiaekdaaGreatDoor
