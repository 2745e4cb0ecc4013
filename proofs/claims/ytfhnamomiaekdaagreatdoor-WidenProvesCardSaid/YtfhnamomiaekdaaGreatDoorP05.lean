/-
  Walks: event.Right, and the references of layers 1 and 3 that tell whether an event may be.
-/
import Derived.Test.YtfhnamomiaekdaaGreatDoorProg
import Derived.Laws.BitsAllLaws
import Derived.Laws.Shifts
import Derived.Lib.TrailingZeros
import Derived.Laws.Bits64b
import Derived.Laws.CopyOwn
import Derived.Test.YtfhnamomiaekdaaGreatDoorP02
import Derived.Test.YtfhnamomiaekdaaGreatDoorP04
set_option linter.unusedVariables false
set_option linter.unusedSimpArgs false
namespace Go.Proofs.YtfhnamomiaekdaaGreatDoor
open Go.RowKit Go.Inq
set_option maxHeartbeats 400000
end Go.Proofs.YtfhnamomiaekdaaGreatDoor
namespace Go.Proofs.YtfhnamomiaekdaaGreatDoor
open Go.RowKit Go.Inq
set_option maxHeartbeats 1000000
attribute [local go_sem↓] Go.wp_at_zero Go.wp_at_succ
theorem zK(A A':Option Addr)(c c':Nat)(l l':List Int)(w:World)(h:aB w (Old w) (.slice A l.length c) l)(h':aB w (Old w) (.slice A' l'.length c') l')(hn:l.length≤1000000)(hn':l'.length≤1000000):
 Calls Tryz.prog 64 #[.slice A l.length c,.slice A' l'.length c'] w fun e w'=>e= .returned (.bool (decide (l=l')))∧Below w.heap.size w w':=by
 rcases Nat.decEq l.length l'.length with hlen|hlen;rotate_left
 ·rw[←hlen]at h'⊢;have xD:=hide hlen;clear hn' hlen;go_enter Tryz.func64,Tryz.ntmps64;go_wp2;go_loopw [5] (fun s5 wr=>∃i:Nat,i≤l.length∧s5= .int .i64 i∧Hid (∀j (hj:j<l.length) (hj':j<l'.length),j<i→l[j]=l'[j])∧Below w.heap.size w wr) (fun s5 _=>l.length-(intOf s5).toNat);case atStart=>exact⟨0,Nat.zero_le _,by go_num,fun j _ _ h=>absurd h (by omega),Below.refl _ _⟩
  case round=>
   obtain⟨i,hi,rfl,hall,hb⟩:=hrel;by_cases hlt:i<l.length
   ·have hlt':i<l'.length:=(by have:=xD.out;omega);have hw:=aB.below h hb;have hw':=aB.below h' hb;obtain⟨b,off,rfl,hbK,c0⟩:=aB.at_ hw hlt;obtain⟨b',off',rfl,QD,d0⟩:=aB.at_ hw' hlt';have hi1:(0:Int)≤(i:Int):=Int.natCast_nonneg _;have hi2:(i:Int)<(l.length:Int):=(by omega);by_cases he:l[i]=l'[i]
    ·have hstep:Hid (∀j (hj:j<l.length) (hj':j<l'.length),j<i+1→l[j]=l'[j]):=fun j hj hj' hji=>by
      by_cases hje:j=i
      ·subst hje;exact he
      ·exact hall.out j hj hj' (by omega)
     rw[←he]at d0;clear he;generalize l[i]=x at*;go_wp2;go_quiet (fail);go_wp2;go_roundw;case rel=>exact⟨i+1,by omega,by go_num,hstep,⟨hb.os,hb.tape,hb.output,hb.size,hb.block⟩⟩
     case measure=>simp[intOf];omega
    ·have hf:l≠l':=fun e=>he (by subst e;rfl);replace hf:=hide hf;have hne:(l[i] !=l'[i])=true:=(by simpa using he);clear he;generalize l[i]=x at*;generalize l'[i]=x' at*;go_wp2;go_quiet (fail);go_wp2;go_ret;exact⟨by simp[hf.out],⟨hb.os,hb.tape,hb.output,hb.size,hb.block⟩⟩
   ·have he:l=l':=List.ext_getElem xD.out (fun j h1 h2=>hall.out j h1 h2 (by omega));have:i=l.length:=(by omega);subst this;go_wp2;go_ret;exact⟨by simp[he],hb⟩
 ·have hf:l≠l':=fun e=>hlen (by rw[e]);go_enter Tryz.func64,Tryz.ntmps64;go_wp2;go_ret;exact⟨by simp[hf],Below.refl _ _⟩
def aG(l:List Txn):Prop:=l.length≤1000000∧∀t∈l,t.writes.length≤1000000∧t.reads.length≤1000000
end Go.Proofs.YtfhnamomiaekdaaGreatDoor
namespace Go.Proofs.YtfhnamomiaekdaaGreatDoor
open Go.RowKit Go.Inq Go.Shelf
set_option maxHeartbeats 4000000
attribute [local go_sem] Oper.semAt_some
attribute [local go_sem↓] Go.wp_at_zero Go.wp_at_succ
theorem zM(v:Value)(w:World):Calls Tryz.prog 125 #[.agg #[v]] w fun e w'=>e= .returned (.func (.func 190) #[] #[.pointer (some ⟨w.heap.size,0,none⟩)])∧w'=w.alloc (.cells #[v] 24):=by
 go_enter Tryz.func125,Tryz.ntmps125;go_wp2;go_ret;exact⟨rfl,rfl⟩
theorem wC(Bh n₀ c:Nat)(A:Option Addr)(H:List Txn)(hn:aG H)(w:World)(hBn:Bh<n₀)(hnW:n₀≤w.heap.size)(hc:w.cell? ⟨Bh,0,none⟩=some (.slice A H.length c))(hT:aA w (fun b=>b<n₀) (.slice A H.length c) H):
 SeqStopsK Fence.wide (3-1) Tryz.prog 190 #[.pointer (some ⟨Bh,0,none⟩)] (fun x:Bool=>#[Value.bool x]) (dh n₀) (fun ys=>ys=dI H) (fun pre=>pre<+:dI H) (dI H).length w:=fun l J Jx W hW hJ _ hY h0=>
 CG (3-1) (by omega) l Bh n₀ c A H hn.1 hn.2 J Jx W hJ hY ((hW.cell (p:=⟨Bh,0,none⟩) (by show Bh<_;omega)).trans hc) hBn (Nat.le_trans hnW hW.size) (aA.keep hT (Agree.below hW fun b h=>by omega) (fun b h=>h)) h0
set_option maxRecDepth 100000 in
theorem dn(A:Option Addr)(c:Nat)(H:List Txn)(w:World)(h:aA w (Old w) (.slice A H.length c) H)(hn:aG H):
 Calls Tryz.prog 67 #[.agg #[.slice A H.length c]] w fun e w'=>e= .returned (.bool (ay H))∧Below w.heap.size w w':=by
 refine(callsIn_wide (n:=3)).1 ?_;have hro:Fence.wide.round=none:=rfl;refine callsIn_of_wp_marks Tryz.func67 rfl trivial ?_ hro;simp only[Tryz.ntmps67,List.size_toArray,List.length_cons,List.length_nil,Nat.reduceAdd,Nat.reduceSub,Array.replicate_succ,Array.replicate_zero,List.push_toArray,List.append_toArray,List.nil_append,List.cons_append]
 gi_wp2_with fail
 refine⟨trivial,?_⟩;refine(callsIn_wide.2 (zM _ _)).mono ?_;rintro e w1 ⟨rfl,rfl⟩;dsimp only
 gi_wp2
 obtain⟨W0,hW0⟩:∃W0,((w.alloc (.cells #[.slice A H.length c] 24)).alloc (.cells #[.bool false] 4)).alloc (.cells #[.slice A H.length c] 24)=W0:=⟨_,rfl⟩;have hs0:W0.heap.size=w.heap.size+3:=(by rw[←hW0];simp);have hBW:Below w.heap.size w W0:=(by rw[←hW0];exact(((Below.refl _ w).alloc (Nat.le_refl _) _).alloc (by simp) _).alloc (by simp;omega) _);have k1:Blk W0 (w.heap.size+1) 4 #[.bool false]:=by
  rw[←hW0];have:=Blk.new (w.alloc (.cells #[.slice A H.length c] 24)) 4 #[.bool false];simp only[World.size_alloc]at this;exact this.alloc _
 have k2:Blk W0 (w.heap.size+2) 24 #[.slice A H.length c]:=by
  rw[←hW0];have:=Blk.new ((w.alloc (.cells #[.slice A H.length c] 24)).alloc (.cells #[.bool false] 4)) 24 #[.slice A H.length c];simp only[World.size_alloc]at this;exact this
 simp only[World.size_alloc];rw[hW0];have h2:aA W0 (fun b=>b<w.heap.size) (.slice A H.length c) H:=aA.keep h (Agree.below hBW fun b h=>h) (fun b h=>h);have c2:=Blk.n0 k2;have c1:=Blk.n0 k1;have f1:=k1.frozen 0;clear hW0;refine wpIn_rangeFunc_ownF hro (by omega) (gf:=190) (lb:=#[.pointer (some ⟨w.heap.size+2,0,none⟩)]) rfl trivial (enters_of Tryz.func190 (by kernel_rfl) rfl)
  (wC (w.heap.size+2) (w.heap.size+3) c A H hn W0 (by omega) (by omega) c2 (aA.fit h2 (fun b h=>by omega))) dh.t (dh.b (by omega)) (Below.refl _ _) (fun _=>rfl)
  (fun pre W=>((pre.all id=true)∧W.cell? ⟨w.heap.size+1,0,none⟩=some (.bool false)∧W.frozen? ⟨w.heap.size+1,0,none⟩=false)∧Below w.heap.size w W)
  (fun cc pre W=>(cc= .ret∧false∈pre∧W.cell? ⟨w.heap.size+1,0,none⟩=some (.bool false))∧Below w.heap.size w W)
  (OwnFrom.and (Own.from (fun s A B row hs hg hr=>⟨hs.1,cell_kept hs.2.1 hg hr,(frozen_kept hs.2.1 hg hr).trans hs.2.2⟩) _) (ownFrom_below (Nat.le_refl _) (by omega)))
  (fun cc=>OwnFrom.and (Own.from (fun s A B row hs hg hr=>⟨hs.1,hs.2.1,cell_kept hs.2.2 hg hr⟩) _) (ownFrom_below (Nat.le_refl _) (by omega)))
  ⟨⟨rfl,c1,f1⟩,hBW⟩
  (fun x=>{tmps:=#[.agg #[.slice A H.length c],.pointer (some ⟨w.heap.size,0,none⟩),.pointer (some ⟨w.heap.size+1,0,none⟩),.bool x,.agg #[.slice A H.length c],.func (.func 190) #[] #[.pointer (some ⟨w.heap.size+2,0,none⟩)],.bool x,undef,undef],defers:=[]}) ?assign ?body ?done ?stop
 case assign=>
  intro l x W K hK
  gi_wp2
  exact hK
 case body=>
  rintro l pre x W ⟨⟨hp,hcr,hfr⟩,hB⟩ _;cases x with
  |false=>
   gi_wp2
   exact⟨KeepsOthers.setCell _ _ _,⟨rfl,by simp,World.cell?_setCell_same' _ _ _ (by rw[hcr];rfl)⟩,hB.setCell (p:=⟨w.heap.size+1,0,none⟩) (by simp) _⟩
  |true=>
   gi_wp2
   exact⟨KeepsOthers.refl _,dh.refl _ _,⟨by rw[List.all_append,hp];rfl,hcr,hfr⟩,hB⟩
 case done=>
  rintro D xs W hD rfl ⟨⟨hall,hcr,hfr⟩,hB⟩ hK;have hall:=hide hall
  gi_wp2
  have hK':=(KeepsOthers.setCell W ⟨w.heap.size+1,0,none⟩ (.bool true)).same D _ hK rfl;refine⟨by simp,.inl ⟨_,_,rfl,run_takeDeferred hK',?_⟩⟩;have hc5:=cell_kept (World.cell?_setCell_same' W ⟨w.heap.size+1,0,none⟩ (.bool true) (by rw[hcr];rfl)) (grownBy_putObj' _ D (.deferred none)) (fun r e=>by cases e;exact⟨_,hK',rfl⟩);refine⟨.bool true,?_,by unfold ay;rw[hall.out],(hB.setCell (p:=⟨w.heap.size+1,0,none⟩) (by simp) _).trans (belowK_b (w:=w) (Nat.le_refl _) _ D _ _ (by omega) hK' rfl rfl)⟩;simp[results,Tryz.f67,go_sem,hc5]
 case stop=>
  rintro D cc pre W hD hpre ⟨⟨rfl,hin,hcr⟩,hB⟩ hK;have hf:=hide (FE hpre hin)
  gi_wp2
  refine⟨by simp,.inl ⟨_,_,rfl,run_takeDeferred hK,?_⟩⟩;have hc5:=cell_kept hcr (grownBy_putObj' _ D (.deferred none)) (fun r e=>by cases e;exact⟨_,hK,rfl⟩);refine⟨.bool false,?_,by unfold ay;rw[hf.out],hB.trans (belowK_b (w:=w) (Nat.le_refl _) W D _ _ (by omega) hK rfl rfl)⟩;simp[results,Tryz.f67,go_sem,hc5]
end Go.Proofs.YtfhnamomiaekdaaGreatDoor
namespace Go.Inq
def pQ(i:Int):Nat:=if 0≤i∧i<64 then 2^i.toNat else 0
theorem ER{i:Int}(h0:0≤i)(h:i<64):pQ i=2^i.toNat:=by unfold pQ;rw[if_pos ⟨h0,h⟩]
theorem I4{i:Int}(h:i<0):pQ i=0:=by unfold pQ;rw[if_neg (by omega)]
theorem FQ{i:Int}(h:64≤i):pQ i=0:=by unfold pQ;rw[if_neg (by omega)]
theorem yS(i:Int):pQ i<18446744073709551616:=by
 unfold pQ;split
 ·rename_i h;exact Nat.lt_of_lt_of_le (Nat.pow_lt_pow_right (by decide) (show i.toNat<64 by omega)) (by decide)
 ·decide
def hasB(s:Nat)(i:Int):Bool:=decide (0≤i)&&s.testBit i.toNat
theorem zN(s i:Nat):hasB s (i:Int)=s.testBit i:=by unfold hasB;simp
theorem I5{s:Nat}(hs:s<18446744073709551616)(i:Int):decide (s&&&pQ i=0)= !hasB s i:=by
 unfold hasB pQ;by_cases h0:0≤i
 ·by_cases h:i<64
  ·rw[if_pos ⟨h0,h⟩,Bool.eq_iff_iff,decide_eq_true_iff,and_one];simp[h0]
  ·rw[if_neg (by omega)];have:s.testBit i.toNat=false:=Nat.testBit_lt_two_pow (Nat.lt_of_lt_of_le (show s<2^64 from hs) (Nat.pow_le_pow_right (by decide) (by omega)));simp[this]
 ·rw[if_neg (by omega)];simp[h0]
def mJ(s:Nat)(i:Int):Nat:=s|||pQ i
theorem xE(s:Nat){i:Nat}(hi:i<64)(j:Nat):(mJ s (i:Int)).testBit j=(s.testBit j||decide (i=j)):=by
 unfold mJ;rw[ER (by omega) (by omega),Int.toNat_natCast];exact Mh s i j
def joinL(l:List Nat):Nat:=l.foldl (·|||·) 0
theorem yT(l:List Nat):∀(a i:Nat),(l.foldl (·|||·) a).testBit i=(a.testBit i||l.any fun x=>x.testBit i):=by
 induction l with
 |nil=>intro a i;simp
 |cons x r ih=>intro a i;rw[List.foldl_cons,ih,Nat.testBit_or,List.any_cons,Bool.or_assoc]
theorem FR(l:List Nat)(i:Nat):(joinL l).testBit i=l.any fun x=>x.testBit i:=by
 unfold joinL;rw[yT];simp
theorem uf{l:List Nat}{n:Nat}(h:∀x∈l,x<2^n):joinL l<2^n:=by
 refine Nat.lt_pow_two_of_testBit _ (fun i hi=> ?_);rw[FR,List.any_eq_false];intro x hx;rw[Nat.testBit_lt_two_pow (Nat.lt_of_lt_of_le (h x hx) (Nat.pow_le_pow_right (by decide) hi))];simp
theorem CJ{l:List Nat}{k:Nat}(h:k<l.length):joinL (l.take (k+1))=joinL (l.take k)|||l[k]:=by
 unfold joinL;rw[List.take_succ_eq_append_getElem h,List.foldl_append];rfl
def FT(a b:Nat):Bool:=decide (a&&&(18446744073709551615-b)=0)
theorem zO{a b:Nat}(ha:a<18446744073709551616)(hb:b<18446744073709551616):FT a b=true↔∀i,a.testBit i=true→b.testBit i=true:=by
 unfold FT;rw[decide_eq_true_iff];have hc:∀i,(18446744073709551615-b).testBit i=(decide (i<64)&& !b.testBit i):=by
  intro i;have:=Nat.testBit_two_pow_sub_succ (n:=64) (x:=b) hb i;rw[show 2^64-(b+1)=18446744073709551615-b by omega]at this;exact this
 constructor
 ·intro h i hi;have OZ:i<64:=by
   rcases Nat.lt_or_ge i 64 with h|h
   ·exact h
   ·rw[Nat.testBit_lt_two_pow (Nat.lt_of_lt_of_le (show a<2^64 from ha) (Nat.pow_le_pow_right (by decide) h))]at hi;cases hi
  have:=congrArg (fun y=>y.testBit i) h;simp only[Nat.testBit_and,hc,hi,decide_eq_true OZ,Nat.zero_testBit,Bool.true_and]at this;simpa using this
 ·intro h;refine Nat.eq_of_testBit_eq (fun i=> ?_);rw[Nat.testBit_and,hc,Nat.zero_testBit];by_cases hi:a.testBit i=true
  ·rw[h i hi];simp
  ·simp[hi]
theorem fZ{n:Nat}(h:n≤64):2^n≤18446744073709551616:=Nat.le_trans (Nat.pow_le_pow_right (by decide) h) (by decide)
theorem FU{l:List Nat}{n:Nat}(hn:n≤64)(h:∀x∈l,x<2^n):FT (joinL l) (2^n-1)=true:=by
 have hp:=fZ hn;have hj:=uf h;rw[zO (by omega) (by have:=Nat.two_pow_pos n;omega)];intro i hi;rw[Nat.testBit_two_pow_sub_one];refine decide_eq_true ?_;rcases Nat.lt_or_ge i n with h|h
 ·exact h
 ·rw[Nat.testBit_lt_two_pow (Nat.lt_of_lt_of_le hj (Nat.pow_le_pow_right (by decide) h))]at hi;cases hi
theorem ug{p:Nat→Bool}{n:Nat}(hn:n≤64):iL (bX p n)=(List.range n).filter p:=by
 unfold iL;obtain⟨m,hm⟩:=Nat.le.dest hn;rw[←hm,List.range_add,List.filter_append];have h1:(List.range n).filter (fun i=>(bX p n).testBit i)=(List.range n).filter p:=List.filter_congr fun i hi=>by
  have:i<n:=(by simpa using hi);rw[aL];simp[this]
 have h2:((List.range m).map (n+·)).filter (fun i=>(bX p n).testBit i)=[]:=by
  rw[List.filter_eq_nil_iff];intro i hi;obtain⟨k,_,rfl⟩:=List.mem_map.1 hi;rw[aL];simp;intro h;omega
 rw[h1,h2,List.append_nil]
def iQ(a b:Nat):au:=fun x y=>decide (x=a)&&decide (y=b)
def noE:au:=fun _ _=>false
theorem zQ(n:Nat):dA n noE=List.replicate n 0:=by
 refine List.ext_getElem (by simp[aM]) fun a h1 h2=> ?_;have ha:a<n:=(by rw[aM]at h1;exact h1);rw[fC ha,List.getElem_replicate];refine Nat.eq_of_testBit_eq (fun i=> ?_);rw[aL];simp[noE]
theorem qU{p:Nat→Bool}{n b:Nat}(hb:b<n)(hn:n≤64):mJ (bX p n) (b:Int)=bX (fun y=>p y||decide (y=b)) n:=by
 refine yQ ?_ (fun i hi=> ?_)
 ·refine Nat.lt_pow_two_of_testBit _ (fun i hi=> ?_);rw[xE _ (by omega),aL];simp;omega
 ·rw[xE _ (by omega),aL];have:decide (b=i)=decide (i=b):=(by simp[eq_comm]);simp[hi,this]
theorem FV{n:Nat}{E:au}{a b:Nat}(ha:a<n)(hb:b<n)(hn:n≤64):(dA n E).set a (mJ ((dA n E)[a]'(by rw[aM];exact ha)) (b:Int))=dA n (orE E (iQ a b)):=by
 generalize e2:(dA n E)[a]'(by rw[aM];exact ha)=v;rw[fC ha]at e2;subst e2;refine List.ext_getElem (by simp[aM]) fun x h1 h2=> ?_;have hx:x<n:=(by rw[aM]at h2;exact h2);have e1:(dA n (orE E (iQ a b)))[x]'h2=bX (orE E (iQ a b) x) n:=fC hx;have e3:(dA n E)[x]'(by rw[aM];exact hx)=bX (E x) n:=fC hx;rw[List.getElem_set,e1];split
 ·rename_i e;subst e;rw[qU hb hn];exact fJ fun y hy=>by simp[orE,iQ]
 ·rename_i e;rw[e3];exact fJ fun y hy=>by
   have:decide (x=a)=false:=(by simp;omega);simp[orE,iQ,this]
theorem xG(a b:Nat):joinL [a,b]=a|||b:=by unfold joinL;simp
theorem ES{p q:Nat→Bool}{n:Nat}:bX p n|||bX q n=bX (fun y=>p y||q y) n:=by
 refine yQ (Nat.or_lt_two_pow (jF _ _) (jF _ _)) (fun i hi=> ?_);rw[Nat.testBit_or,aL,aL];simp[hi]
def mK(n:Nat)(E:au):List (Nat×Nat):=((List.range n).map fun a=>((List.range n).filter (E a)).map fun b=>(a,b)).flatten
theorem uh{n:Nat}{E:au}{a b:Nat}:(a,b)∈mK n E↔a<n∧b<n∧E a b=true:=by
 unfold mK;rw[List.mem_flatten];constructor
 ·rintro⟨l,hl,h⟩;obtain⟨x,hx,rfl⟩:=List.mem_map.1 hl;obtain⟨y,hy,e⟩:=List.mem_map.1 h;injection e with e1 e2
  subst e1 e2;rw[List.mem_filter]at hy;exact⟨by simpa using hx,by simpa using hy.1,hy.2⟩
 ·rintro⟨ha,hb,he⟩;exact⟨_,List.mem_map.2 ⟨a,by simpa using ha,rfl⟩,List.mem_map.2 ⟨b,List.mem_filter.2 ⟨by simpa using hb,he⟩,rfl⟩⟩
def ofL(l:List (Nat×Nat)):au:=fun a b=>l.contains (a,b)
theorem I6(l:List (Nat×Nat))(a b:Nat):ofL (l++[(a,b)])=orE (ofL l) (iQ a b):=by
 funext x y;unfold ofL orE iQ;rw[Bool.eq_iff_iff];simp
end Go.Inq
namespace Go.Inq
open Go Go.RowKit
def FW(n:Nat):List Value:=[.int .u64 n]
def iI(w:World)(K:Nat→Prop)(v:Value)(l:List Nat):Prop:=SlR 1 (Flat FW) w K v l
section
variable{w w':World}{K K':Nat→Prop}{v:Value}{l:List Nat}
theorem iI.keep(h:iI w K v l)(ha:Agree K w w')(hk:∀b,K b→K' b):iI w' K' v l:=SlR.keep (Flat.bf _) h ha hk
theorem iI.below(h:iI w (Old w) v l)(hb:Below w.heap.size w w'):iI w' (Old w') v l:=SlR.below (Flat.bf _) h hb
theorem iI.fit(h:iI w K v l)(hk:∀b,K b→K' b):iI w K' v l:=SlR.fit (Flat.bf _) h hk
theorem iI.at_{A:Option Addr}{n c:Nat}(h:iI w K (.slice A n c) l){i:Nat}(hi:i<l.length):∃b off,A=some ⟨b,off,none⟩∧K b∧w.cell? ⟨b,off+i,none⟩=some (.int .u64 (l[i]:Nat)):=by
 obtain⟨b,off,cs,hA,hK,_,hR,hc⟩:=SlR.at_ h hi;unfold Flat at hR;subst hR;have:=hc 0 _ rfl;rw[Nat.mul_one,Nat.add_zero]at this;exact⟨b,off,hA,hK,this⟩
theorem iI.cells{b off n c:Nat}(h:iI w K (.slice (some ⟨b,off,none⟩) n c) l){i:Nat}(hi:i<l.length):K b∧w.cell? ⟨b,off+i,none⟩=some (.int .u64 (l[i]:Nat)):=by
 obtain⟨cs,hK,_,hR,hc⟩:=SlR.cells h hi;unfold Flat at hR;subst hR;have:=hc 0 _ rfl;rw[Nat.mul_one,Nat.add_zero]at this;exact⟨hK,this⟩
theorem iI.nil(w:World)(K:Nat→Prop)(A:Option Addr)(c:Nat):iI w K (.slice A 0 c) []:=SlR.nil _ _ _ _ _ _
theorem iI.bW{g:Nat}{t:TypeId}(h:Blk w g t (l.map fun x:Nat=>Value.int .u64 x).toArray)(hK:K g):iI w K (.slice (some ⟨g,0,none⟩) l.length l.length) l:=by
 refine⟨some ⟨g,0,none⟩,l.length,l.map FW,rfl,Nat.le_refl _,by simp,fun i cs x h1 h2=> ?_,fun _=>⟨g,0,rfl,hK,fun i j cs u h1 h2=> ?_⟩⟩
 ·rw[List.getElem?_map,h2]at h1;injection h1 with h1
  exact⟨by rw[←h1];rfl,h1.symm⟩
 ·rw[List.getElem?_map]at h1;cases hl:l[i]? with
  |none=>rw[hl]at h1;cases h1
  |some x=>
   rw[hl]at h1;injection h1 with h1
   subst h1;cases j with
   |zero=>
    injection h2 with h2
    rw[Nat.zero_add,Nat.mul_one,Nat.add_zero,h.cell,gA,List.getElem?_map,hl,←h2];rfl
   |succ j=>simp[FW]at h2
end
structure GrS(w:World)(K:Nat→Prop)(n:Nat)(A:Option Addr)(c:Nat)(E:au):Prop where
 sl:iI w K (.slice A n c) (dA n E)
 n64:n≤64
def bF(n:Nat)(E:au):Array Value:=((dA n E).map fun x:Nat=>Value.int .u64 x).toArray
theorem mM{n:Nat}{E:au}{a:Nat}(h:a<n):(bF n E)[a]?=some (.int .u64 (bX (E a) n:Nat)):=by
 unfold bF;rw[gA,List.getElem?_map,List.getElem?_eq_getElem (by rw[aM];exact h),fC h];rfl
theorem xH{n:Nat}{E:au}{a b:Nat}(ha:a<n)(hb:b<n)(hn:n≤64):(bF n E).setIfInBounds a (.int .u64 (mJ (bX (E a) n) (b:Int):Nat))=bF n (orE E (iQ a b)):=by
 unfold bF;rw[←FV ha hb hn,sA,List.map_set,fC ha]
theorem xI{n:Nat}{E:au}{a x:Nat}{p:Nat→Bool}(ha:a<n)(hx:x=bX p n):(bF n E).setIfInBounds a (.int .u64 (x:Nat))=bF n (fun i=>if i=a then p else E i):=by
 unfold bF;rw[sA];congr 1;refine List.ext_getElem (by simp[aM]) fun i h1 h2=> ?_;have hi:i<n:=(by simpa[aM]using h2);rw[List.getElem_set,List.getElem_map,List.getElem_map,fC hi,fC hi];by_cases e:a=i
 ·subst e;rw[if_pos rfl,if_pos rfl,hx]
 ·rw[if_neg e,if_neg (fun h=>e h.symm)]
theorem I7(n:Nat):bF n noE=madeCells #[.int .u64 0] n:=by
 unfold bF;rw[zQ];refine Array.ext (by simp[size_madeCells]) fun i h1 h2=> ?_;simp[madeCells,Nat.mod_one]
theorem cu{n:Nat}{E F:au}(h:∀a b,a<n→b<n→E a b=F a b):bF n E=bF n F:=by unfold bF;rw[rQ h]
section
variable{w w':World}{K K':Nat→Prop}{n c:Nat}{A:Option Addr}{E F:au}
theorem GrS.keep(h:GrS w K n A c E)(ha:Agree K w w')(hk:∀b,K b→K' b):GrS w' K' n A c E:=⟨h.sl.keep ha hk,h.n64⟩
theorem GrS.below(h:GrS w (Old w) n A c E)(hb:Below w.heap.size w w'):GrS w' (Old w') n A c E:=⟨h.sl.below hb,h.n64⟩
theorem GrS.fit(h:GrS w K n A c E)(hk:∀b,K b→K' b):GrS w K' n A c E:=⟨h.sl.fit hk,h.n64⟩
theorem GrS.at_(h:GrS w K n A c E){i:Nat}(hi:i<n):∃b off,A=some ⟨b,off,none⟩∧K b∧w.cell? ⟨b,off+i,none⟩=some (.int .u64 (bX (E i) n:Nat)):=by
 obtain⟨b,off,hA,hK,hc⟩:=h.sl.at_ (i:=i) (by rw[aM];exact hi);rw[fC hi]at hc;exact⟨b,off,hA,hK,hc⟩
theorem GrS.cells{b off:Nat}(h:GrS w K n (some ⟨b,off,none⟩) c E){i:Nat}(hi:i<n):K b∧w.cell? ⟨b,off+i,none⟩=some (.int .u64 (bX (E i) n:Nat)):=by
 obtain⟨b',off',hA,hK,hc⟩:=h.at_ hi;injection hA with hA;injection hA with h1 h2;subst h1 h2
 exact⟨hK,hc⟩
theorem GrS.bW{g:Nat}{t:TypeId}(h:Blk w g t (bF n E))(hK:K g)(hn:n≤64):GrS w K n (some ⟨g,0,none⟩) n E:=by
 have:=iI.bW (l:=dA n E) h hK;rw[aM]at this;exact⟨this,hn⟩
theorem GrS.congr(h:GrS w K n A c E)(hE:∀a b,a<n→b<n→E a b=F a b):GrS w K n A c F:=⟨by rw[←rQ hE];exact h.sl,h.n64⟩
theorem GrS.zero(w:World)(K:Nat→Prop)(A:Option Addr)(c:Nat)(E:au):GrS w K 0 A c E:=⟨by simpa[dA]using iI.nil w K A c,by omega⟩
end
theorem gI{p:Nat→Bool}{n:Nat}(h:n≤64):bX p n<18446744073709551616:=Nat.lt_of_lt_of_le (jF p n) (fZ h)
def I8(t:TypeId)(w:World)(n:Nat)(E:au)(e:Ending)(w':World):Prop:=
 ∃g,w.heap.size≤g∧e= .returned (.tuple #[.agg #[.int .i64 n,.slice (some ⟨g,0,none⟩) n n],.int .i64 0])∧Blk w' g t (bF n E)∧Below w.heap.size w w'
theorem I8.congr{t:TypeId}{w w':World}{n:Nat}{E F:au}{e:Ending}(h:I8 t w n E e w')(hE:∀a b,a<n→b<n→E a b=F a b):I8 t w n F e w':=by
 unfold I8 at h⊢;rw[←cu hE];exact h
end Go.Inq
namespace Go.Proofs.YtfhnamomiaekdaaGreatDoor
open Go.RowKit Go.Inq
set_option maxHeartbeats 1000000
attribute [local go_sem↓] Go.wp_at_zero Go.wp_at_succ
theorem ET(i:Int)(w:World):Calls Tryz.prog 173 #[.int .i64 i] w fun e w'=>e= .returned (.int .u64 (pQ i:Nat))∧w=w':=by
 by_cases h0:i<0
 ·have hr:=hide (I4 h0);have h0b:decide (i<0)=true:=(by simpa using h0);clear h0;go_enter Tryz.func173,Tryz.ntmps173;go_wp2;go_ret;exact⟨by rw[hr.out];rfl,rfl⟩
 ·by_cases h1:64≤i
  ·have hr:=hide (FQ h1);have h0b:decide (i<0)=false:=(by simpa using h0);have h1b:decide (i≥64)=true:=(by simpa using h1);clear h0 h1;go_enter Tryz.func173,Tryz.ntmps173;go_wp2;go_ret;exact⟨by rw[hr.out];rfl,rfl⟩
  ·have hr:=hide (ER (i:=i) (by omega) (by omega));have hlt:=hide (yS i);have h0b:decide (i<0)=false:=(by simpa using h0);have h1b:decide (i≥64)=false:=(by simpa using h1);have h2:0≤i:=(by omega);have h3:i≤64:=(by omega);clear h0 h1;go_enter Tryz.func173,Tryz.ntmps173;go_wp2;go_ret;refine⟨bV ?_,rfl⟩;have e1:=hr.out;have e2:=hlt.out;rw[e1]at e2;have e3:min i.toNat IntKind.u64.bits=i.toNat:=(by simp[IntKind.bits];omega);try rw[e3]
   rw[IntKind.wrap_u64,e1];have e4:((2:Int)^i.toNat)=((2^i.toNat:Nat):Int):=(by simp);omega
theorem xJ(s:Nat)(hs:s<18446744073709551616)(i:Int)(w:World):Calls Tryz.prog 102 #[.int .u64 s,.int .i64 i] w fun e w'=>e= .returned (.bool (Go.Inq.hasB s i))∧w=w':=by
 have h1:=u64_and_nat s (pQ i) hs (yS i);have hr:=hide (I5 hs i);go_enter Tryz.func102,Tryz.ntmps102;go_wp2_with fail;refine(ET i _).mono ?_;rintro e w1 ⟨rfl,rfl⟩;go_wp2;go_ret;refine⟨aR ?_,rfl⟩;have:=hr.out;rw[←Bool.not_not (Go.Inq.hasB s i),←this,Bool.eq_iff_iff];simp
theorem oJ(s:Nat)(hs:s<18446744073709551616)(i:Int)(w:World):Calls Tryz.prog 134 #[.int .u64 s,.int .i64 i] w fun e w'=>e= .returned (.int .u64 (mJ s i:Nat))∧w=w':=by
 have h1:=u64_or_nat s (pQ i) hs (yS i);go_enter Tryz.func134,Tryz.ntmps134;go_wp2_with fail;refine(ET i _).mono ?_;rintro e w1 ⟨rfl,rfl⟩;go_wp2;go_ret;exact⟨rfl,rfl⟩
theorem xK(a b:Nat)(ha:a<18446744073709551616)(hb:b<18446744073709551616)(w:World):Calls Tryz.prog 133 #[.int .u64 a,.int .u64 b] w fun e w'=>e= .returned (.bool (FT a b))∧w=w':=by
 have h1:=u64_andNot_nat a b ha hb;go_enter Tryz.func133,Tryz.ntmps133;go_wp2;go_ret;refine⟨aR ?_,rfl⟩;unfold FT;rw[Bool.eq_iff_iff];simp
theorem fK(A:Option Addr)(n c:Nat)(l:List Nat)(K:Nat→Prop)(w:World)(hn:l.length=n)(h:iI w K (.slice A n c) l)(h64:∀x∈l,x<18446744073709551616)(hm:n≤1000000):
 Calls Tryz.prog 171 #[.slice A n c] w fun e w'=>e= .returned (.int .u64 (joinL l:Nat))∧w=w':=by
 replace hn:=hide hn;have hj:∀k,joinL (l.take k)<18446744073709551616:=fun k=>uf (n:=64) fun x hx=>h64 x (List.mem_of_mem_take hx);replace hj:=hide hj;replace h64:=hide h64;go_enter Tryz.func171,Tryz.ntmps171;go_wp2_with fail
 go_loop [3,8] (fun s3 s8=>∃k:Nat,k≤n∧s8= .int .i64 k∧s3= .int .u64 (joinL (l.take k):Nat)) (fun _ s8=>n-(intOf s8).toNat)
 case atStart=>exact⟨0,Nat.zero_le _,by go_num,rfl⟩
 case round=>
  obtain⟨k,hk,rfl,rfl⟩:=hrel;by_cases hlt:k<n
  ·have hi1:(0:Int)≤(k:Int):=Int.natCast_nonneg _;have hi2:(k:Int)<(n:Int):=(by omega);have hkl:k<l.length:=(by rw[hn.out];exact hlt);obtain⟨b,off,rfl,hbK,hc⟩:=iI.at_ h hkl;have hor:=u64_or_nat (joinL (l.take k)) l[k] (hj.out k) (h64.out _ (List.getElem_mem hkl));have hst:=hide (CJ hkl);generalize l[k]=x at*;generalize joinL (l.take k)=y at*;clear hkl;go_wp2
   go_round
   case rel=>exact⟨k+1,by omega,by go_num,by rw[hst.out]⟩
   case measure=>simp[intOf];omega
  ·obtain rfl:k=n:=(by omega);have ht:l.take k=l:=List.take_of_length_le (by rw[hn.out];exact Nat.le_refl _);rw[ht];clear ht;go_wp2;go_ret;exact⟨rfl,rfl⟩
theorem zR(n:Nat)(hn:n≤64)(w:World):Calls Tryz.prog 172 #[.int .i64 n] w fun e w'=>e= .returned (.int .u64 (2^n-1:Nat))∧w=w':=by
 have h2:(0:Int)≤(n:Int):=Int.natCast_nonneg _;have h3:(n:Int)≤64:=(by omega);have hp:=hide (fZ hn);have hp2:=hide (Nat.two_pow_pos n);go_enter Tryz.func172,Tryz.ntmps172;go_wp2;go_ret;refine⟨bV ?_,rfl⟩;have e1:=hp.out;have e2:=hp2.out;have e3:min n IntKind.u64.bits=n:=(by simp[IntKind.bits];omega);have e4:((2:Int)^n)=((2^n:Nat):Int):=(by simp);simp only[Int.toNat_natCast,IntKind.wrap_u64]at*;try rw[e3]
 rw[e4];generalize 2^n=x at*;omega
def jB(w:World):Prop:=∀j,j<Lib.deBruijn64tab.length→w.cell? ⟨0,j,none⟩=some (.int .u8 (Lib.deBruijn64tab.getD j 0))
theorem jB.lt{w:World}(h:jB w):0<w.heap.size:=by
 have:=h 0 (by decide);rcases Nat.lt_or_ge 0 w.heap.size with g|g
 ·exact g
 ·unfold World.cell? at this;simp[Array.getElem?_eq_none g]at this
theorem jB.below{w w':World}(h:jB w)(hb:Below w.heap.size w w'):jB w':=fun j hj=>(hb.cell (p:=⟨0,j,none⟩) h.lt).trans (h j hj)
theorem jB.drewN{w:World}(h:jB w)(n:Nat):jB (w.drewN n):=h
theorem Mq(x a:Nat)(hx:x<18446744073709551616)(hx0:x≠0)(hlow:x&&&(18446744073709551616-x)=a):
 IntKind.u64.wrap (bits BinOp.and IntKind.u64 (x:Int) (IntKind.u64.wrap (-(x:Int)))*285870213051353865)/288230376151711744=((a*285870213051353865%18446744073709551616/288230376151711744:Nat):Int):=by
 have e1:IntKind.u64.wrap (-(x:Int))=((18446744073709551616-x:Nat):Int):=(by rw[IntKind.wrap_u64];omega);rw[e1,u64_and_nat x _ hx (by omega),hlow,IntKind.wrap_u64];omega
theorem KS (x k idx:Nat) (w:World) (hx0:((x:Int)==0)=false)
 (key:IntKind.u64.wrap (bits BinOp.and IntKind.u64 (x:Int) (IntKind.u64.wrap (-(x:Int)))*285870213051353865)/288230376151711744=(idx:Int))
 (hi:idx<64) (hk:k<64) (hcell:w.cell? ⟨0,idx,none⟩=some (.int .u8 k)):
 Calls Tryz.prog 192 #[.int .u64 x] w fun e w'=>e= .returned (.int .i64 k)∧w=w':=by
 go_enter Tryz.func192,Tryz.ntmps192;go_wp2_with (simp only[key]);go_ret;exact⟨rfl,rfl⟩
theorem I9(x:Nat)(hx:x<18446744073709551616)(w:World)(hT:jB w):
 Calls Tryz.prog 192 #[.int .u64 x] w fun e w'=>e= .returned (.int .i64 (Lib.ctz 64 x))∧w=w':=by
 by_cases hx0:x=0
 ·subst hx0;go_enter Tryz.func192,Tryz.ntmps192;go_wp2;go_ret;exact⟨rfl,rfl⟩
 ·obtain⟨hlow,hk⟩:=Lib.lowest_bit 64 x hx0 hx;obtain⟨hi,htab⟩:=Lib.deBruijn64_at _ hk;have hcell:=hT _ hi;rw[htab]at hcell;exact KS x _ _ w (by simp;omega) (Mq x _ hx hx0 hlow) hi hk hcell
end Go.Proofs.YtfhnamomiaekdaaGreatDoor
namespace Go.Inq
open Go Go.RowKit
theorem below_grown{B:Nat}{w0 w w':World}{row:Option Nat}(hb:Below B w0 w)(hg:w.grownBy w' row)(hB:B≤w.heap.size)(hr:∀k,row=some k→B≤k):Below B w0 w':=
 hb.trans ⟨hg.os,hg.tape,hg.output,hg.size,fun k hk=>hg.block k (Nat.lt_of_lt_of_le hk hB) (fun e=>by have:=hr k e.symm;omega)⟩
theorem aY {P:Program} {W:World} {ops:Array Oper} {rest:List Oper} {o:Oper} {a:Act} {Q:Exit→Act→World→Prop} {α:Type} {enc:α→List Value}
 (hgd:o.guard=none) (s x:Operand) (t:TypeId) (ho:o.op= .call {callee:= .builtin .append,args:=#[s,x],argTypes:=#[t,t]})
 (base:Nat) (e:TypeId) (i:TypeInfo) (z:Value) (size bytes:Nat) (ht:P.underlying t=some (.slice e)) (hi:P.info? e=some i) (hz:i.zero=some z)
 (hsize:i.size=size) (hby:i.bytes=bytes) (hzs:z.cells.size=size) (hsz:0<size)
 (v:Value) (l:List α) (hs:a.eval s=v) (hown:W.ownsRow base e size v l.length (l.map enc).flatten) (hen:∀x,(enc x).length=size)
 (x0:α) (cs:Array Value) (hcs:cs.toList=enc x0) (hx:a.eval x= .slice (some ⟨W.heap.size,0,none⟩) 1 1)
 (h1:∀x,∀u∈enc x,u.oneCell'=true) (h63:l.length+1≤maxLen) (hbytes:(l.length+1)*bytes≤140737488355328) (hbase:base≤W.heap.size)
 (w0:World) (B:Nat) (hB:B≤base) (hb:Below B w0 W)
 (h:∀v' w',w'.ownsRow base e size v' (l++[x0]).length ((l++[x0]).map enc).flatten→(W.alloc (.cells cs e)).grownBy w' v.ownBlock→Below B w0 w'→(v'.ownBlock=v.ownBlock∨v'.ownBlock=some (W.heap.size+1))→wpList P ops Q rest (a.put o.dst v') w'):
 wpList P ops Q (o::rest) a (W.alloc (.cells cs e)):=by
 have hk:Blk (W.alloc (.cells cs e)) W.heap.size e cs:=Blk.new _ _ _;have hl:cs.size=size:=(by rw[←Array.length_toList,hcs,hen]);refine cB (enc:=enc) hgd s x t ho base e i z size bytes ht hi hz hsize hby hzs hsz v (fun _=>True) l hs (hown.alloc _) hen _ [x0] hx (SlR.one hk hl (by unfold Flat;exact hcs) trivial) h1 h63 hbytes (by simp;omega) ?_;intro v' w' g1 g2 g3;refine h v' w' g1 g2 (below_grown (hb.alloc (by omega) _) g2 (by simp;omega) ?_) (by simpa using g3);intro k hk;have:=(hown.lt k hk).1;omega
end Go.Inq
namespace Go.Proofs.YtfhnamomiaekdaaGreatDoor
open Go.RowKit Go.Inq
set_option maxHeartbeats 1000000
attribute [local go_sem↓] Go.wp_at_zero Go.wp_at_succ
def aO(l:List Nat):List Int:=l.map fun(n:Nat)=>(n:Int)
theorem fM(l:List Nat)(x:Nat):aO (l++[x])=aO l++[(x:Int)]:=by simp[aO]
theorem aI(l:List Nat):(aO l).length=l.length:=by simp[aO]
theorem je{l:List Nat}{i:Nat}(h:i<l.length):(aO l)[i]'(by rw[aI];exact h)=(l[i]:Int):=by simp[aO]
theorem dO:(Tryz.prog.info? 3).map (fun i=>(i.zero,i.size,i.bytes))=some (some (.int .i64 0),1,8):=by kernel_rfl
def bE(w:World)(base:Nat)(v:Value)(l:List Int):Prop:=w.ownsRow base 3 1 v l.length (l.map Go.Inq.encI).flatten
def uj(w:World)(l:List Int)(e:Ending)(w':World):Prop:=∃v,e= .returned v∧bE w' w.heap.size v l∧Below w.heap.size w w'
theorem bE.form{w:World}{base:Nat}{v:Value}{l:List Int}(h:bE w base v l):∃A c,v= .slice A l.length c:=bH h
theorem bE.sl{w:World}{base:Nat}{v:Value}{l:List Int}(h:bE w base v l){K:Nat→Prop}(hK:∀g,base≤g→g<w.heap.size→K g):aB w K v l:=SlR.of_flat h rfl (fun _=>rfl) hK
theorem bE.nil(w:World)(base:Nat):bE w base (.slice none 0 0) []:=World.ownsRow_nil _ _ _ _
def B64(n:Nat):Prop:=n<18446744073709551616
def zS(s y:Nat)(l:List Nat):Prop:=l++iL y=iL s
theorem CK{s y:Nat}{l:List Nat}(h:zS s y l)(h0:y≠0)(hy:y<18446744073709551616):zS s (y&&&(y-1)) (l++[Lib.ctz 64 y]):=by
 unfold zS at h⊢;rw[←h,oI y h0 hy];simp
theorem um(s:Nat)(hs:s<18446744073709551616)(w:World)(hT:jB w):
 Calls Tryz.prog 131 #[.int .u64 s] w (uj w (aO (iL s))):=by
 obtain⟨ii,hii,hi1,hi2,hi3⟩:=info_parts dO;go_enter Tryz.func131,Tryz.ntmps131;go_wp2_with fail;go_loopw [0,3] (fun s0 s3 wr=>∃(y:Nat) (l:List Nat),B64 y∧s0= .int .u64 y∧Hid (zS s y l)∧bE wr w.heap.size s3 (aO l)∧Below w.heap.size w wr) (fun s0 _ _=>(iL (intOf s0).toNat).length);case atStart=>exact⟨s,[],hs,rfl,(show[]++iL s=iL s from rfl),bE.nil _ _,Below.refl _ _⟩
 case round=>
  obtain⟨y,l,hy,rfl,hr,hown,hb⟩:=hrel;unfold B64 at hy;by_cases h0:y=0
  ·subst h0;have he:=hr.out;unfold zS at he;rw[Cz,List.append_nil]at he;subst he;go_wp2;go_ret;exact⟨_,rfl,hown,hb⟩
  ·have h0b:((y:Int) !=0)=true:=(by simp;omega);have hT2:=hT.below hb;have hn:=hide (CK hr.out h0 hy);have hlen:l.length+1≤64:=by
    have h1:=congrArg List.length hr.out;have h2:=congrArg List.length (oI y h0 hy);have h3:=FL s;simp only[List.length_append,List.length_cons]at h1 h2;omega
   have hand:=u64_and_nat y (y-1) hy (by omega);have hsub:IntKind.u64.wrap ((y:Int)-1)=((y-1:Nat):Int):=(by rw[IntKind.wrap_u64];omega);have hlt:=hide (IY y hy);have hms:=hide (show(iL (y&&&(y-1))).length<(iL y).length by rw[oI y h0 hy];simp);generalize y&&&(y-1)=z at*;generalize y-1=y1 at*;have hsz:=hb.size;obtain⟨A,c,rfl⟩:=hown.form;replace hown:=hide hown;replace hr:=hide hr.out;replace hy:=hide hy;clear h0 hs;go_wp2_with (first|(go_at_call 192;refine(I9 y hy.out _ hT2).mono ?_;rintro e w' ⟨rfl,rfl⟩)|(at_builtin;refine aY (enc:=Go.Inq.encI) rfl (.tmp 10) (.tmp 13) 33 rfl w.heap.size 3 ii _ 1 8 Tryz.underlying33 hii hi1 hi2 hi3 rfl (by decide) (.slice A (aO l).length c) (aO l) rfl hown.out (fun _=>rfl) (Lib.ctz 64 y:Int) _ rfl rfl eG (by rw[aI];simp[maxLen];omega) (by rw[aI];omega) hsz w w.heap.size (Nat.le_refl _) hb ?_;intro v1 w1 hown1 hg1 hb1 _));go_roundw;case rel=>exact⟨z,l++[Lib.ctz 64 y],hlt.out,rfl,hn,by unfold bE;rw[fM];exact hown1,hb1⟩
   case measure=>
    simp only[intOf,Int.toNat_natCast];exact hms.out
end Go.Proofs.YtfhnamomiaekdaaGreatDoor
namespace Go.Inq
open Go Go.RowKit
theorem eB {P:Program} {w:World} {ops:Array Oper} {rest:List Oper} {o:Oper} {a:Act} {Q:Exit→Act→World→Prop} {α:Type} (f:α→Value)
 (hgd:o.guard=none) (d s:Operand) (dT sT:TypeId) (ho:o.op= .call {callee:= .builtin .copy,args:=#[d,s],argTypes:=#[dT,sT]})
 (elem:TypeId) (hu:P.underlying dT=some (.slice elem)) (hsz:(P.info? elem).map (·.size)=some 1)
 (g n dc c:Nat) (A:Option Addr) (hd:a.eval d= .slice (some ⟨g,0,none⟩) n dc) (hs:a.eval s= .slice A n c)
 (cur:Array Value) (t:TypeId) (hg:Blk w g t cur) (hcur:cur.size=n) (l:List α) (hl:l.length=n)
 (hsrc:∀i (hi:i<l.length),∃b off,A=some ⟨b,off,none⟩∧w.cell? ⟨b,off+i,none⟩=some (f l[i])) (h1:∀x∈l,(f x).oneCell'=true)
 (h:∀w',Blk w' g t (l.map f).toArray→w.grownBy w' (some g)→wpList P ops Q rest (a.put o.dst (goInt n)) w'):wpList P ops Q (o::rest) a w:=by
 by_cases h0:n=0
 ·subst h0;have:l=[]:=List.eq_nil_of_length_eq_zero hl;subst this;have hc:cur=#[]:=Array.eq_empty_of_size_eq_zero hcur;subst hc;exact wpList_copy_nothing hgd d s dT sT ho elem hu hsz _ _ 0 dc 0 c hd hs rfl (h w (by simpa using hg) ⟨rfl,rfl,rfl,Nat.le_refl _,fun _ _ _=>rfl⟩)
 ·obtain⟨b,off,rfl,_⟩:=hsrc 0 (by omega);have hcs:(l.map f).length=n:=(by simpa using hl);refine wpList_copy_own hgd d s dT sT ho elem hu hsz g 0 n dc ⟨b,off,none⟩ n c hd hs cur t hg (l.map f) (by rw[hcs];simp[Nat.min_def]) (fun j v hj=> ?_) (by rw[hcs];omega) (fun v hv=> ?_) ?_
  ·rw[List.getElem?_map]at hj;cases hlj:l[j]? with
   |none=>rw[hlj]at hj;cases hj
   |some x=>
    rw[hlj]at hj;injection hj with hj
    obtain⟨hjl,rfl⟩:=List.getElem?_eq_some_iff.1 hlj;obtain⟨b',off',hA,hc⟩:=hsrc j hjl;injection hA with hA
    injection hA with e1 e2
    subst e1 e2;rw[Addr.add_lit,←hj];exact hc
  ·obtain⟨x,hx,rfl⟩:=List.mem_map.1 hv;exact h1 x hx
  ·rw[hcs];have e:(cur.toList.take 0++(l.map f++cur.toList.drop (0+n))).toArray=(l.map f).toArray:=by
    rw[List.drop_of_length_le (by simp;omega)];simp
   rw[e];exact h _ (setRow_heap w g cur _ t _ hg) ⟨rfl,rfl,rfl,by simp[World.setRow],fun k hk hne=>setRow_other w g k _ (fun e=>hne (by rw[e]))⟩
section
variable{w W:World}{o:Obj}{K:Nat→Prop}
theorem Blk.av{g:Nat}{t:TypeId}{cs:Array Value}(h:Blk w g t cs)(e:w.alloc o=W):Blk W g t cs:=by subst e;exact h.alloc o
theorem Agree.av(e:w.alloc o=W)(hk:∀b,K b→b<w.heap.size):Agree K w W:=by subst e;exact Agree.alloc hk o
theorem ah{B:Nat}{w0:World}(h:Below B w0 w)(e:w.alloc o=W)(hB:B≤w.heap.size):Below B w0 W:=by subst e;exact h.alloc hB o
theorem Blk.newEq{t:TypeId}{cs:Array Value}(e:w.alloc (.cells cs t)=W):Blk W w.heap.size t cs:=by subst e;exact Blk.new _ _ _
theorem Blk.jg{t:TypeId}{cs:Array Value}(e:(w.alloc (.cells cs t)).alloc o=W):Blk W w.heap.size t cs:=by subst e;exact(Blk.new _ _ _).alloc _
theorem Blk.iB{t:TypeId}{cs:Array Value}(e:(w.alloc o).alloc (.cells cs t)=W):Blk W (w.heap.size+1) t cs:=by
 subst e;have:=Blk.new (w.alloc o) t cs;simpa using this
theorem size_two{o':Obj}(e:(w.alloc o).alloc o'=W):W.heap.size=w.heap.size+2:=by subst e;simp
theorem aN{o':Obj}(e:(w.alloc o).alloc o'=W):Below w.heap.size w W:=by subst e;exact((Below.refl _ _).alloc (Nat.le_refl _) _).alloc (by simp) _
theorem Blk.yU{o':Obj}{t:TypeId}{cs:Array Value}(e:((w.alloc (.cells cs t)).alloc o).alloc o'=W):Blk W w.heap.size t cs:=by subst e;exact((Blk.new _ _ _).alloc _).alloc _
theorem Blk.uo{o':Obj}{t:TypeId}{cs:Array Value}(e:((w.alloc o).alloc (.cells cs t)).alloc o'=W):Blk W (w.heap.size+1) t cs:=by
 subst e;have:=(Blk.new (w.alloc o) t cs).alloc o';simpa using this
theorem Blk.uq{o':Obj}{t:TypeId}{cs:Array Value}(e:((w.alloc o).alloc o').alloc (.cells cs t)=W):Blk W (w.heap.size+1+1) t cs:=by
 subst e;have:=Blk.new ((w.alloc o).alloc o') t cs;simpa using this
theorem CO{o' o'':Obj}(e:((w.alloc o).alloc o').alloc o''=W):W.heap.size=w.heap.size+3:=by subst e;simp
theorem iC{o' o'':Obj}(e:((w.alloc o).alloc o').alloc o''=W):Below w.heap.size w W:=by subst e;exact(((Below.refl _ _).alloc (Nat.le_refl _) _).alloc (by simp) _).alloc (by simp;omega) _
theorem aD(e:w.alloc o=W):W.heap.size=w.heap.size+1:=by subst e;simp
end
theorem aj{w w' w'':World}{r:Option Nat}(h:w.grownBy w' r)(h':w'.grownBy w'' r):w.grownBy w'' r:=
 ⟨h'.os.trans h.os,h'.tape.trans h.tape,h'.output.trans h.output,Nat.le_trans h.size h'.size,fun k hk hne=>(h'.block k (Nat.lt_of_lt_of_le hk h.size) hne).trans (h.block k hk hne)⟩
theorem bC{w w':World}{B:Nat}{r:Option Nat}(hb:Below B w w')(hB:w.heap.size≤B):w.grownBy w' r:=⟨hb.os,hb.tape,hb.output,hb.size,fun k hk _=>hb.block k (by omega)⟩
theorem bI{w:World}(g i:Nat)(u:Value):w.grownBy (w.setCell ⟨g,i,none⟩ u) (some g):=
 ⟨rfl,rfl,rfl,by simp,fun k hk hne=>Below.heap_setCell w ⟨g,i,none⟩ u k (fun e=>hne (by simp at e;rw[e]))⟩
theorem fO{w:World}{r:Option Nat}:w.grownBy w.drew r:=⟨rfl,rfl,rfl,Nat.le_refl _,fun _ _ _=>rfl⟩
theorem Agree.jH{K:Nat→Prop}{w w':World}{g:Nat}(h:w.grownBy w' (some g))(hK:∀b,K b→b<g)(hg:g≤w.heap.size):Agree K w w':=Agree.grown h fun b hb=>⟨by have:=hK b hb;omega,by have:=hK b hb;simp;omega⟩
end Go.Inq
