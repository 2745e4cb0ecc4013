/-
  Walks: event.Right, and the references of layers 1 and 3 that tell whether an event may be.
-/
import Derived.Test.YtfhnamomiaekdaaGreatDoorProg
import Derived.Laws.BitsAllLaws
import Derived.Laws.Shifts
import Derived.Lib.TrailingZeros
import Derived.Laws.Bits64b
import Derived.Laws.CopyOwn
import Derived.Lib.OwnBridge
import Derived.Laws.EntriesVeiled
import Derived.Deep.OwnRows
import Derived.Test.YtfhnamomiaekdaaGreatDoorU02
import Derived.Test.YtfhnamomiaekdaaGreatDoorU04
import Derived.Test.YtfhnamomiaekdaaGreatDoorU01
set_option linter.unusedVariables false
set_option linter.unusedSimpArgs false
namespace Go.Proofs.YtfhnamomiaekdaaGreatDoor
open Go.RowKit Go.Inq
set_option maxHeartbeats 400000
end Go.Proofs.YtfhnamomiaekdaaGreatDoor
namespace Go.Proofs.YtfhnamomiaekdaaGreatDoor
open Go.RowKit Go.Inq
set_option maxHeartbeats 1000000
attribute [local go_sem↓] Go.wp_at_zero Go.wp_at_succ
def aD(l:List Txn):Prop:=l.length≤1000000∧∀t∈l,t.writes.length≤1000000∧t.reads.length≤1000000
end Go.Proofs.YtfhnamomiaekdaaGreatDoor
namespace Go.Proofs.YtfhnamomiaekdaaGreatDoor
open Go.RowKit Go.Inq Go.Shelf
set_option maxHeartbeats 4000000
attribute [local go_sem] Oper.semAt_some
attribute [local go_sem↓] Go.wp_at_zero Go.wp_at_succ
theorem CG(v:Value)(w:World):Calls Tryz.prog 125 #[.agg #[v]] w fun e w'=>e= .returned (.func (.func 190) #[] #[.pointer (some ⟨w.heap.size,0,none⟩)])∧w'=w.alloc (.cells #[v] 24):=by
 go_enter Tryz.func125,Tryz.ntmps125;go_wp2;go_ret;exact⟨rfl,rfl⟩
theorem zu(Bh n₀ c:Nat)(A:Option Addr)(H:List Txn)(hn:aD H)(w:World)(hBn:Bh<n₀)(hnW:n₀≤w.heap.size)(hc:w.cell? ⟨Bh,0,none⟩=some (.slice A H.length c))(hT:aC w (fun b=>b<n₀) (.slice A H.length c) H):
 SeqStopsK Fence.wide (3-1) Tryz.prog 190 #[.pointer (some ⟨Bh,0,none⟩)] (fun x:Bool=>#[Value.bool x]) (dI n₀) (fun ys=>ys=dY H) (fun pre=>pre<+:dY H) (dY H).length w:=fun l J Jx W hW hJ _ hY h0=>
 EP (3-1) (by omega) l Bh n₀ c A H hn.1 hn.2 J Jx W hJ hY ((hW.cell (p:=⟨Bh,0,none⟩) (by show Bh<_;omega)).trans hc) hBn (Nat.le_trans hnW hW.size) (aC.keep hT (Agree.below hW fun b h=>by omega) (fun b h=>h)) h0
set_option maxRecDepth 100000 in
theorem bY(A:Option Addr)(c:Nat)(H:List Txn)(w:World)(h:aC w (Old w) (.slice A H.length c) H)(hn:aD H):
 Calls Tryz.prog 67 #[.agg #[.slice A H.length c]] w fun e w'=>e= .returned (.bool (aA H))∧Below w.heap.size w w':=by
 refine(callsIn_wide (n:=3)).1 ?_;have hro:Fence.wide.round=none:=rfl;refine callsIn_of_wp_marks Tryz.func67 rfl trivial ?_ hro;simp only[Tryz.ntmps67,List.size_toArray,List.length_cons,List.length_nil,Nat.reduceAdd,Nat.reduceSub,Array.replicate_succ,Array.replicate_zero,List.push_toArray,List.append_toArray,List.nil_append,List.cons_append]
 gi_wp2_with fail
 refine⟨trivial,?_⟩;refine(callsIn_wide.2 (CG _ _)).mono ?_;rintro e w1 ⟨rfl,rfl⟩;dsimp only
 gi_wp2
 obtain⟨W0,hW0⟩:∃W0,((w.alloc (.cells #[.slice A H.length c] 24)).alloc (.cells #[.bool false] 4)).alloc (.cells #[.slice A H.length c] 24)=W0:=⟨_,rfl⟩;have hs0:W0.heap.size=w.heap.size+3:=(by rw[←hW0];simp);have hBW:Below w.heap.size w W0:=(by rw[←hW0];exact(((Below.refl _ w).alloc (Nat.le_refl _) _).alloc (by simp) _).alloc (by simp;omega) _);have k1:Blk W0 (w.heap.size+1) 4 #[.bool false]:=by
  rw[←hW0];have:=Blk.new (w.alloc (.cells #[.slice A H.length c] 24)) 4 #[.bool false];simp only[World.size_alloc]at this;exact this.alloc _
 have k2:Blk W0 (w.heap.size+2) 24 #[.slice A H.length c]:=by
  rw[←hW0];have:=Blk.new ((w.alloc (.cells #[.slice A H.length c] 24)).alloc (.cells #[.bool false] 4)) 24 #[.slice A H.length c];simp only[World.size_alloc]at this;exact this
 simp only[World.size_alloc];rw[hW0];have h2:aC W0 (fun b=>b<w.heap.size) (.slice A H.length c) H:=aC.keep h (Agree.below hBW fun b h=>h) (fun b h=>h);have c2:=Blk.n0 k2;have c1:=Blk.n0 k1;have f1:=k1.frozen 0;clear hW0;refine wpIn_rangeFunc_ownF hro (by omega) (gf:=190) (lb:=#[.pointer (some ⟨w.heap.size+2,0,none⟩)]) rfl trivial (enters_of Tryz.func190 (by kernel_rfl) rfl)
  (zu (w.heap.size+2) (w.heap.size+3) c A H hn W0 (by omega) (by omega) c2 (aC.fit h2 (fun b h=>by omega))) dI.t (dI.b (by omega)) (Below.refl _ _) (fun _=>rfl)
  (fun pre W=>((pre.all id=true)∧W.cell? ⟨w.heap.size+1,0,none⟩=some (.bool false)∧W.frozen? ⟨w.heap.size+1,0,none⟩=false)∧Below w.heap.size w W)
  (fun cc pre W=>(cc= .ret∧false∈pre∧W.cell? ⟨w.heap.size+1,0,none⟩=some (.bool false))∧Below w.heap.size w W)
  (OwnFrom.and (Own.from (fun s A B row hs hg hr=>⟨hs.1,cell_kept hs.2.1 hg hr,(frozen_kept hs.2.1 hg hr).trans hs.2.2⟩) _) (ownFrom_below (Nat.le_refl _) (by omega)))
  (fun cc=>OwnFrom.and (Own.from (fun s A B row hs hg hr=>⟨hs.1,hs.2.1,cell_kept hs.2.2 hg hr⟩) _) (ownFrom_below (Nat.le_refl _) (by omega)))
  ⟨⟨rfl,c1,f1⟩,hBW⟩
  (fun x=>{tmps:=#[.agg #[.slice A H.length c],.pointer (some ⟨w.heap.size,0,none⟩),.pointer (some ⟨w.heap.size+1,0,none⟩),.bool x,.agg #[.slice A H.length c],.func (.func 190) #[] #[.pointer (some ⟨w.heap.size+2,0,none⟩)],.bool x,undef,undef],defers:=[]}) ?assign ?body ?done ?stop
 case assign=>
  intro l x W K hK
  gi_wp2
  exact hK
 case body=>
  rintro l pre x W ⟨⟨hp,hcr,hfr⟩,hB⟩ _;cases x with
  |false=>
   gi_wp2
   exact⟨KeepsOthers.setCell _ _ _,⟨rfl,by simp,World.cell?_setCell_same' _ _ _ (by rw[hcr];rfl)⟩,hB.setCell (p:=⟨w.heap.size+1,0,none⟩) (by simp) _⟩
  |true=>
   gi_wp2
   exact⟨KeepsOthers.refl _,dI.refl _ _,⟨by rw[List.all_append,hp];rfl,hcr,hfr⟩,hB⟩
 case done=>
  rintro D xs W hD rfl ⟨⟨hall,hcr,hfr⟩,hB⟩ hK;have hall:=hide hall
  gi_wp2
  have hK':=(KeepsOthers.setCell W ⟨w.heap.size+1,0,none⟩ (.bool true)).same D _ hK rfl;refine⟨by simp,.inl ⟨_,_,rfl,run_takeDeferred hK',?_⟩⟩;have hc5:=cell_kept (World.cell?_setCell_same' W ⟨w.heap.size+1,0,none⟩ (.bool true) (by rw[hcr];rfl)) (grownBy_putObj' _ D (.deferred none)) (fun r e=>by cases e;exact⟨_,hK',rfl⟩);refine⟨.bool true,?_,by unfold aA;rw[hall.out],(hB.setCell (p:=⟨w.heap.size+1,0,none⟩) (by simp) _).trans (belowK_b (w:=w) (Nat.le_refl _) _ D _ _ (by omega) hK' rfl rfl)⟩;simp[results,Tryz.f67,go_sem,hc5]
 case stop=>
  rintro D cc pre W hD hpre ⟨⟨rfl,hin,hcr⟩,hB⟩ hK;have hf:=hide (Ir hpre hin)
  gi_wp2
  refine⟨by simp,.inl ⟨_,_,rfl,run_takeDeferred hK,?_⟩⟩;have hc5:=cell_kept hcr (grownBy_putObj' _ D (.deferred none)) (fun r e=>by cases e;exact⟨_,hK,rfl⟩);refine⟨.bool false,?_,by unfold aA;rw[hf.out],hB.trans (belowK_b (w:=w) (Nat.le_refl _) W D _ _ (by omega) hK rfl rfl)⟩;simp[results,Tryz.f67,go_sem,hc5]
end Go.Proofs.YtfhnamomiaekdaaGreatDoor
namespace Go.Inq
def sD(i:Int):Nat:=if 0≤i∧i<64 then 2^i.toNat else 0
theorem Hl{i:Int}(h0:0≤i)(h:i<64):sD i=2^i.toNat:=by unfold sD;rw[if_pos ⟨h0,h⟩]
theorem Ld{i:Int}(h:i<0):sD i=0:=by unfold sD;rw[if_neg (by omega)]
theorem II{i:Int}(h:64≤i):sD i=0:=by unfold sD;rw[if_neg (by omega)]
theorem BK(i:Int):sD i<18446744073709551616:=by
 unfold sD;split
 ·rename_i h;exact Nat.lt_of_lt_of_le (Nat.pow_lt_pow_right (by decide) (show i.toNat<64 by omega)) (by decide)
 ·decide
def hasB(s:Nat)(i:Int):Bool:=decide (0≤i)&&s.testBit i.toNat
theorem Le(s i:Nat):hasB s (i:Int)=s.testBit i:=by unfold hasB;simp
theorem Lf{s:Nat}(hs:s<18446744073709551616)(i:Int):decide (s&&&sD i=0)= !hasB s i:=by
 unfold hasB sD;by_cases h0:0≤i
 ·by_cases h:i<64
  ·rw[if_pos ⟨h0,h⟩,Bool.eq_iff_iff,decide_eq_true_iff,and_one];simp[h0]
  ·rw[if_neg (by omega)];have:s.testBit i.toNat=false:=Nat.testBit_lt_two_pow (Nat.lt_of_lt_of_le (show s<2^64 from hs) (Nat.pow_le_pow_right (by decide) (by omega)));simp[this]
 ·rw[if_neg (by omega)];simp[h0]
def oz(s:Nat)(i:Int):Nat:=s|||sD i
theorem zI(s:Nat){i:Nat}(hi:i<64)(j:Nat):(oz s (i:Int)).testBit j=(s.testBit j||decide (i=j)):=by
 unfold oz;rw[Hl (by omega) (by omega),Int.toNat_natCast];exact P5 s i j
def joinL(l:List Nat):Nat:=l.foldl (·|||·) 0
theorem BL(l:List Nat):∀(a i:Nat),(l.foldl (·|||·) a).testBit i=(a.testBit i||l.any fun x=>x.testBit i):=by
 induction l with
 |nil=>intro a i;simp
 |cons x r ih=>intro a i;rw[List.foldl_cons,ih,Nat.testBit_or,List.any_cons,Bool.or_assoc]
theorem IJ(l:List Nat)(i:Nat):(joinL l).testBit i=l.any fun x=>x.testBit i:=by
 unfold joinL;rw[BL];simp
theorem xJ{l:List Nat}{n:Nat}(h:∀x∈l,x<2^n):joinL l<2^n:=by
 refine Nat.lt_pow_two_of_testBit _ (fun i hi=> ?_);rw[IJ,List.any_eq_false];intro x hx;rw[Nat.testBit_lt_two_pow (Nat.lt_of_lt_of_le (h x hx) (Nat.pow_le_pow_right (by decide) hi))];simp
theorem ER{l:List Nat}{k:Nat}(h:k<l.length):joinL (l.take (k+1))=joinL (l.take k)|||l[k]:=by
 unfold joinL;rw[List.take_succ_eq_append_getElem h,List.foldl_append];rfl
def IK(a b:Nat):Bool:=decide (a&&&(18446744073709551615-b)=0)
theorem CJ{a b:Nat}(ha:a<18446744073709551616)(hb:b<18446744073709551616):IK a b=true↔∀i,a.testBit i=true→b.testBit i=true:=by
 unfold IK;rw[decide_eq_true_iff];have hc:∀i,(18446744073709551615-b).testBit i=(decide (i<64)&& !b.testBit i):=by
  intro i;have:=Nat.testBit_two_pow_sub_succ (n:=64) (x:=b) hb i;rw[show 2^64-(b+1)=18446744073709551615-b by omega]at this;exact this
 constructor
 ·intro h i hi;have Sr:i<64:=by
   rcases Nat.lt_or_ge i 64 with h|h
   ·exact h
   ·rw[Nat.testBit_lt_two_pow (Nat.lt_of_lt_of_le (show a<2^64 from ha) (Nat.pow_le_pow_right (by decide) h))]at hi;cases hi
  have:=congrArg (fun y=>y.testBit i) h;simp only[Nat.testBit_and,hc,hi,decide_eq_true Sr,Nat.zero_testBit,Bool.true_and]at this;simpa using this
 ·intro h;refine Nat.eq_of_testBit_eq (fun i=> ?_);rw[Nat.testBit_and,hc,Nat.zero_testBit];by_cases hi:a.testBit i=true
  ·rw[h i hi];simp
  ·simp[hi]
theorem iw{n:Nat}(h:n≤64):2^n≤18446744073709551616:=Nat.le_trans (Nat.pow_le_pow_right (by decide) h) (by decide)
theorem IL{l:List Nat}{n:Nat}(hn:n≤64)(h:∀x∈l,x<2^n):IK (joinL l) (2^n-1)=true:=by
 have hp:=iw hn;have hj:=xJ h;rw[CJ (by omega) (by have:=Nat.two_pow_pos n;omega)];intro i hi;rw[Nat.testBit_two_pow_sub_one];refine decide_eq_true ?_;rcases Nat.lt_or_ge i n with h|h
 ·exact h
 ·rw[Nat.testBit_lt_two_pow (Nat.lt_of_lt_of_le hj (Nat.pow_le_pow_right (by decide) h))]at hi;cases hi
theorem mZ{p:Nat→Bool}{n:Nat}(hn:n≤64):iR (bg p n)=(List.range n).filter p:=by
 unfold iR;obtain⟨m,hm⟩:=Nat.le.dest hn;rw[←hm,List.range_add,List.filter_append];have h1:(List.range n).filter (fun i=>(bg p n).testBit i)=(List.range n).filter p:=List.filter_congr fun i hi=>by
  have:i<n:=(by simpa using hi);rw[aP];simp[this]
 have h2:((List.range m).map (n+·)).filter (fun i=>(bg p n).testBit i)=[]:=by
  rw[List.filter_eq_nil_iff];intro i hi;obtain⟨k,_,rfl⟩:=List.mem_map.1 hi;rw[aP];simp;intro h;omega
 rw[h1,h2,List.append_nil]
def jG(a b:Nat):aj:=fun x y=>decide (x=a)&&decide (y=b)
def noE:aj:=fun _ _=>false
theorem CK(n:Nat):dQ n noE=List.replicate n 0:=by
 refine List.ext_getElem (by simp[aQ]) fun a h1 h2=> ?_;have ha:a<n:=(by rw[aQ]at h1;exact h1);rw[gD ha,List.getElem_replicate];refine Nat.eq_of_testBit_eq (fun i=> ?_);rw[aP];simp[noE]
theorem uw{p:Nat→Bool}{n b:Nat}(hb:b<n)(hn:n≤64):oz (bg p n) (b:Int)=bg (fun y=>p y||decide (y=b)) n:=by
 refine BI ?_ (fun i hi=> ?_)
 ·refine Nat.lt_pow_two_of_testBit _ (fun i hi=> ?_);rw[zI _ (by omega),aP];simp;omega
 ·rw[zI _ (by omega),aP];have:decide (b=i)=decide (i=b):=(by simp[eq_comm]);simp[hi,this]
theorem IQ{n:Nat}{E:aj}{a b:Nat}(ha:a<n)(hb:b<n)(hn:n≤64):(dQ n E).set a (oz ((dQ n E)[a]'(by rw[aQ];exact ha)) (b:Int))=dQ n (orE E (jG a b)):=by
 generalize e2:(dQ n E)[a]'(by rw[aQ];exact ha)=v;rw[gD ha]at e2;subst e2;refine List.ext_getElem (by simp[aQ]) fun x h1 h2=> ?_;have hx:x<n:=(by rw[aQ]at h2;exact h2);have e1:(dQ n (orE E (jG a b)))[x]'h2=bg (orE E (jG a b) x) n:=gD hx;have e3:(dQ n E)[x]'(by rw[aQ];exact hx)=bg (E x) n:=gD hx;rw[List.getElem_set,e1];split
 ·rename_i e;subst e;rw[uw hb hn];exact dH fun y hy=>by simp[orE,jG]
 ·rename_i e;rw[e3];exact dH fun y hy=>by
   have:decide (x=a)=false:=(by simp;omega);simp[orE,jG,this]
theorem uy(a b:Nat):joinL [a,b]=a|||b:=by unfold joinL;simp
theorem BM{p q:Nat→Bool}{n:Nat}:bg p n|||bg q n=bg (fun y=>p y||q y) n:=by
 refine BI (Nat.or_lt_two_pow (kQ _ _) (kQ _ _)) (fun i hi=> ?_);rw[Nat.testBit_or,aP,aP];simp[hi]
def oC(n:Nat)(E:aj):List (Nat×Nat):=((List.range n).map fun a=>((List.range n).filter (E a)).map fun b=>(a,b)).flatten
theorem xK{n:Nat}{E:aj}{a b:Nat}:(a,b)∈oC n E↔a<n∧b<n∧E a b=true:=by
 unfold oC;rw[List.mem_flatten];constructor
 ·rintro⟨l,hl,h⟩;obtain⟨x,hx,rfl⟩:=List.mem_map.1 hl;obtain⟨y,hy,e⟩:=List.mem_map.1 h;injection e with e1 e2
  subst e1 e2;rw[List.mem_filter]at hy;exact⟨by simpa using hx,by simpa using hy.1,hy.2⟩
 ·rintro⟨ha,hb,he⟩;exact⟨_,List.mem_map.2 ⟨a,by simpa using ha,rfl⟩,List.mem_map.2 ⟨b,List.mem_filter.2 ⟨by simpa using hb,he⟩,rfl⟩⟩
def ofL(l:List (Nat×Nat)):aj:=fun a b=>l.contains (a,b)
theorem Lg(l:List (Nat×Nat))(a b:Nat):ofL (l++[(a,b)])=orE (ofL l) (jG a b):=by
 funext x y;unfold ofL orE jG;rw[Bool.eq_iff_iff];simp
end Go.Inq
namespace Go.Inq
open Go Go.RowKit
def IU(n:Nat):List Value:=[.int .u64 n]
def jd(w:World)(K:Nat→Prop)(v:Value)(l:List Nat):Prop:=SlR 1 (Flat IU) w K v l
section
variable{w w':World}{K K':Nat→Prop}{v:Value}{l:List Nat}
theorem jd.keep(h:jd w K v l)(ha:Agree K w w')(hk:∀b,K b→K' b):jd w' K' v l:=SlR.keep (Flat.aT _) h ha hk
theorem jd.below(h:jd w (Old w) v l)(hb:Below w.heap.size w w'):jd w' (Old w') v l:=SlR.below (Flat.aT _) h hb
theorem jd.fit(h:jd w K v l)(hk:∀b,K b→K' b):jd w K' v l:=SlR.fit (Flat.aT _) h hk
theorem jd.at_{A:Option Addr}{n c:Nat}(h:jd w K (.slice A n c) l){i:Nat}(hi:i<l.length):∃b off,A=some ⟨b,off,none⟩∧K b∧w.cell? ⟨b,off+i,none⟩=some (.int .u64 (l[i]:Nat)):=by
 obtain⟨b,off,cs,hA,hK,_,hR,hc⟩:=SlR.at_ h hi;unfold Flat at hR;subst hR;have:=hc 0 _ rfl;rw[Nat.mul_one,Nat.add_zero]at this;exact⟨b,off,hA,hK,this⟩
theorem jd.cells{b off n c:Nat}(h:jd w K (.slice (some ⟨b,off,none⟩) n c) l){i:Nat}(hi:i<l.length):K b∧w.cell? ⟨b,off+i,none⟩=some (.int .u64 (l[i]:Nat)):=by
 obtain⟨cs,hK,_,hR,hc⟩:=SlR.cells h hi;unfold Flat at hR;subst hR;have:=hc 0 _ rfl;rw[Nat.mul_one,Nat.add_zero]at this;exact⟨hK,this⟩
theorem jd.nil(w:World)(K:Nat→Prop)(A:Option Addr)(c:Nat):jd w K (.slice A 0 c) []:=SlR.nil _ _ _ _ _ _
theorem jd.bT{g:Nat}{t:TypeId}(h:Blk w g t (l.map fun x:Nat=>Value.int .u64 x).toArray)(hK:K g):jd w K (.slice (some ⟨g,0,none⟩) l.length l.length) l:=by
 refine⟨some ⟨g,0,none⟩,l.length,l.map IU,rfl,Nat.le_refl _,by simp,fun i cs x h1 h2=> ?_,fun _=>⟨g,0,rfl,hK,fun i j cs u h1 h2=> ?_⟩⟩
 ·rw[List.getElem?_map,h2]at h1;injection h1 with h1
  exact⟨by rw[←h1];rfl,h1.symm⟩
 ·rw[List.getElem?_map]at h1;cases hl:l[i]? with
  |none=>rw[hl]at h1;cases h1
  |some x=>
   rw[hl]at h1;injection h1 with h1
   subst h1;cases j with
   |zero=>
    injection h2 with h2
    rw[Nat.zero_add,Nat.mul_one,Nat.add_zero,h.cell,gA,List.getElem?_map,hl,←h2];rfl
   |succ j=>simp[IU]at h2
end
structure GrS(w:World)(K:Nat→Prop)(n:Nat)(A:Option Addr)(c:Nat)(E:aj):Prop where
 sl:jd w K (.slice A n c) (dQ n E)
 n64:n≤64
def bE(n:Nat)(E:aj):Array Value:=((dQ n E).map fun x:Nat=>Value.int .u64 x).toArray
theorem oD{n:Nat}{E:aj}{a:Nat}(h:a<n):(bE n E)[a]?=some (.int .u64 (bg (E a) n:Nat)):=by
 unfold bE;rw[gA,List.getElem?_map,List.getElem?_eq_getElem (by rw[aQ];exact h),gD h];rfl
theorem zJ{n:Nat}{E:aj}{a b:Nat}(ha:a<n)(hb:b<n)(hn:n≤64):(bE n E).setIfInBounds a (.int .u64 (oz (bg (E a) n) (b:Int):Nat))=bE n (orE E (jG a b)):=by
 unfold bE;rw[←IQ ha hb hn,sA,List.map_set,gD ha]
theorem zK{n:Nat}{E:aj}{a x:Nat}{p:Nat→Bool}(ha:a<n)(hx:x=bg p n):(bE n E).setIfInBounds a (.int .u64 (x:Nat))=bE n (fun i=>if i=a then p else E i):=by
 unfold bE;rw[sA];congr 1;refine List.ext_getElem (by simp[aQ]) fun i h1 h2=> ?_;have hi:i<n:=(by simpa[aQ]using h2);rw[List.getElem_set,List.getElem_map,List.getElem_map,gD hi,gD hi];by_cases e:a=i
 ·subst e;rw[if_pos rfl,if_pos rfl,hx]
 ·rw[if_neg e,if_neg (fun h=>e h.symm)]
theorem Lh(n:Nat):bE n noE=madeCells #[.int .u64 0] n:=by
 unfold bE;rw[CK];refine Array.ext (by simp[size_madeCells]) fun i h1 h2=> ?_;simp[madeCells,Nat.mod_one]
theorem dD{n:Nat}{E F:aj}(h:∀a b,a<n→b<n→E a b=F a b):bE n E=bE n F:=by unfold bE;rw[vD h]
section
variable{w w':World}{K K':Nat→Prop}{n c:Nat}{A:Option Addr}{E F:aj}
theorem GrS.keep(h:GrS w K n A c E)(ha:Agree K w w')(hk:∀b,K b→K' b):GrS w' K' n A c E:=⟨h.sl.keep ha hk,h.n64⟩
theorem GrS.below(h:GrS w (Old w) n A c E)(hb:Below w.heap.size w w'):GrS w' (Old w') n A c E:=⟨h.sl.below hb,h.n64⟩
theorem GrS.fit(h:GrS w K n A c E)(hk:∀b,K b→K' b):GrS w K' n A c E:=⟨h.sl.fit hk,h.n64⟩
theorem GrS.at_(h:GrS w K n A c E){i:Nat}(hi:i<n):∃b off,A=some ⟨b,off,none⟩∧K b∧w.cell? ⟨b,off+i,none⟩=some (.int .u64 (bg (E i) n:Nat)):=by
 obtain⟨b,off,hA,hK,hc⟩:=h.sl.at_ (i:=i) (by rw[aQ];exact hi);rw[gD hi]at hc;exact⟨b,off,hA,hK,hc⟩
theorem GrS.cells{b off:Nat}(h:GrS w K n (some ⟨b,off,none⟩) c E){i:Nat}(hi:i<n):K b∧w.cell? ⟨b,off+i,none⟩=some (.int .u64 (bg (E i) n:Nat)):=by
 obtain⟨b',off',hA,hK,hc⟩:=h.at_ hi;injection hA with hA;injection hA with h1 h2;subst h1 h2
 exact⟨hK,hc⟩
theorem GrS.bT{g:Nat}{t:TypeId}(h:Blk w g t (bE n E))(hK:K g)(hn:n≤64):GrS w K n (some ⟨g,0,none⟩) n E:=by
 have:=jd.bT (l:=dQ n E) h hK;rw[aQ]at this;exact⟨this,hn⟩
theorem GrS.congr(h:GrS w K n A c E)(hE:∀a b,a<n→b<n→E a b=F a b):GrS w K n A c F:=⟨by rw[←vD hE];exact h.sl,h.n64⟩
theorem GrS.zero(w:World)(K:Nat→Prop)(A:Option Addr)(c:Nat)(E:aj):GrS w K 0 A c E:=⟨by simpa[dQ]using jd.nil w K A c,by omega⟩
end
theorem fq{p:Nat→Bool}{n:Nat}(h:n≤64):bg p n<18446744073709551616:=Nat.lt_of_lt_of_le (kQ p n) (iw h)
def Li(t:TypeId)(w:World)(n:Nat)(E:aj)(e:Ending)(w':World):Prop:=
 ∃g,w.heap.size≤g∧e= .returned (.tuple #[.agg #[.int .i64 n,.slice (some ⟨g,0,none⟩) n n],.int .i64 0])∧Blk w' g t (bE n E)∧Below w.heap.size w w'
theorem Li.congr{t:TypeId}{w w':World}{n:Nat}{E F:aj}{e:Ending}(h:Li t w n E e w')(hE:∀a b,a<n→b<n→E a b=F a b):Li t w n F e w':=by
 unfold Li at h⊢;rw[←dD hE];exact h
end Go.Inq
namespace Go.Proofs.YtfhnamomiaekdaaGreatDoor
open Go.RowKit Go.Inq
set_option maxHeartbeats 1000000
attribute [local go_sem↓] Go.wp_at_zero Go.wp_at_succ
theorem Ho(i:Int)(w:World):Calls Tryz.prog 173 #[.int .i64 i] w fun e w'=>e= .returned (.int .u64 (sD i:Nat))∧w=w':=by
 by_cases h0:i<0
 ·have hr:=hide (Ld h0);have h0b:decide (i<0)=true:=(by simpa using h0);clear h0;go_enter Tryz.func173,Tryz.ntmps173;go_wp2;go_ret;exact⟨by rw[hr.out];rfl,rfl⟩
 ·by_cases h1:64≤i
  ·have hr:=hide (II h1);have h0b:decide (i<0)=false:=(by simpa using h0);have h1b:decide (i≥64)=true:=(by simpa using h1);clear h0 h1;go_enter Tryz.func173,Tryz.ntmps173;go_wp2;go_ret;exact⟨by rw[hr.out];rfl,rfl⟩
  ·have hr:=hide (Hl (i:=i) (by omega) (by omega));have hlt:=hide (BK i);have h0b:decide (i<0)=false:=(by simpa using h0);have h1b:decide (i≥64)=false:=(by simpa using h1);have h2:0≤i:=(by omega);have h3:i≤64:=(by omega);clear h0 h1;go_enter Tryz.func173,Tryz.ntmps173;go_wp2;go_ret;refine⟨dw ?_,rfl⟩;have e1:=hr.out;have e2:=hlt.out;rw[e1]at e2;have e3:min i.toNat IntKind.u64.bits=i.toNat:=(by simp[IntKind.bits];omega);try rw[e3]
   rw[IntKind.wrap_u64,e1];have e4:((2:Int)^i.toNat)=((2^i.toNat:Nat):Int):=(by simp);omega
theorem IV(s:Nat)(hs:s<18446744073709551616)(i:Int)(w:World):Calls Tryz.prog 102 #[.int .u64 s,.int .i64 i] w fun e w'=>e= .returned (.bool (Go.Inq.hasB s i))∧w=w':=by
 have h1:=u64_and_nat s (sD i) hs (BK i);have hr:=hide (Lf hs i);go_enter Tryz.func102,Tryz.ntmps102;go_wp2_with fail;refine(Ho i _).mono ?_;rintro e w1 ⟨rfl,rfl⟩;go_wp2;go_ret;refine⟨aR ?_,rfl⟩;have:=hr.out;rw[←Bool.not_not (Go.Inq.hasB s i),←this,Bool.eq_iff_iff];simp
theorem qW(s:Nat)(hs:s<18446744073709551616)(i:Int)(w:World):Calls Tryz.prog 134 #[.int .u64 s,.int .i64 i] w fun e w'=>e= .returned (.int .u64 (oz s i:Nat))∧w=w':=by
 have h1:=u64_or_nat s (sD i) hs (BK i);go_enter Tryz.func134,Tryz.ntmps134;go_wp2_with fail;refine(Ho i _).mono ?_;rintro e w1 ⟨rfl,rfl⟩;go_wp2;go_ret;exact⟨rfl,rfl⟩
theorem zL(a b:Nat)(ha:a<18446744073709551616)(hb:b<18446744073709551616)(w:World):Calls Tryz.prog 133 #[.int .u64 a,.int .u64 b] w fun e w'=>e= .returned (.bool (IK a b))∧w=w':=by
 have h1:=u64_andNot_nat a b ha hb;go_enter Tryz.func133,Tryz.ntmps133;go_wp2;go_ret;refine⟨aR ?_,rfl⟩;unfold IK;rw[Bool.eq_iff_iff];simp
theorem fE(A:Option Addr)(n c:Nat)(l:List Nat)(K:Nat→Prop)(w:World)(hn:l.length=n)(h:jd w K (.slice A n c) l)(h64:∀x∈l,x<18446744073709551616)(hm:n≤1000000):
 Calls Tryz.prog 171 #[.slice A n c] w fun e w'=>e= .returned (.int .u64 (joinL l:Nat))∧w=w':=by
 replace hn:=hide hn;have hj:∀k,joinL (l.take k)<18446744073709551616:=fun k=>xJ (n:=64) fun x hx=>h64 x (List.mem_of_mem_take hx);replace hj:=hide hj;replace h64:=hide h64;go_enter Tryz.func171,Tryz.ntmps171;go_wp2_with fail
 go_loop [3,8] (fun s3 s8=>∃k:Nat,k≤n∧s8= .int .i64 k∧s3= .int .u64 (joinL (l.take k):Nat)) (fun _ s8=>n-(intOf s8).toNat)
 case atStart=>exact⟨0,Nat.zero_le _,by go_num,rfl⟩
 case round=>
  obtain⟨k,hk,rfl,rfl⟩:=hrel;by_cases hlt:k<n
  ·have hi1:(0:Int)≤(k:Int):=Int.natCast_nonneg _;have hi2:(k:Int)<(n:Int):=(by omega);have hkl:k<l.length:=(by rw[hn.out];exact hlt);obtain⟨b,off,rfl,hbK,hc⟩:=jd.at_ h hkl;have hor:=u64_or_nat (joinL (l.take k)) l[k] (hj.out k) (h64.out _ (List.getElem_mem hkl));have hst:=hide (ER hkl);generalize l[k]=x at*;generalize joinL (l.take k)=y at*;clear hkl;go_wp2
   go_round
   case rel=>exact⟨k+1,by omega,by go_num,by rw[hst.out]⟩
   case measure=>simp[intOf];omega
  ·obtain rfl:k=n:=(by omega);have ht:l.take k=l:=List.take_of_length_le (by rw[hn.out];exact Nat.le_refl _);rw[ht];clear ht;go_wp2;go_ret;exact⟨rfl,rfl⟩
theorem CO(n:Nat)(hn:n≤64)(w:World):Calls Tryz.prog 172 #[.int .i64 n] w fun e w'=>e= .returned (.int .u64 (2^n-1:Nat))∧w=w':=by
 have h2:(0:Int)≤(n:Int):=Int.natCast_nonneg _;have h3:(n:Int)≤64:=(by omega);have hp:=hide (iw hn);have hp2:=hide (Nat.two_pow_pos n);go_enter Tryz.func172,Tryz.ntmps172;go_wp2;go_ret;refine⟨dw ?_,rfl⟩;have e1:=hp.out;have e2:=hp2.out;have e3:min n IntKind.u64.bits=n:=(by simp[IntKind.bits];omega);have e4:((2:Int)^n)=((2^n:Nat):Int):=(by simp);simp only[Int.toNat_natCast,IntKind.wrap_u64]at*;try rw[e3]
 rw[e4];generalize 2^n=x at*;omega
def iH(w:World):Prop:=∀j,j<Lib.deBruijn64tab.length→w.cell? ⟨0,j,none⟩=some (.int .u8 (Lib.deBruijn64tab.getD j 0))
theorem iH.lt{w:World}(h:iH w):0<w.heap.size:=by
 have:=h 0 (by decide);rcases Nat.lt_or_ge 0 w.heap.size with g|g
 ·exact g
 ·unfold World.cell? at this;simp[Array.getElem?_eq_none g]at this
theorem iH.below{w w':World}(h:iH w)(hb:Below w.heap.size w w'):iH w':=fun j hj=>(hb.cell (p:=⟨0,j,none⟩) h.lt).trans (h j hj)
theorem iH.drewN{w:World}(h:iH w)(n:Nat):iH (w.drewN n):=h
theorem Qa(x a:Nat)(hx:x<18446744073709551616)(hx0:x≠0)(hlow:x&&&(18446744073709551616-x)=a):
 IntKind.u64.wrap (bits BinOp.and IntKind.u64 (x:Int) (IntKind.u64.wrap (-(x:Int)))*285870213051353865)/288230376151711744=((a*285870213051353865%18446744073709551616/288230376151711744:Nat):Int):=by
 have e1:IntKind.u64.wrap (-(x:Int))=((18446744073709551616-x:Nat):Int):=(by rw[IntKind.wrap_u64];omega);rw[e1,u64_and_nat x _ hx (by omega),hlow,IntKind.wrap_u64];omega
theorem Og (x k idx:Nat) (w:World) (hx0:((x:Int)==0)=false)
 (key:IntKind.u64.wrap (bits BinOp.and IntKind.u64 (x:Int) (IntKind.u64.wrap (-(x:Int)))*285870213051353865)/288230376151711744=(idx:Int))
 (hi:idx<64) (hk:k<64) (hcell:w.cell? ⟨0,idx,none⟩=some (.int .u8 k)):
 Calls Tryz.prog 192 #[.int .u64 x] w fun e w'=>e= .returned (.int .i64 k)∧w=w':=by
 go_enter Tryz.func192,Tryz.ntmps192;go_wp2_with (simp only[key]);go_ret;exact⟨rfl,rfl⟩
theorem Lj(x:Nat)(hx:x<18446744073709551616)(w:World)(hT:iH w):
 Calls Tryz.prog 192 #[.int .u64 x] w fun e w'=>e= .returned (.int .i64 (Lib.ctz 64 x))∧w=w':=by
 by_cases hx0:x=0
 ·subst hx0;go_enter Tryz.func192,Tryz.ntmps192;go_wp2;go_ret;exact⟨rfl,rfl⟩
 ·obtain⟨hlow,hk⟩:=Lib.lowest_bit 64 x hx0 hx;obtain⟨hi,htab⟩:=Lib.deBruijn64_at _ hk;have hcell:=hT _ hi;rw[htab]at hcell;exact Og x _ _ w (by simp;omega) (Qa x _ hx hx0 hlow) hi hk hcell
end Go.Proofs.YtfhnamomiaekdaaGreatDoor
namespace Go.Inq
open Go Go.RowKit
theorem below_grown{B:Nat}{w0 w w':World}{row:Option Nat}(hb:Below B w0 w)(hg:w.grownBy w' row)(hB:B≤w.heap.size)(hr:∀k,row=some k→B≤k):Below B w0 w':=
 hb.trans ⟨hg.os,hg.tape,hg.output,hg.size,fun k hk=>hg.block k (Nat.lt_of_lt_of_le hk hB) (fun e=>by have:=hr k e.symm;omega)⟩
theorem bR {P:Program} {W:World} {ops:Array Oper} {rest:List Oper} {o:Oper} {a:Act} {Q:Exit→Act→World→Prop} {α:Type} {enc:α→List Value}
 (hgd:o.guard=none) (s x:Operand) (t:TypeId) (ho:o.op= .call {callee:= .builtin .append,args:=#[s,x],argTypes:=#[t,t]})
 (base:Nat) (e:TypeId) (i:TypeInfo) (z:Value) (size bytes:Nat) (ht:P.underlying t=some (.slice e)) (hi:P.info? e=some i) (hz:i.zero=some z)
 (hsize:i.size=size) (hby:i.bytes=bytes) (hzs:z.cells.size=size) (hsz:0<size)
 (v:Value) (l:List α) (hs:a.eval s=v) (hown:W.ownsRow base e size v l.length (l.map enc).flatten) (hen:∀x,(enc x).length=size)
 (x0:α) (cs:Array Value) (hcs:cs.toList=enc x0) (hx:a.eval x= .slice (some ⟨W.heap.size,0,none⟩) 1 1)
 (h1:∀x,∀u∈enc x,u.oneCell'=true) (h63:l.length+1≤maxLen) (hbytes:(l.length+1)*bytes≤140737488355328) (hbase:base≤W.heap.size)
 (w0:World) (B:Nat) (hB:B≤base) (hb:Below B w0 W)
 (h:∀v' w',w'.ownsRow base e size v' (l++[x0]).length ((l++[x0]).map enc).flatten→(W.alloc (.cells cs e)).grownBy w' v.ownBlock→Below B w0 w'→(v'.ownBlock=v.ownBlock∨v'.ownBlock=some (W.heap.size+1))→wpList P ops Q rest (a.put o.dst v') w'):
 wpList P ops Q (o::rest) a (W.alloc (.cells cs e)):=by
 have hk:Blk (W.alloc (.cells cs e)) W.heap.size e cs:=Blk.new _ _ _;have hl:cs.size=size:=(by rw[←Array.length_toList,hcs,hen]);refine bX (enc:=enc) hgd s x t ho base e i z size bytes ht hi hz hsize hby hzs hsz v (fun _=>True) l hs (hown.alloc _) hen _ [x0] hx (SlR.one hk hl (by unfold Flat;exact hcs) trivial) h1 h63 hbytes (by simp;omega) ?_;intro v' w' g1 g2 g3;refine h v' w' g1 g2 (below_grown (hb.alloc (by omega) _) g2 (by simp;omega) ?_) (by simpa using g3);intro k hk;have:=(hown.lt k hk).1;omega
end Go.Inq
namespace Go.Proofs.YtfhnamomiaekdaaGreatDoor
open Go.RowKit Go.Inq
set_option maxHeartbeats 1000000
attribute [local go_sem↓] Go.wp_at_zero Go.wp_at_succ
def ay(l:List Nat):List Int:=l.map fun(n:Nat)=>(n:Int)
theorem fF(l:List Nat)(x:Nat):ay (l++[x])=ay l++[(x:Int)]:=by simp[ay]
theorem aK(l:List Nat):(ay l).length=l.length:=by simp[ay]
theorem jT{l:List Nat}{i:Nat}(h:i<l.length):(ay l)[i]'(by rw[aK];exact h)=(l[i]:Int):=by simp[ay]
theorem gP:(Tryz.prog.info? 3).map (fun i=>(i.zero,i.size,i.bytes))=some (some (.int .i64 0),1,8):=by kernel_rfl
def aU(w:World)(base:Nat)(v:Value)(l:List Int):Prop:=w.ownsRow base 3 1 v l.length (l.map Go.Inq.encI).flatten
def wo(w:World)(l:List Int)(e:Ending)(w':World):Prop:=∃v,e= .returned v∧aU w' w.heap.size v l∧Below w.heap.size w w'
theorem aU.form{w:World}{base:Nat}{v:Value}{l:List Int}(h:aU w base v l):∃A c,v= .slice A l.length c:=bC h
theorem aU.sl{w:World}{base:Nat}{v:Value}{l:List Int}(h:aU w base v l){K:Nat→Prop}(hK:∀g,base≤g→g<w.heap.size→K g):aO w K v l:=SlR.of_flat h rfl (fun _=>rfl) hK
theorem aU.nil(w:World)(base:Nat):aU w base (.slice none 0 0) []:=World.ownsRow_nil _ _ _ _
def B64(n:Nat):Prop:=n<18446744073709551616
def CP(s y:Nat)(l:List Nat):Prop:=l++iR y=iR s
theorem ES{s y:Nat}{l:List Nat}(h:CP s y l)(h0:y≠0)(hy:y<18446744073709551616):CP s (y&&&(y-1)) (l++[Lib.ctz 64 y]):=by
 unfold CP at h⊢;rw[←h,qU y h0 hy];simp
theorem ni(s:Nat)(hs:s<18446744073709551616)(w:World)(hT:iH w):
 Calls Tryz.prog 131 #[.int .u64 s] w (wo w (ay (iR s))):=by
 obtain⟨ii,hii,hi1,hi2,hi3⟩:=info_parts gP;go_enter Tryz.func131,Tryz.ntmps131;go_wp2_with fail;go_loopw [0,3] (fun s0 s3 wr=>∃(y:Nat) (l:List Nat),B64 y∧s0= .int .u64 y∧Hid (CP s y l)∧aU wr w.heap.size s3 (ay l)∧Below w.heap.size w wr) (fun s0 _ _=>(iR (intOf s0).toNat).length);case atStart=>exact⟨s,[],hs,rfl,(show[]++iR s=iR s from rfl),aU.nil _ _,Below.refl _ _⟩
 case round=>
  obtain⟨y,l,hy,rfl,hr,hown,hb⟩:=hrel;unfold B64 at hy;by_cases h0:y=0
  ·subst h0;have he:=hr.out;unfold CP at he;rw[EM,List.append_nil]at he;subst he;go_wp2;go_ret;exact⟨_,rfl,hown,hb⟩
  ·have h0b:((y:Int) !=0)=true:=(by simp;omega);have hT2:=hT.below hb;have hn:=hide (ES hr.out h0 hy);have hlen:l.length+1≤64:=by
    have h1:=congrArg List.length hr.out;have h2:=congrArg List.length (qU y h0 hy);have h3:=IB s;simp only[List.length_append,List.length_cons]at h1 h2;omega
   have hand:=u64_and_nat y (y-1) hy (by omega);have hsub:IntKind.u64.wrap ((y:Int)-1)=((y-1:Nat):Int):=(by rw[IntKind.wrap_u64];omega);have hlt:=hide (Lb y hy);have hms:=hide (show(iR (y&&&(y-1))).length<(iR y).length by rw[qU y h0 hy];simp);generalize y&&&(y-1)=z at*;generalize y-1=y1 at*;have hsz:=hb.size;obtain⟨A,c,rfl⟩:=hown.form;replace hown:=hide hown;replace hr:=hide hr.out;replace hy:=hide hy;clear h0 hs;go_wp2_with (first|(go_at_call 192;refine(Lj y hy.out _ hT2).mono ?_;rintro e w' ⟨rfl,rfl⟩)|(at_builtin;refine bR (enc:=Go.Inq.encI) rfl (.tmp 10) (.tmp 13) 33 rfl w.heap.size 3 ii _ 1 8 Tryz.underlying33 hii hi1 hi2 hi3 rfl (by decide) (.slice A (ay l).length c) (ay l) rfl hown.out (fun _=>rfl) (Lib.ctz 64 y:Int) _ rfl rfl gB (by rw[aK];simp[maxLen];omega) (by rw[aK];omega) hsz w w.heap.size (Nat.le_refl _) hb ?_;intro v1 w1 hown1 hg1 hb1 _));go_roundw;case rel=>exact⟨z,l++[Lib.ctz 64 y],hlt.out,rfl,hn,by unfold aU;rw[fF];exact hown1,hb1⟩
   case measure=>
    simp only[intOf,Int.toNat_natCast];exact hms.out
end Go.Proofs.YtfhnamomiaekdaaGreatDoor
namespace Go.Inq
open Go Go.RowKit
theorem sF {P:Program} {w:World} {ops:Array Oper} {rest:List Oper} {o:Oper} {a:Act} {Q:Exit→Act→World→Prop} {α:Type} (f:α→Value)
 (hgd:o.guard=none) (d s:Operand) (dT sT:TypeId) (ho:o.op= .call {callee:= .builtin .copy,args:=#[d,s],argTypes:=#[dT,sT]})
 (elem:TypeId) (hu:P.underlying dT=some (.slice elem)) (hsz:(P.info? elem).map (·.size)=some 1)
 (g n dc c:Nat) (A:Option Addr) (hd:a.eval d= .slice (some ⟨g,0,none⟩) n dc) (hs:a.eval s= .slice A n c)
 (cur:Array Value) (t:TypeId) (hg:Blk w g t cur) (hcur:cur.size=n) (l:List α) (hl:l.length=n)
 (hsrc:∀i (hi:i<l.length),∃b off,A=some ⟨b,off,none⟩∧w.cell? ⟨b,off+i,none⟩=some (f l[i])) (h1:∀x∈l,(f x).oneCell'=true)
 (h:∀w',Blk w' g t (l.map f).toArray→w.grownBy w' (some g)→wpList P ops Q rest (a.put o.dst (goInt n)) w'):wpList P ops Q (o::rest) a w:=by
 by_cases h0:n=0
 ·subst h0;have:l=[]:=List.eq_nil_of_length_eq_zero hl;subst this;have hc:cur=#[]:=Array.eq_empty_of_size_eq_zero hcur;subst hc;exact wpList_copy_nothing hgd d s dT sT ho elem hu hsz _ _ 0 dc 0 c hd hs rfl (h w (by simpa using hg) ⟨rfl,rfl,rfl,Nat.le_refl _,fun _ _ _=>rfl⟩)
 ·obtain⟨b,off,rfl,_⟩:=hsrc 0 (by omega);have hcs:(l.map f).length=n:=(by simpa using hl);refine wpList_copy_own hgd d s dT sT ho elem hu hsz g 0 n dc ⟨b,off,none⟩ n c hd hs cur t hg (l.map f) (by rw[hcs];simp[Nat.min_def]) (fun j v hj=> ?_) (by rw[hcs];omega) (fun v hv=> ?_) ?_
  ·rw[List.getElem?_map]at hj;cases hlj:l[j]? with
   |none=>rw[hlj]at hj;cases hj
   |some x=>
    rw[hlj]at hj;injection hj with hj
    obtain⟨hjl,rfl⟩:=List.getElem?_eq_some_iff.1 hlj;obtain⟨b',off',hA,hc⟩:=hsrc j hjl;injection hA with hA
    injection hA with e1 e2
    subst e1 e2;rw[Addr.add_lit,←hj];exact hc
  ·obtain⟨x,hx,rfl⟩:=List.mem_map.1 hv;exact h1 x hx
  ·rw[hcs];have e:(cur.toList.take 0++(l.map f++cur.toList.drop (0+n))).toArray=(l.map f).toArray:=by
    rw[List.drop_of_length_le (by simp;omega)];simp
   rw[e];exact h _ (setRow_heap w g cur _ t _ hg) ⟨rfl,rfl,rfl,by simp[World.setRow],fun k hk hne=>setRow_other w g k _ (fun e=>hne (by rw[e]))⟩
section
variable{w W:World}{o:Obj}{K:Nat→Prop}
theorem Blk.au{g:Nat}{t:TypeId}{cs:Array Value}(h:Blk w g t cs)(e:w.alloc o=W):Blk W g t cs:=by subst e;exact h.alloc o
theorem Agree.au(e:w.alloc o=W)(hk:∀b,K b→b<w.heap.size):Agree K w W:=by subst e;exact Agree.alloc hk o
theorem ah{B:Nat}{w0:World}(h:Below B w0 w)(e:w.alloc o=W)(hB:B≤w.heap.size):Below B w0 W:=by subst e;exact h.alloc hB o
theorem Blk.newEq{t:TypeId}{cs:Array Value}(e:w.alloc (.cells cs t)=W):Blk W w.heap.size t cs:=by subst e;exact Blk.new _ _ _
theorem Blk.jr{t:TypeId}{cs:Array Value}(e:(w.alloc (.cells cs t)).alloc o=W):Blk W w.heap.size t cs:=by subst e;exact(Blk.new _ _ _).alloc _
theorem Blk.iE{t:TypeId}{cs:Array Value}(e:(w.alloc o).alloc (.cells cs t)=W):Blk W (w.heap.size+1) t cs:=by
 subst e;have:=Blk.new (w.alloc o) t cs;simpa using this
theorem size_two{o':Obj}(e:(w.alloc o).alloc o'=W):W.heap.size=w.heap.size+2:=by subst e;simp
theorem aM{o':Obj}(e:(w.alloc o).alloc o'=W):Below w.heap.size w W:=by subst e;exact((Below.refl _ _).alloc (Nat.le_refl _) _).alloc (by simp) _
theorem Blk.xL{o':Obj}{t:TypeId}{cs:Array Value}(e:((w.alloc (.cells cs t)).alloc o).alloc o'=W):Blk W w.heap.size t cs:=by subst e;exact((Blk.new _ _ _).alloc _).alloc _
theorem Blk.uz{o':Obj}{t:TypeId}{cs:Array Value}(e:((w.alloc o).alloc (.cells cs t)).alloc o'=W):Blk W (w.heap.size+1) t cs:=by
 subst e;have:=(Blk.new (w.alloc o) t cs).alloc o';simpa using this
theorem Blk.uD{o':Obj}{t:TypeId}{cs:Array Value}(e:((w.alloc o).alloc o').alloc (.cells cs t)=W):Blk W (w.heap.size+1+1) t cs:=by
 subst e;have:=Blk.new ((w.alloc o).alloc o') t cs;simpa using this
theorem ET{o' o'':Obj}(e:((w.alloc o).alloc o').alloc o''=W):W.heap.size=w.heap.size+3:=by subst e;simp
theorem iA{o' o'':Obj}(e:((w.alloc o).alloc o').alloc o''=W):Below w.heap.size w W:=by subst e;exact(((Below.refl _ _).alloc (Nat.le_refl _) _).alloc (by simp) _).alloc (by simp;omega) _
theorem aF(e:w.alloc o=W):W.heap.size=w.heap.size+1:=by subst e;simp
end
theorem ak{w w' w'':World}{r:Option Nat}(h:w.grownBy w' r)(h':w'.grownBy w'' r):w.grownBy w'' r:=
 ⟨h'.os.trans h.os,h'.tape.trans h.tape,h'.output.trans h.output,Nat.le_trans h.size h'.size,fun k hk hne=>(h'.block k (Nat.lt_of_lt_of_le hk h.size) hne).trans (h.block k hk hne)⟩
theorem bM{w w':World}{B:Nat}{r:Option Nat}(hb:Below B w w')(hB:w.heap.size≤B):w.grownBy w' r:=⟨hb.os,hb.tape,hb.output,hb.size,fun k hk _=>hb.block k (by omega)⟩
theorem bQ{w:World}(g i:Nat)(u:Value):w.grownBy (w.setCell ⟨g,i,none⟩ u) (some g):=
 ⟨rfl,rfl,rfl,by simp,fun k hk hne=>Below.heap_setCell w ⟨g,i,none⟩ u k (fun e=>hne (by simp at e;rw[e]))⟩
theorem gU{w:World}{r:Option Nat}:w.grownBy w.drew r:=⟨rfl,rfl,rfl,Nat.le_refl _,fun _ _ _=>rfl⟩
theorem Agree.kU{K:Nat→Prop}{w w':World}{g:Nat}(h:w.grownBy w' (some g))(hK:∀b,K b→b<g)(hg:g≤w.heap.size):Agree K w w':=Agree.grown h fun b hb=>⟨by have:=hK b hb;omega,by have:=hK b hb;simp;omega⟩
end Go.Inq
namespace Go.Proofs.YtfhnamomiaekdaaGreatDoor
open Go.RowKit Go.Inq
set_option maxHeartbeats 4000000
attribute [local go_sem↓] Go.wp_at_zero Go.wp_at_succ
theorem pU(l:List Int):(l.map Go.Inq.encI).flatten=l.map (Value.int .i64):=by
 induction l with
 |nil=>rfl
 |cons x r ih=>rw[List.map_cons,List.flatten_cons,ih];rfl
theorem below_grow(w:World)(os:Array Obj):Below w.heap.size w (Go.Sort.grow w os):=
 ⟨rfl,rfl,rfl,by simp[Go.Sort.grow],fun k hk=>by simp[Go.Sort.grow,Array.getElem?_append,hk]⟩
theorem zM(base:Nat)(A:Option Addr)(c:Nat)(l:List Int)(w:World)(h:aU w base (.slice A l.length c) l)(hl:l.length<4611686018427387904):
 Calls Tryz.prog 159 #[.slice A l.length c] w fun e w'=>e= .returned (.tuple #[])∧aU w' base (.slice A l.length c) (l.mergeSort fun x y=>decide (x≤y))∧Below base w w':=by
 unfold aU at h⊢;rw[pU]at h⊢;by_cases hv:(Value.slice A l.length c)= .slice none 0 0
 ·injection hv with h1 h2 h3
  subst h1 h3;have:l=[]:=List.eq_nil_of_length_eq_zero h2;subst this;refine(Go.Proofs.Tryz.slices_Sort_int_none none 0 w).mono ?_;rintro e w' ⟨rfl,rfl⟩;exact⟨rfl,by rw[List.mergeSort_nil];exact World.ownsRow_nil _ _ _ _,Below.refl _ _⟩
 ·obtain⟨g,cap,hv',hbg,hgl,hn,hm,_,hH⟩:=Go.Lib.holds_of_ownsRow h hv;injection hv' with h1 h2 h3
  subst h1 h3;refine(Go.Proofs.Tryz.slices_Sort_int g 0 c l w hH hgl hl).mono ?_;rintro e w' ⟨rfl,n,os,rfl⟩;have hlen:(l.mergeSort fun x y=>decide (x≤y)).length=l.length:=List.length_mergeSort l;have hr:=Go.Lib.ownsRow_putRow (q:=n) (k:=l.length) h hlen (Nat.le_refl _);rw[List.take_of_length_le (by rw[hlen];exact Nat.le_refl _)]at hr;rw[hlen];have hb2:=Go.Lib.below_putRow (enc:=Value.int .i64) (q:=n) (d:=(l.mergeSort fun x y=>decide (x≤y)).toArray) (Below.refl base w) hbg;have hz:=(hr.lt g rfl).2;exact⟨rfl,own_below hr (below_grow _ os) (Nat.le_refl _),hb2.trans ((below_grow _ os).mono (by omega))⟩
theorem BN(base:Nat)(A:Option Addr)(c:Nat)(l:List Int)(w:World)(h:aU w base (.slice A l.length c) l)(hl:l.length≤1000000000):
 Calls Tryz.prog 184 #[.slice A l.length c] w fun e w'=>∃v,e= .returned v∧aU w' base v (Go.Lib.compact l)∧Below base w w':=by
 unfold aU at h⊢;rw[pU]at h⊢;by_cases hv:(Value.slice A l.length c)= .slice none 0 0
 ·injection hv with h1 h2 h3
  subst h1 h3;have:l=[]:=List.eq_nil_of_length_eq_zero h2;subst this;refine(Go.Proofs.Tryz.slices_Compact_int_empty none 0 w).mono ?_;rintro e w' ⟨rfl,rfl⟩;exact⟨_,rfl,World.ownsRow_nil _ _ _ _,Below.refl _ _⟩
 ·obtain⟨g,cap,hv',hbg,hgl,hn,hm,_,hH⟩:=Go.Lib.holds_of_ownsRow h hv;injection hv' with h1 h2 h3
  subst h1 h3;refine(Go.Proofs.Tryz.slices_Compact_int g 0 c l w hH (by omega) hn).mono ?_;rintro e w' ⟨rfl,q,rfl⟩;have hk:(Go.Lib.compact l).length≤l.length:=Go.Lib.compact_length_le l;have hlen:(Go.Lib.compact l++List.replicate (l.length-(Go.Lib.compact l).length) 0).length=l.length:=(by simp;omega);have hr:=Go.Lib.ownsRow_putRow (q:=q) (k:=(Go.Lib.compact l).length) h hlen hk;rw[List.take_append_of_le_length (Nat.le_refl _),List.take_length]at hr;exact⟨_,rfl,hr,Go.Lib.below_putRow (enc:=Value.int .i64) (Below.refl base w) hbg⟩
set_option maxRecDepth 100000 in
theorem sG(A:Option Addr)(c:Nat)(H:List Txn)(key:Int)(w:World)(h:aC w (Old w) (.slice A H.length c) H)(hn:aD H)(hr:aA H=true):
 Calls Tryz.prog 115 #[.agg #[.slice A H.length c],.int .i64 key] w (wo w (ay (bH H key))):=by
 obtain⟨ii,hii,hi1,hi2,hi3⟩:=info_parts gP;obtain⟨W0,hW0⟩:∃W0,w.alloc (.cells #[.slice A H.length c] 24)=W0:=⟨_,rfl⟩;have hB:=ah (Below.refl w.heap.size w) hW0 (Nat.le_refl _);have k0:=Blk.newEq hW0;have h0:=hide (h.below hB);have hlen:=hn.1;have hwl:=hide (fun i (hi:i<H.length)=>(hn.2 _ (List.getElem_mem hi)).1);replace hn:=hide hn;replace hr:=hide hr;replace h:=hide h;have c0:=Blk.n0 k0;go_enter Tryz.func115,Tryz.ntmps115;go_wp2_with fail;clear hW0 c0;refine(bY A c H _ h0.out hn.out).mono ?_;rintro e w1 ⟨rfl,hb1⟩;rw[hr.out];replace k0:=k0.below hb1 k0.lt;have hb:=hB.trans (hb1.mono hB.size);clear hb1 hB h0;have c0:=Blk.n0 k0;go_wp2_with fail;clear c0 k0;go_loopw [5,14] (fun s5 s14 wr=>∃k:Nat,k≤H.length∧s14= .int .i64 k∧aU wr w.heap.size s5 (ay (eT H key k))∧Below w.heap.size w wr) (fun _ s14 _=>H.length-(intOf s14).toNat);case atStart=>exact⟨0,Nat.zero_le _,by go_num,aU.nil _ _,hb⟩
 case round=>
  clear hb;obtain⟨k,hk,rfl,hown,hb⟩:=hrel;have EU:(0:Int)≤(k:Int):=Int.natCast_nonneg _;by_cases hlt:k<H.length
  ·have EW:(k:Int)<(H.length:Int):=(by omega);obtain⟨b,off,Aw,cw,Ar,cr,rfl,_,d0,d1,d2,hws,_⟩:=aC.at_ (h.out.below hb) hlt;have hwk:=hwl.out k hlt;have hst:=hide (xE H key k);rw[aJ hlt]at hst;have hcnt:(eT H key k).length≤k:=Nat.le_trans (List.length_filter_le _ _) (by simp);have wu:=hb.size;obtain⟨Av,cv,rfl⟩:=hown.form;generalize H[k]=t at*;obtain⟨ts,ws,rs⟩:=t;dsimp only at*;have Ll:=hide (hws.keep (w':=wr.alloc (.cells #[.int .i64 ts,.slice Aw ws.length cw,.slice Ar rs.length cr] 109)) (Agree.alloc (fun b hb=>hb) _) (fun b h=>h));have hb2:=hb.alloc wu (.cells #[.int .i64 ts,.slice Aw ws.length cw,.slice Ar rs.length cr] 109);have hown2:=hown.alloc (.cells #[.int .i64 ts,.slice Aw ws.length cw,.slice Ar rs.length cr] 109);clear hws;replace hown2:=hide hown2;have hlq:=hide (aK (eT H key k));have hsn:=hide (fF (eT H key k) k);go_wp2_with fail;clear d0 d1 d2;refine(dS Aw cw ws key _ _ Ll.out (by unfold maxLen;omega)).mono ?_;rintro e w3 ⟨rfl,rfl⟩;have hsz2:=hb2.size;cases hc:ws.contains key with
   |true=>
    have EX:Hid (eT H key (k+1)=eT H key k++[k]):=hide (by rw[hst.out,hc];rfl);clear hc hst;generalize wr.alloc (.cells #[.int .i64 ts,.slice Aw ws.length cw,.slice Ar rs.length cr] 109)=Wx at*;go_wp2_with (at_builtin;refine bR (enc:=Go.Inq.encI) rfl (.tmp 23) (.tmp 25) 33 rfl w.heap.size 3 ii _ 1 8 Tryz.underlying33 hii hi1 hi2 hi3 rfl (by decide) (.slice Av (ay (eT H key k)).length cv) (ay (eT H key k)) rfl hown2.out (fun _=>rfl) (k:Int) _ rfl rfl Go.Inq.gB (by rw[hlq.out];simp[maxLen];omega) (by rw[hlq.out];omega) hsz2 w w.heap.size (Nat.le_refl _) hb2 ?_;intro v1 w6 hown1 hg1 hb1 qX);go_roundw;case rel=>exact⟨k+1,by omega,by go_num,by unfold aU;rw[EX.out,hsn.out];exact hown1,hb1⟩
    case measure=>simp[intOf];omega
   |false=>
    have EX:Hid (eT H key (k+1)=eT H key k):=hide (by rw[hst.out,hc];simp);clear hc hst;go_wp2;go_roundw;case rel=>exact⟨k+1,by omega,by go_num,by unfold aU;rw[EX.out];exact hown2.out,hb2⟩
    case measure=>simp[intOf];omega
  ·obtain rfl:k=H.length:=(by omega);go_wp2;go_ret;exact⟨_,rfl,hown,hb⟩
def wC(H:List Txn)(k:Nat):List Int:=((H.take k).map (·.writes)).flatten
theorem zN{H:List Txn}{k:Nat}(h:k<H.length):wC H (k+1)=wC H k++H[k].writes:=by
 unfold wC;rw[List.take_succ_eq_append_getElem h,List.map_append,List.flatten_append];simp
theorem CQ{H:List Txn}(h:∀i (hi:i<H.length),H[i].writes.length≤1000000):∀k,k≤H.length→(wC H k).length≤k*1000000
 |0,_=>by simp[wC]
 |k+1,hk=>by
  rw[zN (by omega),List.length_append];have:=CQ h k (by omega);have:=h k (by omega);omega
set_option maxRecDepth 100000 in
theorem zO(A:Option Addr)(c:Nat)(H:List Txn)(w:World)(h:aC w (Old w) (.slice A H.length c) H)(hn:aD H)(hr:aA H=true):
 Calls Tryz.prog 114 #[.agg #[.slice A H.length c]] w (wo w (cZ H)):=by
 obtain⟨ii,hii,hi1,hi2,hi3⟩:=info_parts gP;obtain⟨W0,hW0⟩:∃W0,w.alloc (.cells #[.slice A H.length c] 24)=W0:=⟨_,rfl⟩;have hB:=ah (Below.refl w.heap.size w) hW0 (Nat.le_refl _);have k0:=Blk.newEq hW0;have h0:=hide (h.below hB);have h32:H.length≤32:=((aB H).1 hr).1;have hwl:=hide (fun i (hi:i<H.length)=>(hn.2 _ (List.getElem_mem hi)).1);have hal:=hide (CQ hwl.out);have hkl:Hid (cZ H=Go.Lib.compact ((wC H H.length).mergeSort fun x y=>decide (x≤y))):=hide (by unfold cZ wC;rw[List.take_length]);replace hn:=hide hn;replace hr:=hide hr;replace h:=hide h;have c0:=Blk.n0 k0;go_enter Tryz.func114,Tryz.ntmps114;go_wp2_with fail;clear hW0 c0;refine(bY A c H _ h0.out hn.out).mono ?_;rintro e w1 ⟨rfl,hb1⟩;rw[hr.out];replace k0:=k0.below hb1 k0.lt;have hb:=hB.trans (hb1.mono hB.size);clear hb1 hB h0;have c0:=Blk.n0 k0;go_wp2_with fail;clear c0 k0;go_loopw [3,12] (fun s3 s12 wr=>∃k:Nat,k≤H.length∧s12= .int .i64 k∧aU wr w.heap.size s3 (wC H k)∧Below w.heap.size w wr) (fun _ s12 _=>H.length-(intOf s12).toNat);case atStart=>exact⟨0,Nat.zero_le _,by go_num,aU.nil _ _,hb⟩
 case round=>
  clear hb;obtain⟨k,hk,rfl,hown,hb⟩:=hrel;have EU:(0:Int)≤(k:Int):=Int.natCast_nonneg _;by_cases hlt:k<H.length
  ·have EW:(k:Int)<(H.length:Int):=(by omega);obtain⟨b,off,Aw,cw,Ar,cr,rfl,_,d0,d1,d2,hws,_⟩:=aC.at_ (h.out.below hb) hlt;have hwk:=hwl.out k hlt;have hst:=hide (zN hlt);have hcnt:=hal.out k hk;have wu:=hb.size;obtain⟨Av,cv,rfl⟩:=hown.form;generalize H[k]=t at*;obtain⟨ts,ws,rs⟩:=t;dsimp only at*;have Ll:=hide (hws.keep (w':=wr.alloc (.cells #[.int .i64 ts,.slice Aw ws.length cw,.slice Ar rs.length cr] 109)) (Agree.alloc (fun b hb=>hb) _) (fun b h=>h));have hb2:=hb.alloc wu (.cells #[.int .i64 ts,.slice Aw ws.length cw,.slice Ar rs.length cr] 109);have hown2:=hown.alloc (.cells #[.int .i64 ts,.slice Aw ws.length cw,.slice Ar rs.length cr] 109);have hlo:=hide (fun b hb=>(hown.lt b hb).1);clear hws;replace hown2:=hide hown2;generalize wC H k=M at*;go_wp2_with (at_builtin;refine bX (enc:=Go.Inq.encI) rfl (.tmp 16) (.tmp 18) 33 rfl w.heap.size 3 ii _ 1 8 Tryz.underlying33 hii hi1 hi2 hi3 rfl (by decide) (.slice Av M.length cv) (Old wr) M rfl hown2.out (fun _=>rfl) (.slice Aw ws.length cw) ws rfl Ll.out Go.Inq.gB (by simp[maxLen];omega) (by omega) (by simp;omega) ?_;intro v1 w6 hown1 hg1 qX);have hb3:=below_grown hb2 hg1 (by simp;omega) (fun k hk=>hlo.out k hk);go_wp2;go_roundw;case rel=>exact⟨k+1,by omega,by go_num,by unfold aU;rw[hst.out];exact hown1,hb3⟩
   case measure=>simp[intOf];omega
  ·obtain rfl:k=H.length:=(by omega);have hcnt:=hal.out _ hk;obtain⟨Av,cv,rfl⟩:=hown.form;have hMl:(wC H H.length).length<4611686018427387904:=(by omega);have Sv:(wC H H.length).length≤1000000000:=(by omega);clear hcnt;generalize wC H H.length=M at*;have CS:=List.length_mergeSort (le:=fun x y:Int=>decide (x≤y)) M;replace CS:=hide CS;have wu:=hb.size;go_wp2_with fail;refine(zM w.heap.size Av cv M _ hown hMl).mono ?_;rintro e w2 ⟨rfl,hown2,hb2⟩;replace hb:=hb.trans hb2;have hs2:Hid (aU w2 w.heap.size (.slice Av (M.mergeSort fun x y=>decide (x≤y)).length cv) (M.mergeSort fun x y=>decide (x≤y))):=hide (by rw[CS.out];exact hown2);clear hown hown2 hb2;go_wp2_with fail;rw[←CS.out];have Sw:(M.mergeSort fun x y=>decide (x≤y)).length≤1000000000:=(by rw[CS.out];exact Sv);refine(BN w.heap.size Av cv _ _ hs2.out Sw).mono ?_;rintro e w3 ⟨v,rfl,hown3,hb3⟩;replace hb:=hb.trans hb3;go_wp2;go_ret;exact⟨_,rfl,by rw[hkl.out];exact hown3,hb⟩
end Go.Proofs.YtfhnamomiaekdaaGreatDoor
namespace Go.Inq
def cB(key:Int)(l:List Nat)(i:Nat):List Cho:=((List.range i).map fun a=>(l.drop (a+1)).map fun(b:Nat)=>(⟨key,(l.getD a 0:Nat),b⟩:Cho)).flatten
theorem CU(key:Int)(l:List Nat){i:Nat}(h:i<l.length):cB key l (i+1)=cB key l i++(l.drop (i+1)).map fun(b:Nat)=>(⟨key,(l[i]:Nat),b⟩:Cho):=by
 unfold cB;rw[List.range_succ,List.map_append,List.flatten_append];simp[List.getD_eq_getElem?_getD,List.getElem?_eq_getElem h]
theorem vE(key:Int)(a:Nat)(r:List Nat):∀i,cB key (a::r) (i+1)=(r.map fun(b:Nat)=>(⟨key,a,b⟩:Cho))++cB key r i
 |0=>by simp[cB,List.range_succ]
 |i+1=>by
  have h1:cB key (a::r) (i+1+1)=cB key (a::r) (i+1)++((a::r).drop (i+1+1)).map fun(b:Nat)=>(⟨key,((a::r).getD (i+1) 0:Nat),b⟩:Cho):=by
   unfold cB;rw[List.range_succ,List.map_append,List.flatten_append];simp
  have h2:cB key r (i+1)=cB key r i++(r.drop (i+1)).map fun(b:Nat)=>(⟨key,(r.getD i 0:Nat),b⟩:Cho):=by
   unfold cB;rw[List.range_succ,List.map_append,List.flatten_append];simp
  rw[h1,h2,vE key a r i];simp
theorem xM(key:Int):∀l:List Nat,cB key l l.length=dV key l
 |[]=>by simp[cB,dV]
 |a::r=>by rw[List.length_cons,vE,xM key r];rfl
def dU(H:List Txn)(k:Nat):List Cho:=(((cZ H).take k).map fun key=>dV key (bH H key)).flatten
theorem sH{H:List Txn}{k:Nat}(h:k<(cZ H).length):dU H (k+1)=dU H k++dV (cZ H)[k] (bH H (cZ H)[k]):=by
 unfold dU;rw[List.take_succ_eq_append_getElem h,List.map_append,List.flatten_append];simp
theorem vF(H:List Txn):dU H (cZ H).length=aI H:=by unfold dU aI;rw[List.take_length]
theorem xO(key:Int):∀l:List Nat,(dV key l).length≤l.length*l.length
 |[]=>by simp[dV]
 |a::r=>by
  unfold dV;rw[List.length_append,List.length_map,List.length_cons];have:=xO key r;rw[Nat.add_mul,Nat.mul_add];omega
theorem xP(key:Int)(l:List Nat):∀i,(cB key l i).length≤i*l.length
 |0=>by simp[cB]
 |i+1=>by
  have h1:cB key l (i+1)=cB key l i++(l.drop (i+1)).map fun(b:Nat)=>(⟨key,(l.getD i 0:Nat),b⟩:Cho):=by
   unfold cB;rw[List.range_succ,List.map_append,List.flatten_append];simp
  rw[h1,List.length_append,List.length_map,List.length_drop,Nat.add_mul];have:=xP key l i;omega
theorem kV{H:List Txn}(hr:aA H=true):(cZ H).length≤16:=by
 have hb:∀t∈H,∀k∈t.writes,0≤k∧k<16:=fun t ht k hk=>by
  obtain⟨i,hi,rfl⟩:=List.getElem_of_mem ht;exact(((aB H).1 hr).2 i hi).K8 k hk
 rw[xG hb,List.length_map];exact Nat.le_trans (List.length_filter_le _ _) (by simp)
theorem oH{H:List Txn}(h32:H.length≤32):∀k,k≤(cZ H).length→(dU H k).length≤k*1024
 |0,_=>by simp[dU]
 |k+1,hk=>by
  rw[sH (by omega),List.length_append];have h1:=oH h32 k (by omega);have h2:=xO (cZ H)[k] (bH H (cZ H)[k]);have h3:=oq H (cZ H)[k];have h4:(bH H (cZ H)[k]).length*(bH H (cZ H)[k]).length≤32*32:=Nat.mul_le_mul (by omega) (by omega);omega
theorem xQ{H:List Txn}(hr:aA H=true):(aI H).length≤16384:=by
 have h1:=oH ((aB H).1 hr).1 _ (Nat.le_refl _);rw[vF]at h1;have:=kV hr;omega
theorem jU{key:Int}{c:Cho}:∀{l:List Nat},c∈dV key l→c.key=key∧∃a b:Nat,c.a=a∧c.b=b∧a∈l∧b∈l
 |[],h=>by simp[dV]at h
 |a::r,h=>by
  unfold dV at h;rw[List.mem_append]at h;rcases h with h|h
  ·obtain⟨b,hb,rfl⟩:=List.mem_map.1 h;exact⟨rfl,a,b,rfl,rfl,by simp,by simp[hb]⟩
  ·obtain⟨h1,x,y,h2,h3,h4,h5⟩:=jU h;exact⟨h1,x,y,h2,h3,by simp[h4],by simp[h5]⟩
theorem uE{key:Int}{c:Cho}:∀{l:List Nat},l.Pairwise (·<·)→c∈dV key l→c.a<c.b
 |[],_,h=>by simp[dV]at h
 |a::r,hp,h=>by
  rw[List.pairwise_cons]at hp;unfold dV at h;rw[List.mem_append]at h;rcases h with h|h
  ·obtain⟨b,hb,rfl⟩:=List.mem_map.1 h;have:=hp.1 b hb;show(a:Int)<(b:Int);omega
  ·exact uE hp.2 h
theorem qY{H:List Txn}{c:Cho}(h:c∈aI H):∃a b:Nat,c.a=a∧c.b=b∧a<b∧b<H.length∧c.key∈(aG H a).writes∧c.key∈(aG H b).writes:=by
 unfold aI at h;obtain⟨l,hl,hc⟩:=List.mem_flatten.1 h;obtain⟨key,_,rfl⟩:=List.mem_map.1 hl;obtain⟨hk,a,b,ha,hb,h1,h2⟩:=jU hc;have hlt:=uE (ig H key) hc;obtain⟨_,h3⟩:=bL.1 h1;obtain⟨h4,h5⟩:=bL.1 h2;rw[hk];exact⟨a,b,ha,hb,by omega,h4,h3,h5⟩
def wrB(H:List Txn)(t key:Int):Bool:=decide (0≤t)&&decide (t<(H.length:Int))&&(aG H t.toNat).writes.contains key
def bO(H:List Txn)(c:Cho):Bool:=decide (c.a≠c.b)&&wrB H c.a c.key&&wrB H c.b c.key
def dM(H:List Txn)(l:List Cho):Bool:=aA H&&decide (l.length≤20000)&&l.all (bO H)
theorem BO{H:List Txn}{t:Nat}{key:Int}(h:t<H.length):wrB H (t:Int) key=(aG H t).writes.contains key:=by unfold wrB;simp[h]
theorem Hq{H:List Txn}{t key:Int}:wrB H t key=true↔∃n:Nat,t=n∧n<H.length∧key∈(aG H n).writes:=by
 unfold wrB;constructor
 ·intro h;simp only[Bool.and_eq_true,decide_eq_true_eq,List.contains_iff_mem]at h;exact⟨t.toNat,by omega,by omega,h.2⟩
 ·rintro⟨n,rfl,h1,h2⟩;simp[h1,h2]
theorem je{H:List Txn}{c:Cho}:bO H c=true↔∃a b:Nat,c.a=a∧c.b=b∧a≠b∧a<H.length∧b<H.length∧c.key∈(aG H a).writes∧c.key∈(aG H b).writes:=by
 unfold bO;rw[Bool.and_eq_true,Bool.and_eq_true,Hq,Hq];constructor
 ·rintro⟨⟨h1,a,ha,h2,h3⟩,b,hb,h4,h5⟩;have:=of_decide_eq_true h1;exact⟨a,b,ha,hb,by omega,h2,h4,h3,h5⟩
 ·rintro⟨a,b,ha,hb,h1,h2,h3,h4,h5⟩;exact⟨⟨decide_eq_true (by omega),a,ha,h2,h4⟩,b,hb,h3,h5⟩
theorem zP{H:List Txn}{c:Cho}(h:c∈aI H):bO H c=true:=by
 obtain⟨a,b,ha,hb,h1,h2,h3,h4⟩:=qY h;exact je.2 ⟨a,b,ha,hb,by omega,by omega,h2,h3,h4⟩
def aL(c:Cho):Cho:=⟨c.key,c.b,c.a⟩
theorem jg{H:List Txn}{c:Cho}(h:bO H c=true):bO H (aL c)=true:=by
 obtain⟨a,b,ha,hb,h1,h2,h3,h4,h5⟩:=je.1 h;exact je.2 ⟨b,a,hb,ha,h1.symm,h3,h2,h5,h4⟩
end Go.Inq
namespace Go.Proofs.YtfhnamomiaekdaaGreatDoor
open Go.RowKit Go.Inq
set_option maxHeartbeats 4000000
attribute [local go_sem↓] Go.wp_at_zero Go.wp_at_succ
def jH(x:Cho):List Value:=[.int .i64 x.key,.int .i64 x.a,.int .i64 x.b]
theorem l6:∀(x:Cho),∀u∈jH x,u.oneCell'=true:=by
 intro x u hu;simp[jH]at hu;rcases hu with rfl|rfl|rfl<;>rfl
theorem xR:(Tryz.prog.info? 102).map (fun i=>(i.zero,i.size,i.bytes))=some (some (.agg #[.int .i64 0,.int .i64 0,.int .i64 0]),3,24):=by kernel_rfl
def bq(w:World)(K:Nat→Prop)(v:Value)(l:List Cho):Prop:=SlR 3 (Flat jH) w K v l
section
variable{w w':World}{K K':Nat→Prop}{v:Value}{l:List Cho}
theorem bq.keep(h:bq w K v l)(ha:Agree K w w')(hk:∀b,K b→K' b):bq w' K' v l:=SlR.keep (Flat.aT _) h ha hk
theorem bq.below(h:bq w (Old w) v l)(hb:Below w.heap.size w w'):bq w' (Old w') v l:=SlR.below (Flat.aT _) h hb
theorem bq.fit(h:bq w K v l)(hk:∀b,K b→K' b):bq w K' v l:=SlR.fit (Flat.aT _) h hk
theorem bq.nil(w:World)(K:Nat→Prop)(A:Option Addr)(c:Nat):bq w K (.slice A 0 c) []:=SlR.nil _ _ _ _ _ _
theorem bq.at_{A:Option Addr}{n c:Nat}(h:bq w K (.slice A n c) l){i:Nat}(hi:i<l.length):
 ∃b off,A=some ⟨b,off,none⟩∧K b∧w.cell? ⟨b,off+i*3,none⟩=some (.int .i64 l[i].key)∧w.cell? ⟨b,off+i*3+1,none⟩=some (.int .i64 l[i].a)∧w.cell? ⟨b,off+i*3+2,none⟩=some (.int .i64 l[i].b):=by
 obtain⟨b,off,cs,hA,hK,_,hR,hc⟩:=SlR.at_ h hi;unfold Flat at hR;subst hR;exact⟨b,off,hA,hK,hc 0 _ rfl,hc 1 _ rfl,hc 2 _ rfl⟩
end
def gF(w:World)(base:Nat)(v:Value)(l:List Cho):Prop:=w.ownsRow base 102 3 v l.length (l.map jH).flatten
def Qb(w:World)(l:List Cho)(e:Ending)(w':World):Prop:=∃v,e= .returned v∧gF w' w.heap.size v l∧Below w.heap.size w w'
theorem gF.form{w:World}{base:Nat}{v:Value}{l:List Cho}(h:gF w base v l):∃A c,v= .slice A l.length c:=bC h
theorem gF.sl{w:World}{base:Nat}{v:Value}{l:List Cho}(h:gF w base v l){K:Nat→Prop}(hK:∀g,base≤g→g<w.heap.size→K g):bq w K v l:=SlR.of_flat h rfl (fun _=>rfl) hK
theorem gF.nil(w:World)(base:Nat):gF w base (.slice none 0 0) []:=World.ownsRow_nil _ _ _ _
set_option maxRecDepth 100000 in
theorem qZ(A:Option Addr)(c:Nat)(H:List Txn)(w:World)(h:aC w (Old w) (.slice A H.length c) H)(hn:aD H)(hr:aA H=true):
 Calls Tryz.prog 52 #[.agg #[.slice A H.length c]] w (Qb w (aI H)):=by
 obtain⟨ic,hic,hi1,hi2,hi3⟩:=info_parts xR;obtain⟨W0,hW0⟩:∃W0,w.alloc (.cells #[.slice A H.length c] 24)=W0:=⟨_,rfl⟩;have hB:=ah (Below.refl w.heap.size w) hW0 (Nat.le_refl _);have k0:=Blk.newEq hW0;have h0:=hide (h.below hB);have h32:H.length≤32:=((aB H).1 hr).1;have Sy:=kV hr;have hpt:=hide (oH h32);have hstep:=hide (fun k (hk:k<(cZ H).length)=>sH hk);have hall:=hide (vF H);have hs0:=aF hW0;replace hn:=hide hn;replace hr:=hide hr;replace h:=hide h;have c0:=Blk.n0 k0;replace hs0:=hide hs0;go_enter Tryz.func52,Tryz.ntmps52;go_wp2_with fail;clear hW0 c0;refine(zO A c H _ h0.out hn.out hr.out).mono ?_;rintro e wk ⟨vk,rfl,hKO,hbk⟩;obtain⟨Ak,ck,rfl⟩:=hKO.form;have hwW:w.heap.size<W0.heap.size:=(by have:=hs0.out;omega);have hKS:=hide (hKO.sl (K:=fun b=>W0.heap.size≤b∧b<wk.heap.size) (fun g h1 h2=>⟨h1,h2⟩));replace k0:=k0.below hbk k0.lt;have hb:=hB.trans (hbk.mono hB.size);have Sz:=hbk.size;clear hbk hB h0 hKO;generalize hKL:cZ H=KL at*;go_wp2_with fail;go_loopw [3,14] (fun s3 s14 wr=>∃k:Nat,k≤KL.length∧s14= .int .i64 k∧gF wr w.heap.size s3 (dU H k)∧Below w.heap.size w wr∧Agree (fun b=>w.heap.size≤b∧b<wk.heap.size) wk wr∧wk.heap.size≤wr.heap.size∧Hid (∀g,s3.ownBlock=some g→wk.heap.size≤g)) (fun _ s14 _=>KL.length-(intOf s14).toNat);case atStart=>exact⟨0,Nat.zero_le _,by go_num,gF.nil _ _,hb,Agree.refl _ _,Nat.le_refl _,hide fun g hg=>by simp[Value.ownBlock]at hg⟩
 case round=>
  clear hb;obtain⟨Wo,rfl⟩:∃Wo,Wo=wr:=⟨_,rfl⟩;obtain⟨k,hk,rfl,hown,hb,hag,Qc,lT⟩:=hrel;have EU:(0:Int)≤(k:Int):=Int.natCast_nonneg _;by_cases hlt:k<KL.length
  ·have EW:(k:Int)<(KL.length:Int):=(by omega);obtain⟨bk,ok,rfl,_,hck⟩:=(hKS.out.keep (hag.mono fun b hb=>⟨by omega,hb.2⟩) (fun b h=>h)).at_ hlt;have m0:=k0.agree hag ⟨Nat.le_refl _,k0.lt⟩;have hst:=hide (hstep.out k hlt);have hlen:=hpt.out k hk;have c0:=Blk.n0 m0;generalize KL[k]=key at*;go_wp2_with fail;clear c0 hck;refine(sG A c H key _ (h.out.below hb) hn.out hr.out).mono ?_;rintro e wl ⟨vl,rfl,hLO,hbl⟩;have hLn:=oq H key;have hpa:=hide (xM key (bH H key));have hpi:=hide (fun i (hi:i<(bH H key).length)=>CU key (bH H key) hi);have hpl:=hide (xP key (bH H key));generalize bH H key=L at*;obtain⟨Al,cl,hv⟩:=hLO.form;rw[aK]at hv;subst hv;have hLS:=hide (hLO.sl (K:=fun b=>Wo.heap.size≤b∧b<wl.heap.size) (fun g h1 h2=>⟨h1,h2⟩));have hb2:=hb.trans (hbl.mono hb.size);have Oh:=hbl.size;have Oi:Agree (fun b=>w.heap.size≤b∧b<wk.heap.size) wk wl:=hag.trans (Agree.below hbl fun b hb=>by omega);have hown2:gF wl w.heap.size _ (dU H k):=own_below hown hbl (Nat.le_refl _);have hlt2:=hide (fun g hg=>(hown.lt g hg).2);clear hLO hbl hb hag hown m0;go_wp2_with fail;go_loopw [3,23] (fun s3 s23 wq=>∃i:Nat,i≤L.length∧s23= .int .i64 i∧gF wq w.heap.size s3 (dU H k++cB key L i)∧Below w.heap.size w wq∧Agree (fun b=>w.heap.size≤b∧b<wk.heap.size) wk wq∧Agree (fun b=>Wo.heap.size≤b∧b<wl.heap.size) wl wq∧wl.heap.size≤wq.heap.size∧Hid (∀g,s3.ownBlock=some g→wk.heap.size≤g∧(g<Wo.heap.size∨wl.heap.size≤g))) (fun _ s23 _=>L.length-(intOf s23).toNat);case atStart=>exact⟨0,Nat.zero_le _,by go_num,by simpa[cB]using hown2,hb2,Oi,Agree.refl _ _,Nat.le_refl _,hide fun g hg=>⟨lT.out g hg,.inl (hlt2.out g hg)⟩⟩
   case round=>
    clear hown2 hb2 Oi hlt2 lT;obtain⟨Wp,rfl⟩:∃Wp,Wp=wr:=⟨_,rfl⟩;obtain⟨i,hi,rfl,hown,hb,hag,CV,IW,lT⟩:=hrel;have hj1:(0:Int)≤(i:Int):=Int.natCast_nonneg _;by_cases hil:i<L.length
    ·have hj2:(i:Int)<(L.length:Int):=(by omega);obtain⟨bl,ol,rfl,_,hcl⟩:=(hLS.out.keep CV (fun b h=>h)).at_ (i:=i) (by rw[aK];exact hil);rw[jT hil]at hcl;have Rh:=hide (hpi.out i hil);have hdl:(L.drop (i+1)).length=L.length-(i+1):=List.length_drop;have Lm:=hpl.out i;have hlen3:i*L.length≤32*32:=Nat.mul_le_mul (by omega) (by omega);generalize L[i]=a at*;have hle:i+1≤L.length:=(by omega);have hle3:(i:Int)+1≤(L.length:Int):=(by omega);have SA:L.length≤cl:=by
      obtain⟨_,_,e,h2⟩:=SlR.len hLS.out;injection e with e1 e2 e3
      rw[aK]at h2;omega
     by_cases hcap:cl=i+1
     ·have hLi:L.length=i+1:=(by omega);have hd0:L.drop (i+1)=[]:=List.drop_of_length_le (by omega);have hown3:Hid (gF Wp w.heap.size u3 (dU H k++cB key L (i+1))):=hide (by rw[Rh.out,hd0,List.map_nil,List.append_nil];exact hown);have hz0:L.length-(i+1)=0:=(by omega);clear hd0 SA;replace hown:=hide hown;subst hcap;go_wp2_with fail
      go_loop [3,33] (fun s3 s33=>s33= .int .i64 0∧gF Wp w.heap.size s3 (dU H k++cB key L (i+1))∧Hid (∀g,s3.ownBlock=some g→wk.heap.size≤g∧(g<Wo.heap.size∨wl.heap.size≤g))) (fun _ _=>0)
      case atStart=>exact⟨rfl,hown3.out,lT⟩
      case round=>
       clear hown3 lT;obtain⟨rfl,hown3,lT⟩:=hrel;go_wp2;go_roundw;case rel=>exact⟨i+1,by omega,by go_num,hown3,hb,hag,CV,IW,lT⟩
       case measure=>simp[intOf];omega
     ·go_wp2_with fail;have hdo:=hide (fun j (hj:j<L.length-(i+1))=>(show i+1+j<L.length by omega));go_loopw [3,33] (fun s3 s33 wq=>∃j:Nat,j≤L.length-(i+1)∧s33= .int .i64 j∧gF wq w.heap.size s3 (dU H k++cB key L i++((L.drop (i+1)).take j).map fun(b:Nat)=>(⟨key,(a:Nat),b⟩:Cho))∧Below w.heap.size w wq∧Agree (fun b=>w.heap.size≤b∧b<wk.heap.size) wk wq∧Agree (fun b=>Wo.heap.size≤b∧b<wl.heap.size) wl wq∧wl.heap.size≤wq.heap.size∧Hid (∀g,s3.ownBlock=some g→wk.heap.size≤g∧(g<Wo.heap.size∨wl.heap.size≤g))) (fun _ s33 _=>(L.length-(i+1))-(intOf s33).toNat);case atStart=>exact⟨0,Nat.zero_le _,by go_num,by simpa using hown,hb,hag,CV,IW,lT⟩
      case round=>
       clear hown hb hag CV IW lT hcl;obtain⟨j,hj,rfl,hown,hb,hag,CV,IW,lT⟩:=hrel;have hjj:(0:Int)≤(j:Int):=Int.natCast_nonneg _;by_cases hjl:j<L.length-(i+1)
       ·have hj3:(j:Int)<((L.length-(i+1):Nat):Int):=(by omega);have hix:=hdo.out j hjl;obtain⟨_,_,e,_,hcj⟩:=(hLS.out.keep CV (fun b h=>h)).at_ (i:=i+1+j) (by rw[aK];exact hix);injection e with e
        injection e with e1 e2
        subst e1 e2;rw[jT hix,←Nat.add_assoc]at hcj;have hdj:Hid (((L.drop (i+1)).take (j+1))=(L.drop (i+1)).take j++[L[i+1+j]]):=hide (by rw[take_snoc' (by rw[hdl];exact hjl),List.getElem_drop]);have hjn:((L.drop (i+1)).take j).length≤32:=(by rw[List.length_take,hdl];omega);have Ri:(dU H k).length≤16384:=(by omega);have Ui:(dU H k++cB key L i++((L.drop (i+1)).take j).map fun(b:Nat)=>(⟨key,(a:Nat),b⟩:Cho)).length≤20000:=by
         rw[List.length_append,List.length_append,List.length_map];omega
        obtain⟨Av,cv,rfl⟩:=hown.form;generalize hM:(dU H k++cB key L i++((L.drop (i+1)).take j).map fun(b:Nat)=>(⟨key,(a:Nat),b⟩:Cho))=M at*;generalize L[i+1+j]=y at*;have hM2:Hid ((dU H k++cB key L i++((L.drop (i+1)).take (j+1)).map fun(b:Nat)=>(⟨key,(a:Nat),b⟩:Cho))=M++[⟨key,a,y⟩]):=hide (by rw[hdj.out,List.map_append,←List.append_assoc,hM];rfl);have wu:=hb.size;clear hM hjn Ri hdj;replace hown:=hide hown;go_wp2_with (at_builtin;refine bR (enc:=jH) rfl (.tmp 37) (.tmp 42) 65 rfl w.heap.size 102 ic _ 3 24 Tryz.underlying65 hic hi1 hi2 hi3 rfl (by decide) (.slice Av M.length cv) M rfl hown.out (fun _=>rfl) (⟨key,a,y⟩:Cho) _ rfl rfl l6 (by simp[maxLen];omega) (by omega) wu w w.heap.size (Nat.le_refl _) hb ?_;intro v1 w6 hown1 hg1 hb1 qX);have hg6:=hg1.size;simp only[World.size_alloc]at hg6;have hA1:Agree (fun b=>w.heap.size≤b∧b<wk.heap.size) wk w6:=(hag.trans (Agree.alloc (fun b hb=>by omega) _)).trans (Agree.grown hg1 fun b hb=>⟨by simp;omega,fun e=>by have:=(lT.out b e.symm).1;omega⟩);have hA2:Agree (fun b=>Wo.heap.size≤b∧b<wl.heap.size) wl w6:=(CV.trans (Agree.alloc (fun b hb=>by omega) _)).trans (Agree.grown hg1 fun b hb=>⟨by simp;omega,fun e=>by have:=(lT.out b e.symm).2;omega⟩);go_wp2;go_roundw;case rel=>exact⟨j+1,by omega,by go_num,by rw[hM2.out];exact hown1,hb1,hA1,hA2,by omega,hide fun g hg=>by
         rcases qX with e|e
         ·rw[e]at hg;exact lT.out g hg
         ·rw[e]at hg;injection hg with hg;omega⟩
        case measure=>simp[intOf];omega
       ·obtain rfl:j=L.length-(i+1):=(by omega);rw[List.take_of_length_le (by rw[hdl];exact Nat.le_refl _),List.append_assoc,←Rh.out]at hown;go_wp2;go_roundw;case rel=>exact⟨i+1,by omega,by go_num,hown,hb,hag,CV,IW,lT⟩
        case measure=>simp[intOf];omega
    ·obtain rfl:i=L.length:=(by omega);rw[hpa.out,←hst.out]at hown;go_wp2;go_roundw;case rel=>exact⟨k+1,by omega,by go_num,hown,hb,hag,by omega,hide fun g hg=>(lT.out g hg).1⟩
     case measure=>simp[intOf];omega
  ·obtain rfl:k=KL.length:=(by omega);rw[hall.out]at hown;go_wp2;go_ret;exact⟨_,rfl,hown,hb⟩
set_option maxHeartbeats 2000000
def sI{α:Type}(p:α→Bool)(l:List α):Int:=match l.findIdx? p with|some k=>k|none=> -1
theorem jh{α:Type}{p:α→Bool}{l:List α}{k:Nat}(hk:k<l.length)(h:p l[k]=true)(h0:∀j (hj:j<l.length),j<k→p l[j]=false):sI p l=k:=by
 unfold sI;have:l.findIdx? p=some k:=by
  rw[List.findIdx?_eq_some_iff_getElem];exact⟨hk,h,fun j hj=>by rw[h0 j (by omega) hj];simp⟩
 rw[this]
theorem iB{α:Type}{p:α→Bool}{l:List α}(h0:∀j (hj:j<l.length),p l[j]=false):sI p l= -1:=by
 unfold sI;have:l.findIdx? p=none:=by
  rw[List.findIdx?_eq_none_iff];intro y hy;obtain⟨j,hj,rfl⟩:=List.getElem_of_mem hy;exact h0 j hj
 rw[this]
theorem ji{α:Type}(p:α→Bool)(l:List α):decide (0≤sI p l)=l.any p:=by
 unfold sI;cases hf:l.findIdx? p with
 |none=>
  rw[List.findIdx?_eq_none_iff]at hf;have:l.any p=false:=(by rw[List.any_eq_false];intro x hx;rw[hf x hx];simp);rw[this];rfl
 |some k=>
  rw[List.findIdx?_eq_some_iff_getElem]at hf;obtain⟨h1,h2,_⟩:=hf;have:l.any p=true:=List.any_eq_true.2 ⟨_,List.getElem_mem h1,h2⟩;rw[this];simp
set_option maxRecDepth 100000 in
theorem EY (f:Nat) (hf:∀args w,(callFunc f args).run Tryz.prog w= .ok (.enter f args) w) (lb:Array Value) (p:Cho→Bool) (A:Option Addr) (c:Nat) (l:List Cho) (w:World) (h:bq w (Old w) (.slice A l.length c) l) (hl:l.length≤1000000000)
 (hp:∀W,Below w.heap.size w W→∀x∈l,Calls Tryz.prog f (#[.agg #[.int .i64 x.key,.int .i64 x.a,.int .i64 x.b]]++lb) W fun e W'=>e= .returned (.bool (p x))∧Below W.heap.size W W'):
 Calls Tryz.prog 202 #[.slice A l.length c,.func (.func f) #[] lb] w fun e w'=>e= .returned (.int .i64 (sI p l))∧Below w.heap.size w w':=by
 have hhit:=hide (fun k=>jh (p:=p) (l:=l) (k:=k));have hnone:=hide (iB (p:=p) (l:=l));replace h:=hide h;replace hp:=hide hp;go_enter Tryz.func202,Tryz.ntmps202;go_wp2_with fail;go_loopw [8] (fun s8 wr=>∃k:Nat,k≤l.length∧s8= .int .i64 k∧Hid (∀j (hj:j<l.length),j<k→p l[j]=false)∧Below w.heap.size w wr) (fun s8 _=>l.length-(intOf s8).toNat);case atStart=>exact⟨0,Nat.zero_le _,by go_num,fun j hj h=>absurd h (by omega),Below.refl _ _⟩
 case round=>
  obtain⟨k,hk,rfl,hall,hb⟩:=hrel;have hk1:(0:Int)≤(k:Int):=Int.natCast_nonneg _;by_cases hlt:k<l.length
  ·have hi2:(k:Int)<(l.length:Int):=(by omega);obtain⟨b,off,rfl,_,d0,d1,d2⟩:=(h.out.below hb).at_ hlt;have hcall:=hide (hp.out _ hb _ (List.getElem_mem hlt));have hh:=hide (fun g=>hhit.out k hlt g hall.out);have hst:Hid (p l[k]=false→∀j (hj:j<l.length),j<k+1→p l[j]=false):=fun g j hj hjk=>by
    by_cases e:j=k
    ·subst e;exact g
    ·exact hall.out j hj (by omega)
   clear hall;generalize l[k]=x at*;go_wp2_with fail;refine hcall.out.mono ?_;rintro e W2 ⟨rfl,hb2⟩;have hb3:=hb.trans (hb2.mono hb.size);cases hpx:p x with
   |true=>
    have hr:=hide (hh.out hpx);clear hpx hh hst hcall;go_wp2;go_ret;exact⟨dw hr.out.symm,hb3⟩
   |false=>
    have hr:=hide (hst.out hpx);clear hpx hh hst hcall;go_wp2;go_roundw;case rel=>exact⟨k+1,by omega,by go_num,hr,hb3⟩
    case measure=>simp[intOf];omega
  ·have hr:=hide (hnone.out fun j hj=>hall.out j hj (by omega));go_wp2;go_ret;exact⟨dw hr.out.symm,hb⟩
theorem zw (f:Nat) (hf:∀args w,(callFunc f args).run Tryz.prog w= .ok (.enter f args) w) (lb:Array Value) (p:Cho→Bool) (A:Option Addr) (c:Nat) (l:List Cho) (w:World) (h:bq w (Old w) (.slice A l.length c) l) (hl:l.length≤1000000000)
 (hp:∀W,Below w.heap.size w W→∀x∈l,Calls Tryz.prog f (#[.agg #[.int .i64 x.key,.int .i64 x.a,.int .i64 x.b]]++lb) W fun e W'=>e= .returned (.bool (p x))∧Below W.heap.size W W'):
 Calls Tryz.prog 146 #[.slice A l.length c,.func (.func f) #[] lb] w fun e w'=>e= .returned (.bool (l.any p))∧Below w.heap.size w w':=by
 have hd:=hide (ji p l);have hcall:=hide (EY f hf lb p A c l w h hl hp);clear hp hf h;go_enter Tryz.func146,Tryz.ntmps146;go_wp2_with fail;refine hcall.out.mono ?_;rintro e w1 ⟨rfl,hb⟩;clear hcall;go_wp2;go_ret;exact⟨by rw[←hd.out];rfl,hb⟩
theorem EZ(A:Option Addr)(c:Nat)(l:List It)(xa xb:Int)(w:World)(h:ItS w (Old w) (.slice A l.length c) l)(hl:l.length≤1000000000):
 Calls Tryz.prog 227 #[.slice A l.length c,.agg #[.int .i64 xa,.int .i64 xb]] w fun e w'=>e= .returned (.int .i64 (sI (fun x:It=>decide (x.a=xa)&&decide (x.b=xb)) l))∧Below w.heap.size w w':=by
 have hhit:=hide (fun k=>jh (p:=fun x:It=>decide (x.a=xa)&&decide (x.b=xb)) (l:=l) (k:=k));have hnone:=hide (iB (p:=fun x:It=>decide (x.a=xa)&&decide (x.b=xb)) (l:=l));obtain⟨W0,hW0⟩:∃W0,w.alloc (.cells #[.int .i64 xa,.int .i64 xb] 106)=W0:=⟨_,rfl⟩;have hB:=ah (Below.refl w.heap.size w) hW0 (Nat.le_refl _);have k0:=Blk.newEq hW0;replace h:=hide h;go_enter Tryz.func227,Tryz.ntmps227;go_wp2_with fail;clear hW0;go_loopw [8] (fun s8 wr=>∃k:Nat,k≤l.length∧s8= .int .i64 k∧Hid (∀j (hj:j<l.length),j<k→(decide (l[j].a=xa)&&decide (l[j].b=xb))=false)∧Below w.heap.size w wr∧Blk wr w.heap.size 106 #[.int .i64 xa,.int .i64 xb]) (fun s8 _=>l.length-(intOf s8).toNat);case atStart=>exact⟨0,Nat.zero_le _,by go_num,fun j hj h=>absurd h (by omega),hB,k0⟩
 case round=>
  clear k0 hB;obtain⟨k,hk,rfl,hall,hb,k0⟩:=hrel;have hk1:(0:Int)≤(k:Int):=Int.natCast_nonneg _;by_cases hlt:k<l.length
  ·have hi2:(k:Int)<(l.length:Int):=(by omega);obtain⟨b,off,rfl,_,d0,d1⟩:=(h.out.below hb).at_ hlt;have hh:=hide (fun g=>hhit.out k hlt g hall.out);have hst:Hid ((decide (l[k].a=xa)&&decide (l[k].b=xb))=false→∀j (hj:j<l.length),j<k+1→(decide (l[j].a=xa)&&decide (l[j].b=xb))=false):=fun g j hj hjk=>by
    by_cases e:j=k
    ·subst e;exact g
    ·exact hall.out j hj (by omega)
   have c0:=Blk.n0 k0;have c1:=Blk.n1 k0;clear hall;generalize l[k]=x at*;obtain⟨ya,yb⟩:=x;dsimp only at*;by_cases q1:xa=ya
   ·by_cases q2:xb=yb
    ·have q1b:(xa==ya)=true:=(by simpa using q1);have q2b:(xb==yb)=true:=(by simpa using q2);have hr:=hide (hh.out (by simp[q1,q2]));clear q1 q2 hh hst;go_wp2;go_quiet (fail);go_wp2;go_ret;exact⟨dw hr.out.symm,hb.trans ⟨rfl,rfl,rfl,Nat.le_refl _,fun _ _=>rfl⟩⟩
    ·have q1b:(xa==ya)=true:=(by simpa using q1);have q2b:(xb==yb)=false:=(by simpa using q2);have hr:=hide (hst.out (by simp;intro _ e;exact q2 e.symm));clear q1 q2 hh hst;go_wp2;go_quiet (fail);go_wp2;go_roundw;case rel=>exact⟨k+1,by omega,by go_num,hr,hb.trans ⟨rfl,rfl,rfl,Nat.le_refl _,fun _ _=>rfl⟩,k0⟩
     case measure=>simp[intOf];omega
   ·have q1b:(xa==ya)=false:=(by simpa using q1);have hr:=hide (hst.out (by simp;intro e;exact absurd e.symm q1));clear q1 hh hst;go_wp2;go_quiet (fail);go_wp2;go_roundw;case rel=>exact⟨k+1,by omega,by go_num,hr,hb.trans ⟨rfl,rfl,rfl,Nat.le_refl _,fun _ _=>rfl⟩,k0⟩
    case measure=>simp[intOf];omega
  ·have hr:=hide (hnone.out fun j hj=>hall.out j hj (by omega));go_wp2;go_ret;exact⟨dw hr.out.symm,hb⟩
theorem qC(A:Option Addr)(c:Nat)(l:List It)(xa xb:Int)(w:World)(h:ItS w (Old w) (.slice A l.length c) l)(hl:l.length≤1000000000):
 Calls Tryz.prog 169 #[.slice A l.length c,.agg #[.int .i64 xa,.int .i64 xb]] w fun e w'=>e= .returned (.bool (l.any fun x=>decide (x.a=xa)&&decide (x.b=xb)))∧Below w.heap.size w w':=by
 have hd:=hide (ji (fun x:It=>decide (x.a=xa)&&decide (x.b=xb)) l);obtain⟨W0,hW0⟩:∃W0,w.alloc (.cells #[.int .i64 xa,.int .i64 xb] 106)=W0:=⟨_,rfl⟩;have hB:=ah (Below.refl w.heap.size w) hW0 (Nat.le_refl _);have h0:=h.below hB;have hcall:=hide (EZ A c l xa xb W0 h0 hl);have k0:=Blk.newEq hW0;clear h h0;have c0:=Blk.n0 k0;have c1:=Blk.n1 k0;go_enter Tryz.func169,Tryz.ntmps169;go_wp2_with fail;clear hW0;refine hcall.out.mono ?_;rintro e w1 ⟨rfl,hb⟩;have hb2:=hB.trans (hb.mono hB.size);clear hcall;go_wp2;go_ret;exact⟨by rw[←hd.out];rfl,hb2⟩
def wD(w:World)(K:Nat→Prop)(v:Value)(l:List (Value×Bool)):Prop:=SlR 1 (Flat fun x:Value×Bool=>[x.1]) w K v l
theorem wD.below{w w':World}{v:Value}{l:List (Value×Bool)}(h:wD w (Old w) v l)(hb:Below w.heap.size w w'):wD w' (Old w') v l:=SlR.below (Flat.aT _) h hb
theorem wD.at_{w:World}{K:Nat→Prop}{A:Option Addr}{n c:Nat}{l:List (Value×Bool)}(h:wD w K (.slice A n c) l){i:Nat}(hi:i<l.length):
 ∃b off,A=some ⟨b,off,none⟩∧K b∧w.cell? ⟨b,off+i,none⟩=some l[i].1:=by
 obtain⟨b,off,cs,hA,hK,_,hR,hc⟩:=SlR.at_ h hi;unfold Flat at hR;subst hR;have:=hc 0 _ rfl;rw[Nat.mul_one,Nat.add_zero]at this;exact⟨b,off,hA,hK,this⟩
set_option maxRecDepth 100000 in
theorem CW (f:Nat) (hf:∀args w,(callFunc f args).run Tryz.prog w= .ok (.enter f args) w) (lb:Array Value) (p:It→Bool) (A:Option Addr) (c:Nat) (l:List (It)) (w:World) (h:ItS w (Old w) (.slice A l.length c) l) (hl:l.length≤1000000000)
 (hp:∀W,Below w.heap.size w W→∀x∈l,Calls Tryz.prog f (#[.agg #[.int .i64 x.a,.int .i64 x.b]]++lb) W fun e W'=>e= .returned (.bool (p x))∧Below W.heap.size W W'):
 Calls Tryz.prog 257 #[.slice A l.length c,.func (.func f) #[] lb] w fun e w'=>e= .returned (.int .i64 (sI p l))∧Below w.heap.size w w':=by
 have hhit:=hide (fun k=>jh (p:=p) (l:=l) (k:=k));have hnone:=hide (iB (p:=p) (l:=l));replace h:=hide h;replace hp:=hide hp;go_enter Tryz.func257,Tryz.ntmps257;go_wp2_with fail;go_loopw [8] (fun s8 wr=>∃k:Nat,k≤l.length∧s8= .int .i64 k∧Hid (∀j (hj:j<l.length),j<k→p l[j]=false)∧Below w.heap.size w wr) (fun s8 _=>l.length-(intOf s8).toNat);case atStart=>exact⟨0,Nat.zero_le _,by go_num,fun j hj h=>absurd h (by omega),Below.refl _ _⟩
 case round=>
  obtain⟨k,hk,rfl,hall,hb⟩:=hrel;have hk1:(0:Int)≤(k:Int):=Int.natCast_nonneg _;by_cases hlt:k<l.length
  ·have hi2:(k:Int)<(l.length:Int):=(by omega);obtain⟨b,off,rfl,_,d0,d1⟩:=(h.out.below hb).at_ hlt;have hcall:=hide (hp.out _ hb _ (List.getElem_mem hlt));have hh:=hide (fun g=>hhit.out k hlt g hall.out);have hst:Hid (p l[k]=false→∀j (hj:j<l.length),j<k+1→p l[j]=false):=fun g j hj hjk=>by
    by_cases e:j=k
    ·subst e;exact g
    ·exact hall.out j hj (by omega)
   clear hall;generalize l[k]=x at*;go_wp2_with fail;refine hcall.out.mono ?_;rintro e W2 ⟨rfl,hb2⟩;have hb3:=hb.trans (hb2.mono hb.size);cases hpx:p x with
   |true=>
    have hr:=hide (hh.out hpx);clear hpx hh hst hcall;go_wp2;go_ret;exact⟨dw hr.out.symm,hb3⟩
   |false=>
    have hr:=hide (hst.out hpx);clear hpx hh hst hcall;go_wp2;go_roundw;case rel=>exact⟨k+1,by omega,by go_num,hr,hb3⟩
    case measure=>simp[intOf];omega
  ·have hr:=hide (hnone.out fun j hj=>hall.out j hj (by omega));go_wp2;go_ret;exact⟨dw hr.out.symm,hb⟩
theorem iI (f:Nat) (hf:∀args w,(callFunc f args).run Tryz.prog w= .ok (.enter f args) w) (lb:Array Value) (p:It→Bool) (A:Option Addr) (c:Nat) (l:List (It)) (w:World) (h:ItS w (Old w) (.slice A l.length c) l) (hl:l.length≤1000000000)
 (hp:∀W,Below w.heap.size w W→∀x∈l,Calls Tryz.prog f (#[.agg #[.int .i64 x.a,.int .i64 x.b]]++lb) W fun e W'=>e= .returned (.bool (p x))∧Below W.heap.size W W'):
 Calls Tryz.prog 217 #[.slice A l.length c,.func (.func f) #[] lb] w fun e w'=>e= .returned (.bool (l.any p))∧Below w.heap.size w w':=by
 have hd:=hide (ji p l);have hcall:=hide (CW f hf lb p A c l w h hl hp);clear hp hf h;go_enter Tryz.func217,Tryz.ntmps217;go_wp2_with fail;refine hcall.out.mono ?_;rintro e w1 ⟨rfl,hb⟩;clear hcall;go_wp2;go_ret;exact⟨by rw[←hd.out];rfl,hb⟩
set_option maxRecDepth 100000 in
theorem CX (f:Nat) (hf:∀args w,(callFunc f args).run Tryz.prog w= .ok (.enter f args) w) (lb:Array Value) (p:Cho→Bool) (A:Option Addr) (c:Nat) (l:List (Cho)) (w:World) (h:bq w (Old w) (.slice A l.length c) l) (hl:l.length≤1000000000)
 (hp:∀W,Below w.heap.size w W→∀x∈l,Calls Tryz.prog f (#[.agg #[.int .i64 x.key,.int .i64 x.a,.int .i64 x.b]]++lb) W fun e W'=>e= .returned (.bool (p x))∧Below W.heap.size W W'):
 Calls Tryz.prog 301 #[.slice A l.length c,.func (.func f) #[] lb] w fun e w'=>e= .returned (.int .i64 (sI p l))∧Below w.heap.size w w':=by
 have hhit:=hide (fun k=>jh (p:=p) (l:=l) (k:=k));have hnone:=hide (iB (p:=p) (l:=l));replace h:=hide h;replace hp:=hide hp;go_enter Tryz.func301,Tryz.ntmps301;go_wp2_with fail;go_loopw [8] (fun s8 wr=>∃k:Nat,k≤l.length∧s8= .int .i64 k∧Hid (∀j (hj:j<l.length),j<k→p l[j]=false)∧Below w.heap.size w wr) (fun s8 _=>l.length-(intOf s8).toNat);case atStart=>exact⟨0,Nat.zero_le _,by go_num,fun j hj h=>absurd h (by omega),Below.refl _ _⟩
 case round=>
  obtain⟨k,hk,rfl,hall,hb⟩:=hrel;have hk1:(0:Int)≤(k:Int):=Int.natCast_nonneg _;by_cases hlt:k<l.length
  ·have hi2:(k:Int)<(l.length:Int):=(by omega);obtain⟨b,off,rfl,_,d0,d1,d2⟩:=(h.out.below hb).at_ hlt;have hcall:=hide (hp.out _ hb _ (List.getElem_mem hlt));have hh:=hide (fun g=>hhit.out k hlt g hall.out);have hst:Hid (p l[k]=false→∀j (hj:j<l.length),j<k+1→p l[j]=false):=fun g j hj hjk=>by
    by_cases e:j=k
    ·subst e;exact g
    ·exact hall.out j hj (by omega)
   clear hall;generalize l[k]=x at*;go_wp2_with fail;refine hcall.out.mono ?_;rintro e W2 ⟨rfl,hb2⟩;have hb3:=hb.trans (hb2.mono hb.size);cases hpx:p x with
   |true=>
    have hr:=hide (hh.out hpx);clear hpx hh hst hcall;go_wp2;go_ret;exact⟨dw hr.out.symm,hb3⟩
   |false=>
    have hr:=hide (hst.out hpx);clear hpx hh hst hcall;go_wp2;go_roundw;case rel=>exact⟨k+1,by omega,by go_num,hr,hb3⟩
    case measure=>simp[intOf];omega
  ·have hr:=hide (hnone.out fun j hj=>hall.out j hj (by omega));go_wp2;go_ret;exact⟨dw hr.out.symm,hb⟩
theorem xS (f:Nat) (hf:∀args w,(callFunc f args).run Tryz.prog w= .ok (.enter f args) w) (lb:Array Value) (p:Cho→Bool) (A:Option Addr) (c:Nat) (l:List (Cho)) (w:World) (h:bq w (Old w) (.slice A l.length c) l) (hl:l.length≤1000000000)
 (hp:∀W,Below w.heap.size w W→∀x∈l,Calls Tryz.prog f (#[.agg #[.int .i64 x.key,.int .i64 x.a,.int .i64 x.b]]++lb) W fun e W'=>e= .returned (.bool (p x))∧Below W.heap.size W W'):
 Calls Tryz.prog 298 #[.slice A l.length c,.func (.func f) #[] lb] w fun e w'=>e= .returned (.bool (l.any p))∧Below w.heap.size w w':=by
 have hd:=hide (ji p l);have hcall:=hide (CX f hf lb p A c l w h hl hp);clear hp hf h;go_enter Tryz.func298,Tryz.ntmps298;go_wp2_with fail;refine hcall.out.mono ?_;rintro e w1 ⟨rfl,hb⟩;clear hcall;go_wp2;go_ret;exact⟨by rw[←hd.out];rfl,hb⟩
set_option maxRecDepth 100000 in
theorem CY (f:Nat) (hf:∀args w,(callFunc f args).run Tryz.prog w= .ok (.enter f args) w) (lb:Array Value) (p:Value×Bool→Bool) (A:Option Addr) (c:Nat) (l:List (Value×Bool)) (w:World) (h:wD w (Old w) (.slice A l.length c) l) (hl:l.length≤1000000000)
 (hp:∀W,Below w.heap.size w W→∀x∈l,Calls Tryz.prog f (#[x.1]++lb) W fun e W'=>e= .returned (.bool (p x))∧Below W.heap.size W W'):
 Calls Tryz.prog 277 #[.slice A l.length c,.func (.func f) #[] lb] w fun e w'=>e= .returned (.int .i64 (sI p l))∧Below w.heap.size w w':=by
 have hhit:=hide (fun k=>jh (p:=p) (l:=l) (k:=k));have hnone:=hide (iB (p:=p) (l:=l));replace h:=hide h;replace hp:=hide hp;go_enter Tryz.func277,Tryz.ntmps277;go_wp2_with fail;go_loopw [8] (fun s8 wr=>∃k:Nat,k≤l.length∧s8= .int .i64 k∧Hid (∀j (hj:j<l.length),j<k→p l[j]=false)∧Below w.heap.size w wr) (fun s8 _=>l.length-(intOf s8).toNat);case atStart=>exact⟨0,Nat.zero_le _,by go_num,fun j hj h=>absurd h (by omega),Below.refl _ _⟩
 case round=>
  obtain⟨k,hk,rfl,hall,hb⟩:=hrel;have hk1:(0:Int)≤(k:Int):=Int.natCast_nonneg _;by_cases hlt:k<l.length
  ·have hi2:(k:Int)<(l.length:Int):=(by omega);obtain⟨b,off,rfl,_,d0⟩:=(h.out.below hb).at_ hlt;have hcall:=hide (hp.out _ hb _ (List.getElem_mem hlt));have hh:=hide (fun g=>hhit.out k hlt g hall.out);have hst:Hid (p l[k]=false→∀j (hj:j<l.length),j<k+1→p l[j]=false):=fun g j hj hjk=>by
    by_cases e:j=k
    ·subst e;exact g
    ·exact hall.out j hj (by omega)
   clear hall;generalize l[k]=x at*;go_wp2_with fail;refine hcall.out.mono ?_;rintro e W2 ⟨rfl,hb2⟩;have hb3:=hb.trans (hb2.mono hb.size);cases hpx:p x with
   |true=>
    have hr:=hide (hh.out hpx);clear hpx hh hst hcall;go_wp2;go_ret;exact⟨dw hr.out.symm,hb3⟩
   |false=>
    have hr:=hide (hst.out hpx);clear hpx hh hst hcall;go_wp2;go_roundw;case rel=>exact⟨k+1,by omega,by go_num,hr,hb3⟩
    case measure=>simp[intOf];omega
  ·have hr:=hide (hnone.out fun j hj=>hall.out j hj (by omega));go_wp2;go_ret;exact⟨dw hr.out.symm,hb⟩
theorem xU (f:Nat) (hf:∀args w,(callFunc f args).run Tryz.prog w= .ok (.enter f args) w) (lb:Array Value) (p:Value×Bool→Bool) (A:Option Addr) (c:Nat) (l:List (Value×Bool)) (w:World) (h:wD w (Old w) (.slice A l.length c) l) (hl:l.length≤1000000000)
 (hp:∀W,Below w.heap.size w W→∀x∈l,Calls Tryz.prog f (#[x.1]++lb) W fun e W'=>e= .returned (.bool (p x))∧Below W.heap.size W W'):
 Calls Tryz.prog 273 #[.slice A l.length c,.func (.func f) #[] lb] w fun e w'=>e= .returned (.bool (l.any p))∧Below w.heap.size w w':=by
 have hd:=hide (ji p l);have hcall:=hide (CY f hf lb p A c l w h hl hp);clear hp hf h;go_enter Tryz.func273,Tryz.ntmps273;go_wp2_with fail;refine hcall.out.mono ?_;rintro e w1 ⟨rfl,hb⟩;clear hcall;go_wp2;go_ret;exact⟨by rw[←hd.out];rfl,hb⟩
end Go.Proofs.YtfhnamomiaekdaaGreatDoor
namespace Go.Inq
def ru(H:List Txn)(x y:Nat):Bool:=(aG H y).reads.any fun r=>decide (r.b=(x:Int))
def sJ(H:List Txn)(x y:Nat)(c:Cho):Bool:=decide (c.a=(x:Int))&&decide (c.b=(y:Int))&&decide (x≠y)&&(aG H x).writes.contains c.key&&(aG H y).writes.contains c.key
def qD(H:List Txn)(l:List Cho)(x y:Nat):Bool:=l.any (sJ H x y)
def qE(H:List Txn)(l:List Cho)(y:Nat)(r:It):Bool:=(aG H y).writes.contains r.a&&(decide (r.b<0)||(decide (r.b≠(y:Int))&&l.any fun c=>decide (c=⟨r.a,r.b,y⟩)))
def nP(H:List Txn)(l:List Cho)(x y:Nat):Bool:=decide (x≠y)&&(aG H x).reads.any (qE H l y)
def Lp(H:List Txn)(l:List Cho)(x y:Nat):Bool:=soE H x y||ru H x y||qD H l x y
def wE(H:List Txn)(x y:Int):Bool:=aA H&&decide (0≤x)&&decide (x<(H.length:Int))&&decide (0≤y)&&decide (y<(H.length:Int))
def bD(H:List Txn)(l:List Cho)(x y:Int):Bool:=wE H x y&&Lp H l x.toNat y.toNat
def iJ(H:List Txn)(l:List Cho)(x y:Int):Bool:=wE H x y&&nP H l x.toNat y.toNat
def isB(H:List Txn)(level:Int)(l:List Cho)(x y:Int):Bool:=
 if level=0 then bD H l x y||iJ H l x y
 else if level=1 then(List.range H.length).any fun m=>bD H l x (m:Int)&&(decide ((m:Int)=y)||iJ H l (m:Int) y)
 else false
def iK(H:List Txn)(level:Int)(l:List Cho)(row:List Int):Bool:=
 decide (0<row.length)&&(List.range row.length).all fun i=> !(row.take i).contains (row.getD i 0)&&isB H level l (row.getD i 0) (row.getD ((i+1)%row.length) 0)
theorem iL{H:List Txn}{x y:Int}:wE H x y=true↔aA H=true∧∃a b:Nat,x=a∧y=b∧a<H.length∧b<H.length:=by
 unfold wE;simp only[Bool.and_eq_true,decide_eq_true_eq];constructor
 ·rintro⟨⟨⟨⟨h1,h2⟩,h3⟩,h4⟩,h5⟩;exact⟨h1,x.toNat,y.toNat,by omega,by omega,by omega,by omega⟩
 ·rintro⟨h1,a,b,rfl,rfl,h2,h3⟩;exact⟨⟨⟨⟨h1,by omega⟩,by omega⟩,by omega⟩,by omega⟩
theorem lg{H:List Txn}{l:List Cho}{x y:Nat}(hr:aA H=true)(hx:x<H.length)(hy:y<H.length):bD H l x y=Lp H l x y:=by
 unfold bD;rw[iL.2 ⟨hr,x,y,rfl,rfl,hx,hy⟩];simp
theorem uF{H:List Txn}{l:List Cho}{x y:Nat}(hr:aA H=true)(hx:x<H.length)(hy:y<H.length):iJ H l x y=nP H l x y:=by
 unfold iJ;rw[iL.2 ⟨hr,x,y,rfl,rfl,hx,hy⟩];simp
end Go.Inq
namespace Go.Proofs.YtfhnamomiaekdaaGreatDoor
open Go.RowKit Go.Inq
set_option maxHeartbeats 4000000
attribute [local go_sem↓] Go.wp_at_zero Go.wp_at_succ
theorem sK(A:Option Addr)(c:Nat)(H:List Txn)(hn:aD H)(t key:Int)(Bh:Nat)(w:World)(h:aC w (Old w) (.slice A H.length c) H)(hBh:w.cell? ⟨Bh,0,none⟩=some (.slice A H.length c)):
 Calls Tryz.prog 144 #[.int .i64 t,.int .i64 key,.pointer (some ⟨Bh,0,none⟩)] w fun e w'=>e= .returned (.bool (wrB H t key))∧w=w':=by
 have hlen:=hn.1;by_cases h0:0≤t
 ·have h0b:decide (t≥0)=true:=(by simpa using h0);by_cases h1:t<(H.length:Int)
  ·obtain⟨m,rfl⟩:∃m:Nat,t=m:=⟨t.toNat,by omega⟩;have hm:m<H.length:=(by omega);have hr:=hide (BO (key:=key) hm);rw[aJ hm]at hr;obtain⟨b,off,Aw,cw,Ar,cr,rfl,_,d0,d1,d2,hws,_⟩:=aC.at_ h hm;have hwl:=(hn.2 _ (List.getElem_mem hm)).1;generalize H[m]=x at*;obtain⟨ts,ws,rs⟩:=x;dsimp only at*;have hm1:decide (m<H.length)=true:=(by simpa using hm);have hm2:(0:Int)≤(m:Int):=Int.natCast_nonneg _;replace hn:=hide hn;clear h h0;go_enter Tryz.func144,Tryz.ntmps144;go_wp2_with fail;refine(dS Aw cw ws key _ _ hws (by unfold maxLen;omega)).mono ?_;rintro e w3 ⟨rfl,rfl⟩;generalize ws.contains key=cb at*;go_wp2;go_ret;exact⟨by rw[hr.out];rfl,rfl⟩
  ·have hr:wrB H t key=false:=(by unfold wrB;simp;intro _ e;exact absurd e h1);have h1b:decide (t<(H.length:Int))=false:=(by simpa using h1);rw[hr];replace hn:=hide hn;clear h h0 h1 hr;go_enter Tryz.func144,Tryz.ntmps144;go_wp2;go_ret;exact⟨rfl,rfl⟩
 ·have hr:wrB H t key=false:=(by unfold wrB;simp;intro e;exact absurd e h0);have h0b:decide (t≥0)=false:=(by simpa using h0);rw[hr];replace hn:=hide hn;clear h h0 hr;go_enter Tryz.func144,Tryz.ntmps144;go_wp2;go_ret;exact⟨rfl,rfl⟩
theorem IX(A:Option Addr)(c:Nat)(H:List Txn)(hn:aD H)(x:Cho)(Bh Bf:Nat)(w:World)(h:aC w (Old w) (.slice A H.length c) H)(hBh:w.cell? ⟨Bh,0,none⟩=some (.slice A H.length c))(hBf:w.cell? ⟨Bf,0,none⟩=some (.func (.func 144) #[] #[.pointer (some ⟨Bh,0,none⟩)])):
 Calls Tryz.prog 147 #[.agg #[.int .i64 x.key,.int .i64 x.a,.int .i64 x.b],.pointer (some ⟨Bf,0,none⟩)] w fun e w'=>e= .returned (.bool (!bO H x))∧Below w.heap.size w w':=by
 obtain⟨key,a,b⟩:=x;dsimp only;obtain⟨W0,hW0⟩:∃W0,w.alloc (.cells #[.int .i64 key,.int .i64 a,.int .i64 b] 102)=W0:=⟨_,rfl⟩;have hB:=ah (Below.refl w.heap.size w) hW0 (Nat.le_refl _);have k0:=Blk.newEq hW0;have Rj:=(hB.cell (p:=⟨Bh,0,none⟩) (block_lt_of_cell hBh)).trans hBh;have Ul:=(hB.cell (p:=⟨Bf,0,none⟩) (block_lt_of_cell hBf)).trans hBf;have h2:=hide (h.below hB);have c0:=Blk.n0 k0;have c1:=Blk.n1 k0;have c2:=Blk.n2 k0;replace hn:=hide hn;clear h hBh hBf;by_cases h0:a=b
 ·have hr:bO H ⟨key,a,b⟩=false:=(by unfold bO;simp[h0]);have h0b:(a==b)=true:=(by simpa using h0);rw[hr];clear h0 hr;go_enter Tryz.func147,Tryz.ntmps147;go_wp2;go_ret;exact⟨rfl,hB⟩
 ·have hr:bO H ⟨key,a,b⟩=(wrB H a key&&wrB H b key):=(by unfold bO;simp[h0]);have h0b:(a==b)=false:=(by simpa using h0);rw[hr];clear h0 hr;go_enter Tryz.func147,Tryz.ntmps147;go_wp2_with fail;clear hW0;refine(sK A c H hn.out a key Bh _ h2.out Rj).mono ?_;rintro e w1 ⟨rfl,rfl⟩;cases hw:wrB H a key with
  |false=>
   replace hw:=hide hw;go_wp2;go_ret;exact⟨by rw[hw.out];rfl,hB⟩
  |true=>
   replace hw:=hide hw;go_wp2_with fail;refine(sK A c H hn.out b key Bh _ h2.out Rj).mono ?_;rintro e w1 ⟨rfl,rfl⟩;go_wp2;go_ret;exact⟨by rw[hw.out];rfl,hB⟩
set_option maxRecDepth 100000 in
theorem lq(A:Option Addr)(c:Nat)(H:List Txn)(Al:Option Addr)(cl:Nat)(l:List Cho)(w:World)(h:aC w (Old w) (.slice A H.length c) H)(hn:aD H)(hl:bq w (Old w) (.slice Al l.length cl) l)(hln:l.length≤1000000000):
 Calls Tryz.prog 80 #[.agg #[.slice A H.length c],.slice Al l.length cl] w fun e w'=>e= .returned (.bool (dM H l))∧Below w.heap.size w w':=by
 obtain⟨W0,hW0⟩:∃W0,w.alloc (.cells #[.slice A H.length c] 24)=W0:=⟨_,rfl⟩;have hB:=ah (Below.refl w.heap.size w) hW0 (Nat.le_refl _);have k0:=Blk.newEq hW0;have h2:=hide (h.below hB);have hl2:=hide (hl.below hB);have c0:=Blk.n0 k0;replace hn:=hide hn;have hs0:=aF hW0;replace hs0:=hide hs0;have hrc:Hid (dM H l=(aA H&&decide (l.length≤20000)&&l.all (bO H))):=hide rfl;have hal:Hid (l.all (bO H)= !(l.any fun x=> !bO H x)):=hide (by rw[Bool.eq_iff_iff];simp);clear h hl;go_enter Tryz.func80,Tryz.ntmps80;go_wp2_with fail;clear hW0 c0;refine(bY A c H _ h2.out hn.out).mono ?_;rintro e w1 ⟨rfl,hb1⟩;replace k0:=k0.below hb1 k0.lt;have hT1:=hide (h2.out.below hb1);have hC1:=hide (hl2.out.below hb1);have hb:=hB.trans (hb1.mono hB.size);clear hb1 hB h2 hl2;cases hr:aA H with
 |false=>
  rw[hr]at hrc;clear hr;go_wp2;go_ret;exact⟨by rw[hrc.out];rfl,hb⟩
 |true=>
  rw[hr]at hrc;clear hr;by_cases hm:l.length≤20000
  ·have hm1:decide ((l.length:Int)>20000)=false:=(by simp;omega);have hm2:decide (l.length≤20000)=true:=(by simpa using hm);rw[hm2]at hrc;obtain⟨W2,hW2⟩:∃W2,w1.alloc (.cells #[.func (.func 144) #[] #[.pointer (some ⟨w.heap.size,0,none⟩)]] 224)=W2:=⟨_,rfl⟩;have hB2:=ah (Below.refl w1.heap.size w1) hW2 (Nat.le_refl _);have kF:=Blk.newEq hW2;have hT2:=hT1.out.below hB2;have hC2:=hC1.out.below hB2;have k02:=k0.au hW2;have hb2:=hb.trans (hB2.mono hb.size);have hcall:=hide (zw 147 (enters_of Tryz.func147 (by kernel_rfl) rfl) #[.pointer (some ⟨w1.heap.size,0,none⟩)] (fun x=> !bO H x) Al cl l W2 hC2 (by omega) (fun W hbW x _=>
    IX A c H hn.out x w.heap.size w1.heap.size W (hT2.below hbW) (by have:=(k02.below hbW k02.lt).cell 0;simpa using this) (by have:=(kF.below hbW kF.lt).cell 0;simpa using this)))
   clear hm hm2 hB2 kF hT1 hC1 hT2 hC2 k0 k02;go_wp2_with fail;clear hW2;refine hcall.out.mono ?_;rintro e w3 ⟨rfl,hb3⟩;have hb4:=hb2.trans (hb3.mono hb2.size);clear hcall;go_wp2;go_ret;exact⟨by rw[hrc.out,hal.out];simp,hb4⟩
  ·have hm1:decide ((l.length:Int)>20000)=true:=(by simp;omega);have hm2:decide (l.length≤20000)=false:=(by simpa using hm);rw[hm2]at hrc;clear hm hm2;go_wp2;go_ret;exact⟨by rw[hrc.out];rfl,hb⟩
set_option maxHeartbeats 1000000
set_option maxHeartbeats 2000000
theorem Oj:(Tryz.prog.info? 172).map (fun i=>(i.zero,i.size,i.bytes))=some (some (.int .u64 0),1,8):=by kernel_rfl
abbrev IY:=Li 172
theorem jP(n:Nat)(hn:n≤64)(w:World):Calls Tryz.prog 166 #[.int .i64 n] w (IY w n noE):=by
 have hmk:∀W:World,(Instr.makeSlice 75 (.int .i64 (n:Int)) (.int .i64 (n:Int))).run Tryz.prog W= .ok (.slice (some ⟨W.heap.size,0,none⟩) n n) (W.alloc (.cells (madeCells #[.int .u64 0] n) 172)):=
  fun W=>run_make_row' (P:=Tryz.prog) 75 172 (.int .u64 0) 8 Tryz.underlying75 Oj rfl .i64 .i64 n (by omega) (by omega) W
 have h1:decide ((n:Int)<0)=false:=(by simp);have h2:decide ((n:Int)>64)=false:=(by simp;omega);have hno:=hide (Lh n);go_enter Tryz.func166,Tryz.ntmps166;go_wp2;refine bodyPost_ret (v:= .tuple #[.agg #[.int .i64 n,.slice (some ⟨w.heap.size+1,0,none⟩) n n],.int .i64 0]) (by simp[results,Tryz.results166,go_sem]) rfl ?_;refine⟨w.heap.size+1,by omega,rfl,?_,?_⟩
 ·rw[hno.out];have:=Blk.new (w.alloc (.cells #[.int .i64 n,.slice (some ⟨w.heap.size+1,0,none⟩) n n] 77)) 172 (madeCells #[.int .u64 0] n);simpa using this
 ·exact((Below.refl _ _).alloc (Nat.le_refl _) _).alloc (by simp) _
theorem jk(n:Nat)(A:Option Addr)(c:Nat)(E:aj)(K:Nat→Prop)(w:World)(h:GrS w K n A c E)(hK:∀b,K b→b<w.heap.size):
 Calls Tryz.prog 101 #[.agg #[.int .i64 n,.slice A n c]] w fun e w'=>e= .returned (.bool true)∧Below w.heap.size w w':=by
 have h1:decide ((n:Int)≥0)=true:=(by simp);have h2:decide ((n:Int)≤64)=true:=(by have:=h.n64;simp;omega);have hB:Below w.heap.size w (w.alloc (.cells #[.int .i64 n,.slice A n c] 77)):=(Below.refl _ _).alloc (Nat.le_refl _) _;have k0:Blk (w.alloc (.cells #[.int .i64 n,.slice A n c] 77)) w.heap.size 77 #[.int .i64 n,.slice A n c]:=Blk.new _ _ _;have hs:=h.sl.keep (Agree.below hB hK) (fun b hb=>hb);have hx:∀x∈dQ n E,x<18446744073709551616:=fun x hx=>Nat.lt_of_lt_of_le (CF hx) (iw h.n64);have hsub:=hide (IL h.n64 (l:=dQ n E) fun x hx=>CF hx);have hjl:=hide (xJ (l:=dQ n E) (n:=64) hx);have hpl:=hide (show 2^n-1<18446744073709551616 by have:=iw h.n64;have:=Nat.two_pow_pos n;omega);have hnn:=hide h.n64;replace hx:=hide hx;replace hs:=hide hs;clear h hK;go_enter Tryz.func101,Tryz.ntmps101;go_wp2;generalize w.alloc (.cells #[.int .i64 n,.slice A n c] 77)=W at*;have c0:=Blk.n0 k0;have c1:=Blk.n1 k0;go_quiet ((first|(go_at_call 171;exact Calls.quiet_of_same ((fE A n c (dQ n E) K _ (aQ n E) (hs.out.keep (Agree.drewN _ _ _) (fun _ h=>h)) hx.out (by have:=hnn.out;omega)).mono fun _ _ h=>⟨h.1,h.2.symm⟩))|(go_at_call 172;exact Calls.quiet_of_same ((CO n hnn.out _).mono fun _ _ h=>⟨h.1,h.2.symm⟩))|(go_at_call 133;exact Calls.quiet_of_same ((zL _ _ hjl.out hpl.out _).mono fun _ _ h=>⟨h.1,h.2.symm⟩))));rw[hsub.out];go_wp2;go_ret;exact⟨rfl,hB.trans ⟨rfl,rfl,rfl,Nat.le_refl _,fun _ _=>rfl⟩⟩
theorem E5{w:World}{o:Obj}:Below w.heap.size w (w.alloc o):=(Below.refl _ _).alloc (Nat.le_refl _) _
theorem xV(n:Nat)(A A':Option Addr)(c c':Nat)(E E':aj)(K:Nat→Prop)(w:World)(h:GrS w K n A c E)(h':GrS w K n A' c' E')(hK:∀b,K b→b<w.heap.size):
 Calls Tryz.prog 170 #[.agg #[.int .i64 n,.slice A n c],.agg #[.int .i64 n,.slice A' n c']] w fun e w'=>e= .returned (.bool true)∧Below w.heap.size w w':=by
 have hB:Below w.heap.size w ((w.alloc (.cells #[.int .i64 n,.slice A n c] 77)).alloc (.cells #[.int .i64 n,.slice A' n c'] 77)):=E5.alloc (by simp) _;have k0:Blk ((w.alloc (.cells #[.int .i64 n,.slice A n c] 77)).alloc (.cells #[.int .i64 n,.slice A' n c'] 77)) w.heap.size 77 #[.int .i64 n,.slice A n c]:=(Blk.new _ _ _).alloc _;have k1:Blk ((w.alloc (.cells #[.int .i64 n,.slice A n c] 77)).alloc (.cells #[.int .i64 n,.slice A' n c'] 77)) (w.heap.size+1) 77 #[.int .i64 n,.slice A' n c']:=by
  have:=Blk.new (w.alloc (.cells #[.int .i64 n,.slice A n c] 77)) 77 #[.int .i64 n,.slice A' n c'];simpa using this
 have hg:=hide (h.keep (Agree.below hB hK) (fun b hb=>hb));have hg':=hide (h'.keep (Agree.below hB hK) (fun b hb=>hb));have hK2:∀b,K b→b<((w.alloc (.cells #[.int .i64 n,.slice A n c] 77)).alloc (.cells #[.int .i64 n,.slice A' n c'] 77)).heap.size:=fun b hb=>(by have:=hK b hb;simp;omega);clear h h';replace hK:=hide hK;go_enter Tryz.func170,Tryz.ntmps170;go_wp2_with fail;refine(jk n _ c E K _ hg.out hK2).mono ?_;rintro e w1 ⟨rfl,hb1⟩;have hg2:=hide (hg'.out.keep (Agree.below hb1 hK2) (fun b hb=>hb));have hK3:∀b,K b→b<w1.heap.size:=fun b hb=>Nat.lt_of_lt_of_le (hK2 b hb) hb1.size;replace k0:=k0.below hb1 k0.lt;replace k1:=k1.below hb1 k1.lt;have hb2:=hB.trans (hb1.mono hB.size);have c0:=Blk.n0 k0;have c1:=Blk.n1 k0;have d0:=Blk.n0 k1;have d1:=Blk.n1 k1;clear hg hg' hb1 hB;replace hK2:=hide hK2;go_wp2_with fail;refine(jk n _ c' E' K _ hg2.out hK3).mono ?_;rintro e w3 ⟨rfl,hb3⟩;replace k0:=k0.below hb3 k0.lt;replace k1:=k1.below hb3 k1.lt;have hb4:=hb2.trans (hb3.mono hb2.size);clear c0 c1 d0 d1;have c0:=Blk.n0 k0;have d0:=Blk.n0 k1;clear hb3 hb2;replace hK3:=hide hK3;go_wp2;go_ret;exact⟨rfl,hb4⟩
end Go.Proofs.YtfhnamomiaekdaaGreatDoor
namespace Go.Proofs.YtfhnamomiaekdaaGreatDoor
open Go.RowKit Go.Inq
set_option maxHeartbeats 1000000
end Go.Proofs.YtfhnamomiaekdaaGreatDoor
