/-
  Plain words of layers 10, 12: a number's bit, sets joined, graphs by their edges, and what is done to them.
-/
import Derived.Test.YtpjechjoijjhpaaGreatDoorProg
import Derived.Laws.BitsAllLaws
import Derived.Laws.Shifts
import Derived.Lib.TrailingZeros
import Derived.Laws.Bits64b
import Derived.OrdersHeld
import Derived.StillTail
import Derived.Conc.Events
import Derived.Laws.AppendOwn
import Derived.Laws.Panics
import Derived.KernelRfl
import Derived.Test.YtpjechjoijjhpaaGreatDoorZ01
set_option linter.unusedVariables false
set_option linter.unusedSimpArgs false
namespace Go.Inq
def qR(i:Int):Nat:=if 0≤i∧i<64 then 2^i.toNat else 0
theorem Dh{i:Int}(h0:0≤i)(h:i<64):qR i=2^i.toNat:=by unfold qR;rw[if_pos ⟨h0,h⟩]
theorem Nk{i:Int}(h:i<0):qR i=0:=by unfold qR;rw[if_neg (by omega)]
theorem Kr{i:Int}(h:64≤i):qR i=0:=by unfold qR;rw[if_neg (by omega)]
theorem yx(i:Int):qR i<18446744073709551616:=by
 unfold qR;split
 ·rename_i h;exact Nat.lt_of_lt_of_le (Nat.pow_lt_pow_right (by decide) (show i.toNat<64 by omega)) (by decide)
 ·decide
def hasB(s:Nat)(i:Int):Bool:=decide (0≤i)&&s.testBit i.toNat
theorem pQ(s i:Nat):hasB s (i:Int)=s.testBit i:=by unfold hasB;simp
theorem Nl{s:Nat}(hs:s<18446744073709551616)(i:Int):decide (s&&&qR i=0)= !hasB s i:=by
 unfold hasB qR;by_cases h0:0≤i
 ·by_cases h:i<64
  ·rw[if_pos ⟨h0,h⟩,Bool.eq_iff_iff,decide_eq_true_iff,and_one];simp[h0]
  ·rw[if_neg (by omega)];have:s.testBit i.toNat=false:=Nat.testBit_lt_two_pow (Nat.lt_of_lt_of_le (show s<2^64 from hs) (Nat.pow_le_pow_right (by decide) (by omega)));simp[this]
 ·rw[if_neg (by omega)];simp[h0]
def eZ(s:Nat)(i:Int):Nat:=s|||qR i
theorem Nn{s:Nat}(hs:s<18446744073709551616)(i:Int):eZ s i<18446744073709551616:=Nat.or_lt_two_pow (n:=64) hs (yx i)
theorem Ca(s:Nat){i:Nat}(hi:i<64)(j:Nat):(eZ s (i:Int)).testBit j=(s.testBit j||decide (i=j)):=by
 unfold eZ;rw[Dh (by omega) (by omega),Int.toNat_natCast];exact RF s i j
def joinL(l:List Nat):Nat:=l.foldl (·|||·) 0
theorem Di(l:List Nat):∀(a i:Nat),(l.foldl (·|||·) a).testBit i=(a.testBit i||l.any fun x=>x.testBit i):=by
 induction l with
 |nil=>intro a i;simp
 |cons x r ih=>intro a i;rw[List.foldl_cons,ih,Nat.testBit_or,List.any_cons,Bool.or_assoc]
theorem Kt(l:List Nat)(i:Nat):(joinL l).testBit i=l.any fun x=>x.testBit i:=by
 unfold joinL;rw[Di];simp
theorem yN{l:List Nat}{n:Nat}(h:∀x∈l,x<2^n):joinL l<2^n:=by
 refine Nat.lt_pow_two_of_testBit _ (fun i hi=> ?_);rw[Kt,List.any_eq_false];intro x hx;rw[Nat.testBit_lt_two_pow (Nat.lt_of_lt_of_le (h x hx) (Nat.pow_le_pow_right (by decide) hi))];simp
theorem GH{l:List Nat}{k:Nat}(h:k<l.length):joinL (l.take (k+1))=joinL (l.take k)|||l[k]:=by
 unfold joinL;rw[List.take_succ_eq_append_getElem h,List.foldl_append];rfl
def Ku(a b:Nat):Bool:=decide (a&&&(18446744073709551615-b)=0)
theorem En{a b:Nat}(ha:a<18446744073709551616)(hb:b<18446744073709551616):Ku a b=true↔∀i,a.testBit i=true→b.testBit i=true:=by
 unfold Ku;rw[decide_eq_true_iff];have hc:∀i,(18446744073709551615-b).testBit i=(decide (i<64)&& !b.testBit i):=by
  intro i;have:=Nat.testBit_two_pow_sub_succ (n:=64) (x:=b) hb i;rw[show 2^64-(b+1)=18446744073709551615-b by omega]at this;exact this
 constructor
 ·intro h i hi;have Vh:i<64:=by
   rcases Nat.lt_or_ge i 64 with h|h
   ·exact h
   ·rw[Nat.testBit_lt_two_pow (Nat.lt_of_lt_of_le (show a<2^64 from ha) (Nat.pow_le_pow_right (by decide) h))]at hi;cases hi
  have:=congrArg (fun y=>y.testBit i) h;simp only[Nat.testBit_and,hc,hi,decide_eq_true Vh,Nat.zero_testBit,Bool.true_and]at this;simpa using this
 ·intro h;refine Nat.eq_of_testBit_eq (fun i=> ?_);rw[Nat.testBit_and,hc,Nat.zero_testBit];by_cases hi:a.testBit i=true
  ·rw[h i hi];simp
  ·simp[hi]
theorem iF{n:Nat}(h:n≤64):2^n≤18446744073709551616:=Nat.le_trans (Nat.pow_le_pow_right (by decide) h) (by decide)
theorem Kv{l:List Nat}{n:Nat}(hn:n≤64)(h:∀x∈l,x<2^n):Ku (joinL l) (2^n-1)=true:=by
 have hp:=iF hn;have hj:=yN h;rw[En (by omega) (by have:=Nat.two_pow_pos n;omega)];intro i hi;rw[Nat.testBit_two_pow_sub_one];refine decide_eq_true ?_;rcases Nat.lt_or_ge i n with h|h
 ·exact h
 ·rw[Nat.testBit_lt_two_pow (Nat.lt_of_lt_of_le hj (Nat.pow_le_pow_right (by decide) h))]at hi;cases hi
theorem nu{p:Nat→Bool}{n:Nat}(hn:n≤64):jd (aX p n)=(List.range n).filter p:=by
 unfold jd;obtain⟨m,hm⟩:=Nat.le.dest hn;rw[←hm,List.range_add,List.filter_append];have h1:(List.range n).filter (fun i=>(aX p n).testBit i)=(List.range n).filter p:=List.filter_congr fun i hi=>by
  have:i<n:=(by simpa using hi);rw[aT];simp[this]
 have h2:((List.range m).map (n+·)).filter (fun i=>(aX p n).testBit i)=[]:=by
  rw[List.filter_eq_nil_iff];intro i hi;obtain⟨k,_,rfl⟩:=List.mem_map.1 hi;rw[aT];simp;intro h;omega
 rw[h1,h2,List.append_nil]
def gT(a b:Nat):aj:=fun x y=>decide (x=a)&&decide (y=b)
def noE:aj:=fun _ _=>false
theorem yO(n:Nat):dL n noE=List.replicate n 0:=by
 refine List.ext_getElem (by simp[aU]) fun a h1 h2=> ?_;have ha:a<n:=(by rw[aU]at h1;exact h1);rw[gG ha,List.getElem_replicate];refine Nat.eq_of_testBit_eq (fun i=> ?_);rw[aT];simp[noE]
theorem vI{p:Nat→Bool}{n b:Nat}(hb:b<n)(hn:n≤64):eZ (aX p n) (b:Int)=aX (fun y=>p y||decide (y=b)) n:=by
 refine Db ?_ (fun i hi=> ?_)
 ·refine Nat.lt_pow_two_of_testBit _ (fun i hi=> ?_);rw[Ca _ (by omega),aT];simp;omega
 ·rw[Ca _ (by omega),aT];have:decide (b=i)=decide (i=b):=(by simp[eq_comm]);simp[hi,this]
theorem Kw{n:Nat}{E:aj}{a b:Nat}(ha:a<n)(hb:b<n)(hn:n≤64):(dL n E).set a (eZ ((dL n E)[a]'(by rw[aU];exact ha)) (b:Int))=dL n (orE E (gT a b)):=by
 generalize e2:(dL n E)[a]'(by rw[aU];exact ha)=v;rw[gG ha]at e2;subst e2;refine List.ext_getElem (by simp[aU]) fun x h1 h2=> ?_;have hx:x<n:=(by rw[aU]at h2;exact h2);have e1:(dL n (orE E (gT a b)))[x]'h2=aX (orE E (gT a b) x) n:=gG hx;have e3:(dL n E)[x]'(by rw[aU];exact hx)=aX (E x) n:=gG hx;rw[List.getElem_set,e1];split
 ·rename_i e;subst e;rw[vI hb hn];exact dS fun y hy=>by simp[orE,gT]
 ·rename_i e;rw[e3];exact dS fun y hy=>by
   have:decide (x=a)=false:=(by simp;omega);simp[orE,gT,this]
theorem vJ(a b:Nat):joinL [a,b]=a|||b:=by unfold joinL;simp
theorem Dj{p q:Nat→Bool}{n:Nat}:aX p n|||aX q n=aX (fun y=>p y||q y) n:=by
 refine Db (Nat.or_lt_two_pow (lM _ _) (lM _ _)) (fun i hi=> ?_);rw[Nat.testBit_or,aT,aT];simp[hi]
def pR(n:Nat)(E:aj):List (Nat×Nat):=((List.range n).map fun a=>((List.range n).filter (E a)).map fun b=>(a,b)).flatten
theorem yP{n:Nat}{E:aj}{a b:Nat}:(a,b)∈pR n E↔a<n∧b<n∧E a b=true:=by
 unfold pR;rw[List.mem_flatten];constructor
 ·rintro⟨l,hl,h⟩;obtain⟨x,hx,rfl⟩:=List.mem_map.1 hl;obtain⟨y,hy,e⟩:=List.mem_map.1 h;injection e with e1 e2
  subst e1 e2;rw[List.mem_filter]at hy;exact⟨by simpa using hx,by simpa using hy.1,hy.2⟩
 ·rintro⟨ha,hb,he⟩;exact⟨_,List.mem_map.2 ⟨a,by simpa using ha,rfl⟩,List.mem_map.2 ⟨b,List.mem_filter.2 ⟨by simpa using hb,he⟩,rfl⟩⟩
def ofL(l:List (Nat×Nat)):aj:=fun a b=>l.contains (a,b)
theorem Np(l:List (Nat×Nat))(a b:Nat):ofL (l++[(a,b)])=orE (ofL l) (gT a b):=by
 funext x y;unfold ofL orE gT;rw[Bool.eq_iff_iff];simp
end Go.Inq
namespace Go.Inq
open Go Go.RowKit
def xX(n:Nat):List Value:=[.int .u64 n]
def jD(w:World)(K:Nat→Prop)(v:Value)(l:List Nat):Prop:=SlR 1 (Flat xX) w K v l
section
variable{w w':World}{K K':Nat→Prop}{v:Value}{l:List Nat}
theorem jD.keep(h:jD w K v l)(ha:Agree K w w')(hk:∀b,K b→K' b):jD w' K' v l:=SlR.keep (Flat.aS _) h ha hk
theorem jD.below(h:jD w (Old w) v l)(hb:Below w.heap.size w w'):jD w' (Old w') v l:=SlR.below (Flat.aS _) h hb
theorem jD.fit(h:jD w K v l)(hk:∀b,K b→K' b):jD w K' v l:=SlR.fit (Flat.aS _) h hk
theorem jD.at_{A:Option Addr}{n c:Nat}(h:jD w K (.slice A n c) l){i:Nat}(hi:i<l.length):∃b off,A=some ⟨b,off,none⟩∧K b∧w.cell? ⟨b,off+i,none⟩=some (.int .u64 (l[i]:Nat)):=by
 obtain⟨b,off,cs,hA,hK,_,hR,hc⟩:=SlR.at_ h hi;unfold Flat at hR;subst hR;have:=hc 0 _ rfl;rw[Nat.mul_one,Nat.add_zero]at this;exact⟨b,off,hA,hK,this⟩
theorem jD.cells{b off n c:Nat}(h:jD w K (.slice (some ⟨b,off,none⟩) n c) l){i:Nat}(hi:i<l.length):K b∧w.cell? ⟨b,off+i,none⟩=some (.int .u64 (l[i]:Nat)):=by
 obtain⟨cs,hK,_,hR,hc⟩:=SlR.cells h hi;unfold Flat at hR;subst hR;have:=hc 0 _ rfl;rw[Nat.mul_one,Nat.add_zero]at this;exact⟨hK,this⟩
theorem jD.nil(w:World)(K:Nat→Prop)(A:Option Addr)(c:Nat):jD w K (.slice A 0 c) []:=SlR.nil _ _ _ _ _ _
theorem jD.bP{g:Nat}{t:TypeId}(h:Blk w g t (l.map fun x:Nat=>Value.int .u64 x).toArray)(hK:K g):jD w K (.slice (some ⟨g,0,none⟩) l.length l.length) l:=by
 refine⟨some ⟨g,0,none⟩,l.length,l.map xX,rfl,Nat.le_refl _,by simp,fun i cs x h1 h2=> ?_,fun _=>⟨g,0,rfl,hK,fun i j cs u h1 h2=> ?_⟩⟩
 ·rw[List.getElem?_map,h2]at h1;injection h1 with h1
  exact⟨by rw[←h1];rfl,h1.symm⟩
 ·rw[List.getElem?_map]at h1;cases hl:l[i]? with
  |none=>rw[hl]at h1;cases h1
  |some x=>
   rw[hl]at h1;injection h1 with h1
   subst h1;cases j with
   |zero=>
    injection h2 with h2
    rw[Nat.zero_add,Nat.mul_one,Nat.add_zero,h.cell,gA,List.getElem?_map,hl,←h2];rfl
   |succ j=>simp[xX]at h2
end
structure GrS(w:World)(K:Nat→Prop)(n:Nat)(A:Option Addr)(c:Nat)(E:aj):Prop where
 sl:jD w K (.slice A n c) (dL n E)
 n64:n≤64
def bV(n:Nat)(E:aj):Array Value:=((dL n E).map fun x:Nat=>Value.int .u64 x).toArray
theorem pU{n:Nat}{E:aj}{a:Nat}(h:a<n):(bV n E)[a]?=some (.int .u64 (aX (E a) n:Nat)):=by
 unfold bV;rw[gA,List.getElem?_map,List.getElem?_eq_getElem (by rw[aU];exact h),gG h];rfl
theorem Cb{n:Nat}{E:aj}{a b:Nat}(ha:a<n)(hb:b<n)(hn:n≤64):(bV n E).setIfInBounds a (.int .u64 (eZ (aX (E a) n) (b:Int):Nat))=bV n (orE E (gT a b)):=by
 unfold bV;rw[←Kw ha hb hn,sA,List.map_set,gG ha]
theorem Cc{n:Nat}{E:aj}{a x:Nat}{p:Nat→Bool}(ha:a<n)(hx:x=aX p n):(bV n E).setIfInBounds a (.int .u64 (x:Nat))=bV n (fun i=>if i=a then p else E i):=by
 unfold bV;rw[sA];congr 1;refine List.ext_getElem (by simp[aU]) fun i h1 h2=> ?_;have hi:i<n:=(by simpa[aU]using h2);rw[List.getElem_set,List.getElem_map,List.getElem_map,gG hi,gG hi];by_cases e:a=i
 ·subst e;rw[if_pos rfl,if_pos rfl,hx]
 ·rw[if_neg e,if_neg (fun h=>e h.symm)]
theorem Nq(n:Nat):bV n noE=madeCells #[.int .u64 0] n:=by
 unfold bV;rw[yO];refine Array.ext (by simp[size_madeCells]) fun i h1 h2=> ?_;simp[madeCells,Nat.mod_one]
theorem dM{n:Nat}{E F:aj}(h:∀a b,a<n→b<n→E a b=F a b):bV n E=bV n F:=by unfold bV;rw[wR h]
section
variable{w w':World}{K K':Nat→Prop}{n c:Nat}{A:Option Addr}{E F:aj}
theorem GrS.keep(h:GrS w K n A c E)(ha:Agree K w w')(hk:∀b,K b→K' b):GrS w' K' n A c E:=⟨h.sl.keep ha hk,h.n64⟩
theorem GrS.below(h:GrS w (Old w) n A c E)(hb:Below w.heap.size w w'):GrS w' (Old w') n A c E:=⟨h.sl.below hb,h.n64⟩
theorem GrS.fit(h:GrS w K n A c E)(hk:∀b,K b→K' b):GrS w K' n A c E:=⟨h.sl.fit hk,h.n64⟩
theorem GrS.at_(h:GrS w K n A c E){i:Nat}(hi:i<n):∃b off,A=some ⟨b,off,none⟩∧K b∧w.cell? ⟨b,off+i,none⟩=some (.int .u64 (aX (E i) n:Nat)):=by
 obtain⟨b,off,hA,hK,hc⟩:=h.sl.at_ (i:=i) (by rw[aU];exact hi);rw[gG hi]at hc;exact⟨b,off,hA,hK,hc⟩
theorem GrS.cells{b off:Nat}(h:GrS w K n (some ⟨b,off,none⟩) c E){i:Nat}(hi:i<n):K b∧w.cell? ⟨b,off+i,none⟩=some (.int .u64 (aX (E i) n:Nat)):=by
 obtain⟨b',off',hA,hK,hc⟩:=h.at_ hi;injection hA with hA;injection hA with h1 h2;subst h1 h2
 exact⟨hK,hc⟩
theorem GrS.bP{g:Nat}{t:TypeId}(h:Blk w g t (bV n E))(hK:K g)(hn:n≤64):GrS w K n (some ⟨g,0,none⟩) n E:=by
 have:=jD.bP (l:=dL n E) h hK;rw[aU]at this;exact⟨this,hn⟩
theorem GrS.congr(h:GrS w K n A c E)(hE:∀a b,a<n→b<n→E a b=F a b):GrS w K n A c F:=⟨by rw[←wR hE];exact h.sl,h.n64⟩
theorem GrS.zero(w:World)(K:Nat→Prop)(A:Option Addr)(c:Nat)(E:aj):GrS w K 0 A c E:=⟨by simpa[dL]using jD.nil w K A c,by omega⟩
end
theorem fC{p:Nat→Bool}{n:Nat}(h:n≤64):aX p n<18446744073709551616:=Nat.lt_of_lt_of_le (lM p n) (iF h)
def Nr(t:TypeId)(w:World)(n:Nat)(E:aj)(e:Ending)(w':World):Prop:=
 ∃g,w.heap.size≤g∧e= .returned (.tuple #[.agg #[.int .i64 n,.slice (some ⟨g,0,none⟩) n n],.int .i64 0])∧Blk w' g t (bV n E)∧Below w.heap.size w w'
theorem Nr.congr{t:TypeId}{w w':World}{n:Nat}{E F:aj}{e:Ending}(h:Nr t w n E e w')(hE:∀a b,a<n→b<n→E a b=F a b):Nr t w n F e w':=by
 unfold Nr at h⊢;rw[←dM hE];exact h
end Go.Inq
namespace Go.Proofs.YtpjechjoijjhpaaGreatDoor
open Go.RowKit Go.Inq
set_option maxHeartbeats 1000000
attribute [local go_sem↓] Go.wp_at_zero Go.wp_at_succ
theorem JH(i:Int)(w:World):Calls Tryz.prog 104 #[.int .i64 i] w fun e w'=>e= .returned (.int .u64 (qR i:Nat))∧w=w':=by
 by_cases h0:i<0
 ·have hr:=hide (Nk h0);have h0b:decide (i<0)=true:=(by simpa using h0);clear h0;go_enter Tryz.func104,Tryz.ntmps104;go_wp2;go_ret;exact⟨by rw[hr.out];rfl,rfl⟩
 ·by_cases h1:64≤i
  ·have hr:=hide (Kr h1);have h0b:decide (i<0)=false:=(by simpa using h0);have h1b:decide (i≥64)=true:=(by simpa using h1);clear h0 h1;go_enter Tryz.func104,Tryz.ntmps104;go_wp2;go_ret;exact⟨by rw[hr.out];rfl,rfl⟩
  ·have hr:=hide (Dh (i:=i) (by omega) (by omega));have hlt:=hide (yx i);have h0b:decide (i<0)=false:=(by simpa using h0);have h1b:decide (i≥64)=false:=(by simpa using h1);have h2:0≤i:=(by omega);have h3:i≤64:=(by omega);clear h0 h1;go_enter Tryz.func104,Tryz.ntmps104;go_wp2;go_ret;refine⟨dV ?_,rfl⟩;have e1:=hr.out;have e2:=hlt.out;rw[e1]at e2;have e3:min i.toNat IntKind.u64.bits=i.toNat:=(by simp[IntKind.bits];omega);try rw[e3]
   rw[IntKind.wrap_u64,e1];have e4:((2:Int)^i.toNat)=((2^i.toNat:Nat):Int):=(by simp);omega
theorem Ky(s:Nat)(hs:s<18446744073709551616)(i:Int)(w:World):Calls Tryz.prog 59 #[.int .u64 s,.int .i64 i] w fun e w'=>e= .returned (.bool (Go.Inq.hasB s i))∧w=w':=by
 have h1:=u64_and_nat s (qR i) hs (yx i);have hr:=hide (Nl hs i);go_enter Tryz.func59,Tryz.ntmps59;go_wp2_with fail;refine(JH i _).mono ?_;rintro e w1 ⟨rfl,rfl⟩;go_wp2;go_ret;refine⟨bE ?_,rfl⟩;have:=hr.out;rw[←Bool.not_not (Go.Inq.hasB s i),←this,Bool.eq_iff_iff];simp
theorem rY(s:Nat)(hs:s<18446744073709551616)(i:Int)(w:World):Calls Tryz.prog 61 #[.int .u64 s,.int .i64 i] w fun e w'=>e= .returned (.int .u64 (eZ s i:Nat))∧w=w':=by
 have h1:=u64_or_nat s (qR i) hs (yx i);go_enter Tryz.func61,Tryz.ntmps61;go_wp2_with fail;refine(JH i _).mono ?_;rintro e w1 ⟨rfl,rfl⟩;go_wp2;go_ret;exact⟨rfl,rfl⟩
theorem Ce(a b:Nat)(ha:a<18446744073709551616)(hb:b<18446744073709551616)(w:World):Calls Tryz.prog 60 #[.int .u64 a,.int .u64 b] w fun e w'=>e= .returned (.bool (Ku a b))∧w=w':=by
 have h1:=u64_andNot_nat a b ha hb;go_enter Tryz.func60,Tryz.ntmps60;go_wp2;go_ret;refine⟨bE ?_,rfl⟩;unfold Ku;rw[Bool.eq_iff_iff];simp
theorem gI(A:Option Addr)(n c:Nat)(l:List Nat)(K:Nat→Prop)(w:World)(hn:l.length=n)(h:jD w K (.slice A n c) l)(h64:∀x∈l,x<18446744073709551616)(hm:n≤1000000):
 Calls Tryz.prog 96 #[.slice A n c] w fun e w'=>e= .returned (.int .u64 (joinL l:Nat))∧w=w':=by
 replace hn:=hide hn;have hj:∀k,joinL (l.take k)<18446744073709551616:=fun k=>yN (n:=64) fun x hx=>h64 x (List.mem_of_mem_take hx);replace hj:=hide hj;replace h64:=hide h64;go_enter Tryz.func96,Tryz.ntmps96;go_wp2_with fail
 go_loop [3,8] (fun s3 s8=>∃k:Nat,k≤n∧s8= .int .i64 k∧s3= .int .u64 (joinL (l.take k):Nat)) (fun _ s8=>n-(intOf s8).toNat)
 case atStart=>exact⟨0,Nat.zero_le _,by go_num,rfl⟩
 case round=>
  obtain⟨k,hk,rfl,rfl⟩:=hrel;by_cases hlt:k<n
  ·have hi1:(0:Int)≤(k:Int):=Int.natCast_nonneg _;have hi2:(k:Int)<(n:Int):=(by omega);have hkl:k<l.length:=(by rw[hn.out];exact hlt);obtain⟨b,off,rfl,hbK,hc⟩:=jD.at_ h hkl;have hor:=u64_or_nat (joinL (l.take k)) l[k] (hj.out k) (h64.out _ (List.getElem_mem hkl));have hst:=hide (GH hkl);generalize l[k]=x at*;generalize joinL (l.take k)=y at*;clear hkl;go_wp2
   go_round
   case rel=>exact⟨k+1,by omega,by go_num,by rw[hst.out]⟩
   case measure=>simp[intOf];omega
  ·obtain rfl:k=n:=(by omega);have ht:l.take k=l:=List.take_of_length_le (by rw[hn.out];exact Nat.le_refl _);rw[ht];clear ht;go_wp2;go_ret;exact⟨rfl,rfl⟩
theorem Eo(n:Nat)(hn:n≤64)(w:World):Calls Tryz.prog 140 #[.int .i64 n] w fun e w'=>e= .returned (.int .u64 (2^n-1:Nat))∧w=w':=by
 have h2:(0:Int)≤(n:Int):=Int.natCast_nonneg _;have h3:(n:Int)≤64:=(by omega);have hp:=hide (iF hn);have hp2:=hide (Nat.two_pow_pos n);go_enter Tryz.func140,Tryz.ntmps140;go_wp2;go_ret;refine⟨dV ?_,rfl⟩;have e1:=hp.out;have e2:=hp2.out;have e3:min n IntKind.u64.bits=n:=(by simp[IntKind.bits];omega);have e4:((2:Int)^n)=((2^n:Nat):Int):=(by simp);simp only[Int.toNat_natCast,IntKind.wrap_u64]at*;try rw[e3]
 rw[e4];generalize 2^n=x at*;omega
def jl(w:World):Prop:=∀j,j<Lib.deBruijn64tab.length→w.cell? ⟨0,j,none⟩=some (.int .u8 (Lib.deBruijn64tab.getD j 0))
theorem jl.lt{w:World}(h:jl w):0<w.heap.size:=by
 have:=h 0 (by decide);rcases Nat.lt_or_ge 0 w.heap.size with g|g
 ·exact g
 ·unfold World.cell? at this;simp[Array.getElem?_eq_none g]at this
theorem jl.below{w w':World}(h:jl w)(hb:Below w.heap.size w w'):jl w':=fun j hj=>(hb.cell (p:=⟨0,j,none⟩) h.lt).trans (h j hj)
theorem jl.drewN{w:World}(h:jl w)(n:Nat):jl (w.drewN n):=h
theorem RI(x a:Nat)(hx:x<18446744073709551616)(hx0:x≠0)(hlow:x&&&(18446744073709551616-x)=a):
 IntKind.u64.wrap (bits BinOp.and IntKind.u64 (x:Int) (IntKind.u64.wrap (-(x:Int)))*285870213051353865)/288230376151711744=((a*285870213051353865%18446744073709551616/288230376151711744:Nat):Int):=by
 have e1:IntKind.u64.wrap (-(x:Int))=((18446744073709551616-x:Nat):Int):=(by rw[IntKind.wrap_u64];omega);rw[e1,u64_and_nat x _ hx (by omega),hlow,IntKind.wrap_u64];omega
theorem Qb (x k idx:Nat) (w:World) (hx0:((x:Int)==0)=false)
 (key:IntKind.u64.wrap (bits BinOp.and IntKind.u64 (x:Int) (IntKind.u64.wrap (-(x:Int)))*285870213051353865)/288230376151711744=(idx:Int))
 (hi:idx<64) (hk:k<64) (hcell:w.cell? ⟨0,idx,none⟩=some (.int .u8 k)):
 Calls Tryz.prog 99 #[.int .u64 x] w fun e w'=>e= .returned (.int .i64 k)∧w=w':=by
 go_enter Tryz.func99,Tryz.ntmps99;go_wp2_with (simp only[key]);go_ret;exact⟨rfl,rfl⟩
theorem Ns(x:Nat)(hx:x<18446744073709551616)(w:World)(hT:jl w):
 Calls Tryz.prog 99 #[.int .u64 x] w fun e w'=>e= .returned (.int .i64 (Lib.ctz 64 x))∧w=w':=by
 by_cases hx0:x=0
 ·subst hx0;go_enter Tryz.func99,Tryz.ntmps99;go_wp2;go_ret;exact⟨rfl,rfl⟩
 ·obtain⟨hlow,hk⟩:=Lib.lowest_bit 64 x hx0 hx;obtain⟨hi,htab⟩:=Lib.deBruijn64_at _ hk;have hcell:=hT _ hi;rw[htab]at hcell;exact Qb x _ _ w (by simp;omega) (RI x _ hx hx0 hlow) hi hk hcell
end Go.Proofs.YtpjechjoijjhpaaGreatDoor
namespace Go.Inq
open Go Go.RowKit
theorem below_grown{B:Nat}{w0 w w':World}{row:Option Nat}(hb:Below B w0 w)(hg:w.grownBy w' row)(hB:B≤w.heap.size)(hr:∀k,row=some k→B≤k):Below B w0 w':=
 hb.trans ⟨hg.os,hg.tape,hg.output,hg.size,fun k hk=>hg.block k (Nat.lt_of_lt_of_le hk hB) (fun e=>by have:=hr k e.symm;omega)⟩
theorem aN {P:Program} {W:World} {ops:Array Oper} {rest:List Oper} {o:Oper} {a:Act} {Q:Exit→Act→World→Prop} {α:Type} {enc:α→List Value}
 (hgd:o.guard=none) (s x:Operand) (t:TypeId) (ho:o.op= .call {callee:= .builtin .append,args:=#[s,x],argTypes:=#[t,t]})
 (base:Nat) (e:TypeId) (i:TypeInfo) (z:Value) (size bytes:Nat) (ht:P.underlying t=some (.slice e)) (hi:P.info? e=some i) (hz:i.zero=some z)
 (hsize:i.size=size) (hby:i.bytes=bytes) (hzs:z.cells.size=size) (hsz:0<size)
 (v:Value) (l:List α) (hs:a.eval s=v) (hown:W.ownsRow base e size v l.length (l.map enc).flatten) (hen:∀x,(enc x).length=size)
 (x0:α) (cs:Array Value) (hcs:cs.toList=enc x0) (hx:a.eval x= .slice (some ⟨W.heap.size,0,none⟩) 1 1)
 (h1:∀x,∀u∈enc x,u.oneCell'=true) (h63:l.length+1≤maxLen) (hbytes:(l.length+1)*bytes≤140737488355328) (hbase:base≤W.heap.size)
 (w0:World) (B:Nat) (hB:B≤base) (hb:Below B w0 W)
 (h:∀v' w',w'.ownsRow base e size v' (l++[x0]).length ((l++[x0]).map enc).flatten→(W.alloc (.cells cs e)).grownBy w' v.ownBlock→Below B w0 w'→(v'.ownBlock=v.ownBlock∨v'.ownBlock=some (W.heap.size+1))→wpList P ops Q rest (a.put o.dst v') w'):
 wpList P ops Q (o::rest) a (W.alloc (.cells cs e)):=by
 have hk:Blk (W.alloc (.cells cs e)) W.heap.size e cs:=Blk.new _ _ _;have hl:cs.size=size:=(by rw[←Array.length_toList,hcs,hen]);refine bg (enc:=enc) hgd s x t ho base e i z size bytes ht hi hz hsize hby hzs hsz v (fun _=>True) l hs (hown.alloc _) hen _ [x0] hx (SlR.one hk hl (by unfold Flat;exact hcs) trivial) h1 h63 hbytes (by simp;omega) ?_;intro v' w' g1 g2 g3;refine h v' w' g1 g2 (below_grown (hb.alloc (by omega) _) g2 (by simp;omega) ?_) (by simpa using g3);intro k hk;have:=(hown.lt k hk).1;omega
end Go.Inq
namespace Go.Proofs.YtpjechjoijjhpaaGreatDoor
open Go.RowKit Go.Inq
set_option maxHeartbeats 1000000
attribute [local go_sem↓] Go.wp_at_zero Go.wp_at_succ
def au(l:List Nat):List Int:=l.map fun(n:Nat)=>(n:Int)
theorem iy(l:List Nat)(x:Nat):au (l++[x])=au l++[(x:Int)]:=by simp[au]
theorem aR(l:List Nat):(au l).length=l.length:=by simp[au]
theorem iM{l:List Nat}{i:Nat}(h:i<l.length):(au l)[i]'(by rw[aR];exact h)=(l[i]:Int):=by simp[au]
theorem gU:(Tryz.prog.info? 3).map (fun i=>(i.zero,i.size,i.bytes))=some (some (.int .i64 0),1,8):=by kernel_rfl
def bA(w:World)(base:Nat)(v:Value)(l:List Int):Prop:=w.ownsRow base 3 1 v l.length (l.map Go.Inq.encI).flatten
def AO(w:World)(l:List Int)(e:Ending)(w':World):Prop:=∃v,e= .returned v∧bA w' w.heap.size v l∧Below w.heap.size w w'
theorem bA.form{w:World}{base:Nat}{v:Value}{l:List Int}(h:bA w base v l):∃A c,v= .slice A l.length c:=aW h
theorem bA.sl{w:World}{base:Nat}{v:Value}{l:List Int}(h:bA w base v l){K:Nat→Prop}(hK:∀g,base≤g→g<w.heap.size→K g):aM w K v l:=SlR.of_flat h rfl (fun _=>rfl) hK
theorem bA.nil(w:World)(base:Nat):bA w base (.slice none 0 0) []:=World.ownsRow_nil _ _ _ _
def B64(n:Nat):Prop:=n<18446744073709551616
def Ep(s y:Nat)(l:List Nat):Prop:=l++jd y=jd s
theorem GI{s y:Nat}{l:List Nat}(h:Ep s y l)(h0:y≠0)(hy:y<18446744073709551616):Ep s (y&&&(y-1)) (l++[Lib.ctz 64 y]):=by
 unfold Ep at h⊢;rw[←h,rT y h0 hy];simp
theorem nA(s:Nat)(hs:s<18446744073709551616)(w:World)(hT:jl w):
 Calls Tryz.prog 54 #[.int .u64 s] w (AO w (au (jd s))):=by
 obtain⟨ii,hii,hi1,hi2,hi3⟩:=info_parts gU;go_enter Tryz.func54,Tryz.ntmps54;go_wp2_with fail;go_loopw [0,3] (fun s0 s3 wr=>∃(y:Nat) (l:List Nat),B64 y∧s0= .int .u64 y∧Hid (Ep s y l)∧bA wr w.heap.size s3 (au l)∧Below w.heap.size w wr) (fun s0 _ _=>(jd (intOf s0).toNat).length);case atStart=>exact⟨s,[],hs,rfl,(show[]++jd s=jd s from rfl),bA.nil _ _,Below.refl _ _⟩
 case round=>
  obtain⟨y,l,hy,rfl,hr,hown,hb⟩:=hrel;unfold B64 at hy;by_cases h0:y=0
  ·subst h0;have he:=hr.out;unfold Ep at he;rw[Gt,List.append_nil]at he;subst he;go_wp2;go_ret;exact⟨_,rfl,hown,hb⟩
  ·have h0b:((y:Int) !=0)=true:=(by simp;omega);have hT2:=hT.below hb;have hn:=hide (GI hr.out h0 hy);have hlen:l.length+1≤64:=by
    have h1:=congrArg List.length hr.out;have h2:=congrArg List.length (rT y h0 hy);have h3:=Kj s;simp only[List.length_append,List.length_cons]at h1 h2;omega
   have hand:=u64_and_nat y (y-1) hy (by omega);have hsub:IntKind.u64.wrap ((y:Int)-1)=((y-1:Nat):Int):=(by rw[IntKind.wrap_u64];omega);have hlt:=hide (Nf y hy);have hms:=hide (show(jd (y&&&(y-1))).length<(jd y).length by rw[rT y h0 hy];simp);generalize y&&&(y-1)=z at*;generalize y-1=y1 at*;have hsz:=hb.size;obtain⟨A,c,rfl⟩:=hown.form;replace hown:=hide hown;replace hr:=hide hr.out;replace hy:=hide hy;clear h0 hs;go_wp2_with (first|(go_at_call 99;refine(Ns y hy.out _ hT2).mono ?_;rintro e w' ⟨rfl,rfl⟩)|(at_builtin;refine aN (enc:=Go.Inq.encI) rfl (.tmp 10) (.tmp 13) 35 rfl w.heap.size 3 ii _ 1 8 Tryz.underlying35 hii hi1 hi2 hi3 rfl (by decide) (.slice A (au l).length c) (au l) rfl hown.out (fun _=>rfl) (Lib.ctz 64 y:Int) _ rfl rfl fD (by rw[aR];simp[maxLen];omega) (by rw[aR];omega) hsz w w.heap.size (Nat.le_refl _) hb ?_;intro v1 w1 hown1 hg1 hb1 _));go_roundw;case rel=>exact⟨z,l++[Lib.ctz 64 y],hlt.out,rfl,hn,by unfold bA;rw[iy];exact hown1,hb1⟩
   case measure=>
    simp only[intOf,Int.toNat_natCast];exact hms.out
end Go.Proofs.YtpjechjoijjhpaaGreatDoor
namespace Go.Inq
open Go
def Clear{α:Type}(e:Sem α):Prop:=∀(P:Program) w v w',e.run P w= .ok v w'→w'=w∧∀u,e.run P u= .ok v u
section
variable{α β:Type}
theorem Clear.pure(a:α):Clear (Pure.pure a:Sem α):=fun P w v w' h=>by
 simp at h;obtain⟨rfl,rfl⟩:=h;exact⟨rfl,fun u=>by simp⟩
theorem Clear.halt(x:Halt):Clear (Sem.halt x:Sem α):=fun P w v w' h=>by simp[Sem.run]at h
theorem Clear.never{e:Sem α}(h:∀(P:Program) w v w',e.run P w≠ .ok v w'):Clear e:=fun P w v w' h'=>absurd h' (h P w v w')
theorem Clear.bind{e:Sem α}{f:α→Sem β}(he:Clear e)(hf:∀a,Clear (f a)):Clear (e>>=f):=fun P w v w' h=>by
 rw[Sem.run_bind]at h;cases hr:e.run P w with
 |halt x w1=>rw[hr]at h;simp[Result.andThen]at h
 |ok a w1=>
  rw[hr]at h;obtain⟨rfl,h1⟩:=he P w a w1 hr;simp only[Result.andThen]at h;obtain⟨rfl,h2⟩:=hf a P _ v w' h;exact⟨rfl,fun u=>by rw[Sem.run_bind,h1 u];simp only[Result.andThen];exact h2 u⟩
theorem Clear.program:Clear Go.program:=fun P w v w' h=>by
 simp[Go.program,Sem.run]at h;obtain⟨rfl,rfl⟩:=h;exact⟨rfl,fun u=>by simp[Go.program,Sem.run]⟩
theorem Clear.bounds(k:IntKind)(x y:Int)(c:BoundsCode):Clear (boundsPanic k x y c:Sem α):=Clear.never fun P w v w' h=>by
 obtain⟨s,w2,h2⟩:=run_boundsPanic (α:=α) (P:=P) (w:=w) k x y c;rw[h2]at h;cases h
theorem Clear.underlying(t:TypeId):Clear (Go.underlying t):=Clear.bind Clear.program fun p=>by
 split
 ·exact Clear.pure _
 ·exact Clear.halt _
theorem Clear.typeInfo(t:TypeId):Clear (Go.typeInfo t):=Clear.bind Clear.program fun p=>by
 split
 ·exact Clear.pure _
 ·exact Clear.halt _
theorem Clear.sizeOf(t:TypeId):Clear (Go.sizeOf t):=Clear.bind (Clear.typeInfo t) fun _=>Clear.pure _
theorem Clear.zeroValue(t:TypeId):Clear (Go.zeroValue t):=Clear.bind (Clear.typeInfo t) fun _=>by
 split
 ·exact Clear.pure _
 ·exact Clear.halt _
theorem Clear.nilDeref{α:Type}:Clear (runtimePanic .nilDeref:Sem α):=by
 unfold runtimePanic;exact Clear.bind Clear.program fun p=>Clear.halt _
theorem Clear.sureAddr(v:Value):Clear (Instr.sureAddr v):=by
 unfold Instr.sureAddr;split
 ·exact Clear.pure _
 ·exact Clear.halt _
theorem Clear.asIntOf(v:Value):Clear (asIntOf v):=by
 unfold Go.asIntOf;split
 ·exact Clear.pure _
 ·exact Clear.halt _
 ·exact Clear.halt _
theorem Clear.asBool(v:Value):Clear (asBool v):=by
 unfold Go.asBool;split
 ·exact Clear.pure _
 ·exact Clear.halt _
theorem Clear.mapM{γ δ:Type}(f:γ→Sem δ)(hf:∀a,Clear (f a)):∀(l:List γ),Clear (l.mapM f)
 |[]=>by rw[List.mapM_nil];exact Clear.pure _
 |a::l=>by
  rw[List.mapM_cons];exact Clear.bind (hf a) fun _=>Clear.bind (Clear.mapM f hf l) fun _=>Clear.pure _
theorem Clear.Kz{γ δ:Type}(f:γ→Sem δ)(hf:∀a,Clear (f a))(xs:Array γ):Clear (xs.mapM f):=by
 obtain⟨l⟩:=xs;rw[List.mapM_toArray];have h:=Clear.mapM f hf l;intro P w v w' hr;rw[Sem.run_map]at hr;cases hl:(l.mapM f).run P w with
 |halt x w1=>rw[hl]at hr;simp[Result.andThen]at hr
 |ok a w1=>
  rw[hl]at hr;simp only[Result.andThen]at hr;obtain⟨rfl,h1⟩:=h P w a w1 hl;injection hr with e1 e2
  exact⟨e2.symm,fun u=>by rw[Sem.run_map,h1 u];simp only[Result.andThen];rw[e1]⟩
theorem Clear.indexAt(t:TypeId)(x i:Value):Clear (Instr.indexAt t x i):=by
 unfold Instr.indexAt;refine Clear.bind (Clear.asIntOf i) fun ki=> ?_;obtain⟨k,i⟩:=ki;refine Clear.bind (Clear.underlying t) fun d=> ?_
 extract_lets jp
 have hj:∀q,Clear (jp q):=by
  rintro⟨base,len,elem⟩;refine Clear.bind (Clear.underlying t) fun d2=> ?_
  extract_lets tiny
  split
  ·split
   ·exact Clear.bind (Clear.sizeOf _) fun _=>Clear.pure _
   ·split
    ·exact Clear.halt _
    ·exact Clear.bounds _ _ _ _
  ·exact Clear.bounds _ _ _ _
 split
 ·exact Clear.bind (Clear.sureAddr _) fun _=>Clear.bind (Clear.pure _) hj
 ·exact Clear.bind (Clear.pure _) hj
 ·exact Clear.bind (Clear.halt _) hj
theorem Clear.build(t:TypeId)(parts:Array (Nat×Value)):Clear (Instr.build t parts):=by
 unfold Instr.build;refine Clear.bind (Clear.zeroValue t) fun z=> ?_;refine Clear.bind (Clear.underlying t) fun d=> ?_;split
 ·refine Clear.bind (Clear.Kz _ (fun f=>Clear.bind (Clear.sizeOf _) fun _=>Clear.pure _) _) fun ps=> ?_;split
  ·exact Clear.pure _
  ·exact Clear.halt _
 ·refine Clear.bind (Clear.sizeOf _) fun s=> ?_;split
  ·exact Clear.pure _
  ·exact Clear.halt _
 ·exact Clear.halt _
theorem Clear.extract(v:Value)(i:Nat):Clear (Instr.extract v i):=by
 unfold Instr.extract;split
 ·split
  ·exact Clear.pure _
  ·exact Clear.halt _
 ·exact Clear.halt _
end
theorem Clear.isAgg(t:TypeId):Clear (Go.isAgg t):=Clear.bind (Clear.underlying t) fun _=>by
 split
 ·exact Clear.pure _
 ·exact Clear.pure _
 ·exact Clear.pure _
theorem Clear.part(t:TypeId)(cs:Array Value)(i:Nat):Clear (Go.part t cs i):=by
 unfold Go.part;refine Clear.bind (Clear.isAgg _) fun b=> ?_;split
 ·exact Clear.bind (Clear.sizeOf _) fun _=>Clear.pure _
 ·split
  ·exact Clear.pure _
  ·exact Clear.halt _
theorem Clear.followBlind:∀(l:List FieldStep) (t:TypeId) (x:Option Value),Clear (Go.followBlind l t x)
 |[],t,x=>Clear.pure _
 |s::rest,t,x=>by
  unfold Go.followBlind;refine Clear.bind (Clear.underlying _) fun d=> ?_;split
  ·split
   ·split
    ·exact Clear.pure _
    ·exact Clear.followBlind rest _ _
    ·exact Clear.halt _
    ·exact Clear.pure _
    ·exact Clear.bind (Clear.part _ _ _) fun _=>Clear.followBlind rest _ _
    ·exact Clear.halt _
    ·exact Clear.followBlind rest _ _
   ·exact Clear.halt _
  ·exact Clear.halt _
theorem Clear.nilAhead:∀(n:Nat) (t:TypeId) (v:Value) (name:String),Clear (Go.nilAhead n t v name)
 |0,_,_,_=>Clear.pure _
 |n+1,t,v,name=>by
  unfold Go.nilAhead;refine Clear.bind (Clear.typeInfo _) fun i=> ?_;split
  ·refine Clear.bind (Clear.followBlind _ _ _) fun r=> ?_;split
   ·exact Clear.pure _
   ·split
    ·exact Clear.nilAhead n _ _ _
    ·exact Clear.pure _
    ·exact Clear.halt _
    ·exact Clear.pure _
    ·exact Clear.pure _
    ·refine Clear.bind (Clear.underlying _) fun d=> ?_;split<;>exact Clear.pure _
  ·exact Clear.halt _
def worldless(P:Program):Op→Bool
 | .move _| .assign _| .pick .. | .build .. | .indexAddr .. | .extract .. | .makeFunc .. | .nilCheck _=>true
 | .fieldAddr s _ f=>match P.underlying s with
  |some (.struct fs)=>match fs[f]? with
   |some g=>match P.info? g.type with
    |some i=>i.size !=0
    |none=>false
   |none=>false
  |_=>false
 |_=>false
theorem kJ{P:Program}{ρ:Operand→Value}{o:Oper}(h:worldless P o.op=true){w w':World}{n:Next}(hr:(execOp ρ o).run P w= .ok n w'):
 ∀u,(execOp ρ o).run P u= .ok n u:=by
 have lift:∀(s:Sem Value),Clear s→(do pure (.value (←s)):Sem Next).run P w= .ok n w'→∀u,(do pure (.value (←s)):Sem Next).run P u= .ok n u:=
  fun s hs h u=>(Clear.bind hs (fun _=>Clear.pure _) P w n w' h).2 u
 cases ho:o.op<;>rw[ho]at h<;>simp[worldless]at h;case move x=>
  have e:execOp ρ o=Pure.pure (.value (ρ x)):=(by unfold execOp;rw[ho]);rw[e]at hr⊢;exact(Clear.pure _ P w n w' hr).2
 case assign x=>
  have e:execOp ρ o=Pure.pure (.value (ρ x)):=(by unfold execOp;rw[ho]);rw[e]at hr⊢;exact(Clear.pure _ P w n w' hr).2
 case nilCheck x=>
  have c:Clear (execOp ρ o):=by
   unfold execOp;rw[ho];dsimp only;split
   ·exact Clear.nilDeref
   ·exact Clear.nilDeref
   ·exact Clear.nilDeref
   ·split
    ·exact Clear.nilDeref
    ·refine Clear.bind Clear.program fun p=> ?_;refine Clear.bind (Clear.nilAhead _ _ _ _) fun r=> ?_;split
     ·exact Clear.bind (Clear.halt _) fun _=>Clear.pure _
     ·exact Clear.pure _
    ·exact Clear.pure _
   ·exact Clear.pure _
  exact(c P w n w' hr).2
 case pick c a b=>
  have e:execOp ρ o=(do Pure.pure (.value (if←asBool (ρ c)then ρ a else ρ b))):=(by unfold execOp;rw[ho]);rw[e]at hr⊢;exact(Clear.bind (Clear.asBool _) (fun _=>Clear.pure _) P w n w' hr).2
 case build t ps=>
  have e:execOp ρ o=(do Pure.pure (.value (←Instr.build t (ps.map fun(i,x)=>(i,ρ x))))):=(by unfold execOp;rw[ho]);rw[e]at hr⊢;exact lift _ (Clear.build _ _) hr
 case makeFunc fn a b=>
  have e:execOp ρ o=(do Pure.pure (.value (←Instr.makeFunc fn (a.map ρ) (b.map ρ)))):=(by unfold execOp;rw[ho]);rw[e]at hr⊢;exact lift _ (Clear.pure _) hr
 case indexAddr t x i=>
  have e:execOp ρ o=(do Pure.pure (.value (←Instr.indexAt t (ρ x) (ρ i)))):=(by unfold execOp;rw[ho]);rw[e]at hr⊢;exact lift _ (Clear.indexAt _ _ _) hr
 case extract t i=>
  have e:execOp ρ o=(do Pure.pure (.value (←Instr.extract (ρ t) i))):=(by unfold execOp;rw[ho]);rw[e]at hr⊢;exact lift _ (Clear.extract _ _) hr
 case fieldAddr s x f=>
  have e:execOp ρ o=(do Pure.pure (.value (←Instr.fieldAt s (ρ x) f))):=(by unfold execOp;rw[ho]);rw[e]at hr⊢;split at h;case h_2=>cases h
  case h_1 fs hu=>
   split at h;case h_2=>cases h
   case h_1 g hg=>
    split at h;case h_2=>cases h
    case h_1 i hi=>
     have hsz:i.size≠0:=(by simpa using h);have key:∀u,(Instr.fieldAt s (ρ x) f).run P u=(Instr.sureAddr (ρ x)>>=fun a=>Pure.pure (Value.pointer (some (a.add g.offset)))).run P u:=fun u=>by
      unfold Instr.fieldAt;rw[Sem.run_bind];have h1:(Go.underlying s).run P u= .ok (.struct fs) u:=(by simp[Go.underlying,Go.program,Sem.run,hu]);rw[h1];simp only[Result.andThen,hg];rw[Sem.run_bind,Sem.run_bind];congr 1;funext a u';have h2:(Go.fieldPlace a g).run P u'= .ok (a.add g.offset) u':=by
       unfold Go.fieldPlace;simp[Go.sizeOf,Go.typeInfo,Go.program,Sem.run,hi,hsz]
      rw[Sem.run_bind,h2];rfl
     have c:Clear (Instr.sureAddr (ρ x)>>=fun a=>(Pure.pure (Value.pointer (some (a.add g.offset))):Sem Value)):=Clear.bind (Clear.sureAddr _) fun _=>Clear.pure _;have both:∀u,(do Pure.pure (.value (←Instr.fieldAt s (ρ x) f)):Sem Next).run P u=(do Pure.pure (.value (←(Instr.sureAddr (ρ x)>>=fun a=>(Pure.pure (Value.pointer (some (a.add g.offset))):Sem Value)))):Sem Next).run P u:=fun u=>by
      rw[Sem.run_bind,Sem.run_bind,key u]
     intro u;exact(both u).trans (lift _ c ((both w).symm.trans hr) u)
def Ext(w w':World):Prop:=w.heap.size≤w'.heap.size∧∀b,b<w.heap.size→w'.heap[b]?=w.heap[b]?
theorem Ext.refl(w:World):Ext w w:=⟨Nat.le_refl _,fun _ _=>rfl⟩
theorem Ext.trans{a b c:World}(h:Ext a b)(h':Ext b c):Ext a c:=⟨Nat.le_trans h.1 h'.1,fun k hk=>(h'.2 k (Nat.lt_of_lt_of_le hk h.1)).trans (h.2 k hk)⟩
def Stb{α:Type}(e:Sem α):Prop:=∀(P:Program) w v w',e.run P w= .ok v w'→w'=w∧∀u,Ext w u→e.run P u= .ok v u
theorem Clear.stb{α:Type}{e:Sem α}(h:Clear e):Stb e:=fun P w v w' hr=>⟨(h P w v w' hr).1,fun u _=>(h P w v w' hr).2 u⟩
theorem Stb.bind{α β:Type}{e:Sem α}{f:α→Sem β}(he:Stb e)(hf:∀a,Stb (f a)):Stb (e>>=f):=fun P w v w' h=>by
 rw[Sem.run_bind]at h;cases hr:e.run P w with
 |halt x w1=>rw[hr]at h;simp[Result.andThen]at h
 |ok a w1=>
  rw[hr]at h;obtain⟨rfl,h1⟩:=he P w a w1 hr;simp only[Result.andThen]at h;obtain⟨rfl,h2⟩:=hf a P _ v w' h;exact⟨rfl,fun u hu=>by rw[Sem.run_bind,h1 u hu];simp only[Result.andThen];exact h2 u hu⟩
theorem KA{P:Program}{w:World}{at_:Addr}{t:TypeId}{k:Addr}{b:Bool}{r}(h:w.seen P at_ t k b= .ok r):∃c e f,w.heap[at_.block]?=some (.cells c e f):=by
 cases hh:w.heap[at_.block]? with
 |none=>
  exfalso;unfold World.seen at h;rw[hh]at h;simp only[bind,Except.bind]at h;repeat' split at h
  all_goals first|cases h|(rename_i hx;cases hx)
 |some o=>
  cases o with
  |cells c e f=>exact⟨c,e,f,rfl⟩
  |_=>
   exfalso;unfold World.seen at h;rw[hh]at h;simp only[bind,Except.bind]at h;repeat' split at h
   all_goals first|cases h|(rename_i hx;cases hx)
theorem GJ{P:Program}{w u:World}{at_:Addr}{t:TypeId}{k:Addr}{b:Bool}(h:u.heap[at_.block]?=w.heap[at_.block]?):u.seen P at_ t k b=w.seen P at_ t k b:=by
 unfold World.seen;rw[h]
theorem lt_of_some{w:World}{b:Nat}{o:Obj}(h:w.heap[b]?=some o):b<w.heap.size:=(Array.getElem?_eq_some_iff.1 h).1
theorem Stb.load(a:Addr):Stb (Go.load a):=fun P w v w' h=>by
 unfold Go.load at h⊢;simp only[Sem.run]at h⊢;cases hc:w.cell? a with
 |some x=>
  rw[hc]at h;simp only[Result.ok.injEq]at h;obtain⟨rfl,rfl⟩:=h;refine⟨rfl,fun u hu=> ?_⟩;have hb:a.block<w.heap.size:=World.block_lt_of_cell? w a hc;rw[World.cell?_of_block (w:=w) (hu.2 _ hb),hc]
 |none=>
  rw[hc]at h;dsimp only at h;unfold World.farLoad at h⊢;cases hh:w.heap[a.block]? with
  |none=>rw[hh]at h;simp at h
  |some o=>
   have hb:=lt_of_some hh;have hcu:∀u,Ext w u→u.cell? a=none:=fun u hu=>(by rw[World.cell?_of_block (w:=w) (hu.2 _ hb),hc]);rw[hh]at h;cases o with
   |view at_ t=>
    dsimp only at h;cases hv:w.viewLoad P at_ t a (Mode.plain==Mode.atomic)with
    |error e=>rw[hv]at h;simp at h
    |ok r=>
     rw[hv]at h;dsimp only at h;simp only[Result.ok.injEq]at h;obtain⟨rfl,rfl⟩:=h;refine⟨rfl,fun u hu=> ?_⟩;rw[hcu u hu];dsimp only;rw[hu.2 _ hb,hh];dsimp only;have hs:∃r,w.seen P at_ t a (Mode.plain==Mode.atomic)= .ok r:=by
      cases hsn:w.seen P at_ t a (Mode.plain==Mode.atomic)with
      |error e=>unfold World.viewLoad at hv;rw[hsn]at hv;cases hv
      |ok r=>exact⟨r,rfl⟩
     obtain⟨r2,hs⟩:=hs;obtain⟨c,e,f,hcc⟩:=KA hs;have hvu:u.viewLoad P at_ t a (Mode.plain==Mode.atomic)=w.viewLoad P at_ t a (Mode.plain==Mode.atomic):=by
      unfold World.viewLoad;rw[GJ (hu.2 _ (lt_of_some hcc))]
     rw[hvu,hv]
   |_=>simp at h
theorem Stb.loadCellsFrom(a:Addr):∀(n i:Nat) (acc:Array Value),Stb (Go.loadCellsFrom a i n acc)
 |0,i,acc=>by unfold Go.loadCellsFrom;exact(Clear.pure _).stb
 |n+1,i,acc=>by unfold Go.loadCellsFrom;exact Stb.bind (Stb.load _) fun v=>Stb.loadCellsFrom a n (i+1) _
theorem Stb.loadAt(t:TypeId)(v:Value):Stb (Instr.loadAt t v):=by
 unfold Instr.loadAt;refine Stb.bind (Clear.sureAddr v).stb fun a=> ?_;unfold Go.loadVar;refine Stb.bind (Clear.isAgg t).stb fun b=> ?_;split
 ·exact Stb.bind (Clear.sizeOf t).stb fun n=>Stb.bind (by unfold Go.loadCells;exact Stb.loadCellsFrom a n 0 _) fun _=>(Clear.pure _).stb
 ·exact Stb.load a
def Grow{α:Type}(e:Sem α):Prop:=∀(P:Program) w v w',e.run P w= .ok v w'→Ext w w'
theorem Clear.grow{α:Type}{e:Sem α}(h:Clear e):Grow e:=fun P w v w' hr=>by rw[(h P w v w' hr).1];exact Ext.refl _
theorem Grow.bind{α β:Type}{e:Sem α}{f:α→Sem β}(he:Grow e)(hf:∀a,Grow (f a)):Grow (e>>=f):=fun P w v w' h=>by
 rw[Sem.run_bind]at h;cases hr:e.run P w with
 |halt x w1=>rw[hr]at h;simp[Result.andThen]at h
 |ok a w1=>
  rw[hr]at h;simp only[Result.andThen]at h;exact(he P w a w1 hr).trans (hf a P _ v w' h)
theorem Grow.newObj(o:Obj):Grow (Go.newObj o):=fun P w v w' h=>by
 unfold Go.newObj at h;simp only[Sem.run,Result.ok.injEq]at h;obtain⟨_,rfl⟩:=h;refine⟨by simp,fun b hb=> ?_⟩;show(w.heap.push o)[b]?=_;rw[Array.getElem?_push,if_neg (by omega)]
theorem Grow.newVar(t:TypeId)(v:Value):Grow (Go.newVar t v):=by
 unfold Go.newVar Go.newRow;exact Grow.bind (Grow.newObj _) fun _=>(Clear.pure _).grow
def iw:Op→Bool
 | .alloc _| .box .. | .buildSlice .. =>true
 |_=>false
theorem Dk{P:Program}{ρ:Operand→Value}{o:Oper}(h:iw o.op=true){w w':World}{n:Next}(hr:(execOp ρ o).run P w= .ok n w'):Ext w w'∧∃v,n= .value v:=by
 have lift:∀(s:Sem Value),Grow s→(do Pure.pure (.value (←s)):Sem Next).run P w= .ok n w'→Ext w w'∧∃v,n= .value v:=fun s hs hr=>by
  refine⟨Grow.bind hs (fun _=>(Clear.pure _).grow) P w n w' hr,?_⟩;rw[Sem.run_bind]at hr;cases h1:s.run P w with
  |halt x w1=>rw[h1]at hr;simp[Result.andThen]at hr
  |ok a w1=>rw[h1]at hr;simp[Result.andThen]at hr;exact⟨a,hr.1.symm⟩
 cases ho:o.op<;>rw[ho]at h<;>simp[iw]at h;case alloc t=>
  have e:execOp ρ o=(do Pure.pure (.value (←Instr.alloc t true (.tuple #[])))):=(by unfold execOp;rw[ho]);rw[e]at hr;refine lift _ ?_ hr;unfold Instr.alloc;refine Grow.bind (Clear.zeroValue t).grow fun z=> ?_;exact Grow.bind (Grow.newVar _ _) fun _=>(Clear.pure _).grow
 case box t x=>
  have e:execOp ρ o=(do Pure.pure (.value (←Instr.box t (ρ x)))):=(by unfold execOp;rw[ho]);rw[e]at hr;refine lift _ ?_ hr;unfold Instr.box;exact Grow.bind (Grow.newVar _ _) fun _=>(Clear.pure _).grow
 case buildSlice t k ps=>
  have e:execOp ρ o=(do Pure.pure (.value (←Instr.buildSlice t k (ps.map fun(i,x)=>(i,ρ x))))):=(by unfold execOp;rw[ho]);rw[e]at hr;refine lift _ ?_ hr;unfold Instr.buildSlice;refine Grow.bind (Clear.underlying t).grow fun d=> ?_;split
  ·refine Grow.bind (Clear.sizeOf _).grow fun sz=> ?_
   extract_lets jp jp2
   have hj:∀z,Grow (jp z):=by
    intro z;dsimp only[jp];split
    ·exact Grow.bind (by unfold Go.newRow;exact Grow.bind (Grow.newObj _) fun _=>(Clear.pure _).grow) fun _=>(Clear.pure _).grow
    ·exact(Clear.halt _).grow
   have hj2:∀u,Grow (jp2 u):=by
    intro u;dsimp only[jp2];split
    ·exact Grow.bind (Clear.pure _).grow hj
    ·exact Grow.bind (Clear.zeroValue _).grow fun _=>Grow.bind (Clear.pure _).grow hj
   split
   ·exact Grow.bind (Clear.halt _).grow hj2
   ·exact hj2 ()
  ·exact(Clear.halt _).grow
def nC:Op→Bool
 | .move _| .assign _| .pick .. | .build .. | .load .. | .binOp .. | .unOp .. | .convert .. | .slice .. | .fieldAddr .. | .field .. | .indexAddr .. | .index .. | .extract .. | .makeFunc .. =>true
 | .call {callee:= .builtin b,..}=>match b with| .len| .cap| .min| .max=>true|_=>false
 | .nilCheck _=>true
 |_=>false
def Val(s:Sem Next):Prop:=∀(P:Program) w n w',s.run P w= .ok n w'→∃v,n= .value v
theorem Val.pure(u:Value):Val (Pure.pure (.value u)):=fun P w n w' h=>by
 simp at h;exact⟨u,h.1.symm⟩
theorem Val.halt(x:Halt):Val (Sem.halt x):=fun P w n w' h=>by simp[Sem.run]at h
theorem Val.bind{α:Type}{e:Sem α}{f:α→Sem Next}(hf:∀a,Val (f a)):Val (e>>=f):=fun P w n w' h=>by
 rw[Sem.run_bind]at h;cases hr:e.run P w with
 |halt x w1=>rw[hr]at h;simp[Result.andThen]at h
 |ok a w1=>
  rw[hr]at h;exact hf a P _ _ _ h
theorem Val.panic(x:RuntimeError):Val (runtimePanic x):=by
 unfold runtimePanic;refine Val.bind fun p=> ?_;cases x<;>first|exact Val.halt _|exact Val.bind fun _=>Val.bind fun _=>Val.halt _
theorem jS{P:Program}{ρ:Operand→Value}{o:Oper}(h:nC o.op=true){w w':World}{n:Next}(hr:(execOp ρ o).run P w= .ok n w'):∃v,n= .value v:=by
 suffices hv:Val (execOp ρ o) from hv P w n w' hr
 clear hr;unfold execOp;cases ho:o.op<;>rw[ho]at h<;>simp[nC]at h;case call c=>
  obtain⟨callee,args,ats⟩:=c;cases callee with
  |value f=>simp at h
  |invoke r m=>simp at h
  |builtin b=>
   intro P w n w' hr;rw[Sem.run_bind]at hr;simp only[resolve,Sem.run_pure,Result.andThen_ok,invoke,builtin]at hr;cases b<;>simp at h<;>exact(Val.bind fun _=>Val.pure _) P _ _ _ hr
 case nilCheck x=>
  dsimp only;split
  ·exact Val.panic _
  ·exact Val.panic _
  ·exact Val.panic _
  ·split
   ·exact Val.panic _
   ·refine Val.bind fun p=>Val.bind fun b=> ?_
    extract_lets
    split
    ·exact Val.bind fun _=>Val.pure _
    ·exact Val.pure _
   ·exact Val.pure _
  ·exact Val.pure _
 all_goals first
  |exact Val.pure _
  |exact Val.bind fun _=>Val.pure _
section
variable{P:Program}{ops:Array Oper}{Q:Exit→Act→World→Prop}{md:Region.Mode}
def bF(md:Region.Mode)(ops:Array Oper):Nat→Nat→Nat→Bool
 |0,_,_=>false
 |f+1,j,i=>match ops[j]? with
  |some oj=>oj.after.any fun e=>Region.binds md e&&(e.on==i||bF md ops f e.on i)
  |none=>false
def Closed(md:Region.Mode)(ops:Array Oper)(listed:Array Bool):Prop:=
 ∀(j:Nat) oj,ops[j]?=some oj→listed.getD j false=true→∀e∈oj.after,Region.binds md e=true→listed.getD e.on false=true
theorem Closed.start(md:Region.Mode)(ops:Array Oper)(n:Nat):Closed md ops (Array.replicate n false):=fun j oj _ h=>by
 rw[getD_replicate_false]at h;cases h
theorem Closed.aH{listed:Array Bool}{i:Nat}(h:Closed md ops listed)(hi:i∈Region.ready md ops listed):Closed md ops (listed.setIfInBounds i true):=by
 obtain⟨_,oi,hoi,hall⟩:=mem_ready.1 hi;intro j oj hj hl e he hb;by_cases hij:i=j
 ·subst hij;have:oj=oi:=Option.some.inj (hj.symm.trans hoi);subst this;exact getD_set_true (hall e he hb)
 ·rw[getD_set_ne false hij]at hl;exact getD_set_true (h j oj hj hl e he hb)
theorem Closed.waits{listed:Array Bool}(h:Closed md ops listed):∀(f j i:Nat),bF md ops f j i=true→listed.getD j false=true→listed.getD i false=true
 |0,_,_,hw,_=>by cases hw
 |f+1,j,i,hw,hl=>by
  unfold bF at hw;split at hw
  ·rename_i oj hoj;obtain⟨e,he,hb⟩:=Array.any_eq_true'.1 hw;simp only[Bool.and_eq_true,Bool.or_eq_true,beq_iff_eq]at hb;have h1:=h j oj hoj hl e he hb.1;rcases hb.2 with h2|h2
   ·rw[←h2];exact h1
   ·exact Closed.waits h f _ _ h2 h1
  ·cases hw
theorem Closed.ready{listed:Array Bool}(h:Closed md ops listed){f j i:Nat}(hw:bF md ops f j i=true)(hj:j∈Region.ready md ops listed):listed.getD i false=true:=by
 obtain⟨_,oj,hoj,hall⟩:=mem_ready.1 hj;cases f with
 |zero=>cases hw
 |succ f=>
  unfold bF at hw;rw[hoj]at hw;obtain⟨e,he,hb⟩:=Array.any_eq_true'.1 hw;simp only[Bool.and_eq_true,Bool.or_eq_true,beq_iff_eq]at hb;have h1:=hall e he hb.1;rcases hb.2 with h2|h2
  ·rw[←h2];exact h1
  ·exact h.waits f _ _ h2 h1
def pV(P:Program)(md:Region.Mode)(ops:Array Oper)(Q:Exit→Act→World→Prop)(cls:Nat→Nat):Nat→Array Bool→Act→World→Prop
 |0,listed,a,w=>Region.ready md ops listed=[]∧Q .normal a w
 |fuel+1,listed,a,w=>
  (Region.ready md ops listed=[]→Q .normal a w)∧
  ∀i∈Region.ready md ops listed,wpOp P ops Q i (fun a' w'=>((cls i=0→w'=w)∧(cls i=1→Ext w w'))∧pV P md ops Q cls fuel (listed.setIfInBounds i true) a' w') a w
theorem rZ{cls:Nat→Nat}:∀(fuel:Nat) (listed:Array Bool) (a:Act) (w:World),pV P md ops Q cls fuel listed a w→wpAny P md ops Q fuel listed a w
 |0,_,_,_,h=>h
 |fuel+1,_,_,_,h=>⟨h.1,fun i hi=>wpOp_mono (fun a' w' h'=>rZ fuel _ a' w' h'.2) (h.2 i hi)⟩
theorem eB {cls:Nat→Nat} {S:World→Prop} {i:Nat} {oi:Oper} {v:Value} (hi:ops[i]?=some oi) (hsel:∀(j:Nat) (o:Oper) cs b,ops[j]?=some o→o.op≠ .select cs b)
 (hQ:∀c a w,Q (.panic c) (a.put oi.dst v) w→Q (.panic c) a w)
 (hkeep:∀(listed:Array Bool) (j:Nat),Closed md ops listed→j∈Region.ready md ops listed→listed.getD i false=false→∀w w',S w→(cls j=0→w'=w)∧(cls j=1→Ext w w')→S w'):
 ∀(fuel:Nat) (listed:Array Bool) (a:Act) (w:World),Closed md ops listed→
  (∀j oj,ops[j]?=some oj→j≠i→listed.getD j true=false→(∀e∈oj.after,Region.binds md e=true→e.on≠i)→oi.apart ops oj=true)→
  i∈Region.ready md ops listed→YieldsIf P ops S oi v a→S w→
  pV P md ops Q cls fuel (listed.setIfInBounds i true) (a.put oi.dst v) w→pV P md ops Q cls (fuel+1) listed a w:=by
 intro fuel
 induction fuel with
 |zero=>
  intro listed a w _ _ hr hy hS H;refine⟨fun h=>(by rw[h]at hr;cases hr),fun j hj=> ?_⟩;by_cases hji:j=i
  ·subst hji;exact hy.wpOp hi hS ⟨⟨fun _=>rfl,fun _=>Ext.refl _⟩,H⟩
  ·have:=ready_mono hj hji;rw[H.1]at this;cases this
 |succ fuel ih=>
  intro listed a w hcl hfree hr hy hS H;refine⟨fun h=>(by rw[h]at hr;cases hr),fun j hj=> ?_⟩;by_cases hji:j=i
  ·subst hji;exact hy.wpOp hi hS ⟨⟨fun _=>rfl,fun _=>Ext.refl _⟩,H⟩
  ·have h1:=H.2 j (ready_mono hj hji);obtain⟨hjun,oj,hoj,hall⟩:=mem_ready.1 hj;have TQ:listed.getD i false=false:=getD_both (mem_ready.1 hr).1;have hnot:∀e∈oj.after,Region.binds md e=true→e.on≠i:=fun e he hb heq=>by
    have h1:=hall e he hb;rw[heq,TQ]at h1;cases h1
   have h2:=wpOp_putIf hoj (hfree j oj hoj hji hjun hnot) (fun cs b=>hsel i oi cs b hi) (fun cs b=>hsel j oj cs b hoj) hQ hy h1;have hfree':∀k ok,ops[k]?=some ok→k≠i→(listed.setIfInBounds j true).getD k true=false→
    (∀e∈ok.after,Region.binds md e=true→e.on≠i)→oi.apart ops ok=true:=fun k ok hk hki hun hno=>by
    refine hfree k ok hk hki ?_ hno;by_cases hjk:j=k
    ·subst hjk;exact hjun
    ·rw[getD_set_ne true hjk]at hun;exact hun
   refine wpOp_mono (fun a' w' h3=> ?_) h2;obtain⟨hy',hc,hP⟩:=h3;refine⟨hc,ih (listed.setIfInBounds j true) a' w' (hcl.aH hj) hfree' (ready_mono hr (Ne.symm hji)) hy' (hkeep listed j hcl hj TQ w w' hS hc) ?_⟩;rw[Array.setIfInBounds_comm _ _ hji];exact hP
def bY{α:Type}(e:Sem α):Prop:=∀(P:Program) w es,noRoomEvent∈(e.runT P w es).2→noRoomEvent∈es
theorem bY.pure{α:Type}(a:α):bY (Pure.pure a:Sem α):=fun P w es h=>by
 have:(Pure.pure a:Sem α)=Sem.pure a:=rfl;rw[this]at h;simpa only[Sem.runT]using h
theorem bY.halt{α:Type}(x:Halt):bY (Sem.halt x:Sem α):=fun P w es h=>by simpa only[Sem.runT]using h
theorem bY.program:bY Go.program:=fun P w es h=>by
 unfold Go.program at h;simpa only[Sem.runT]using h
theorem bY.bind{α β:Type}{e:Sem α}{f:α→Sem β}(he:bY e)(hf:∀a,bY (f a)):bY (e>>=f):=fun P w es h=>by
 have:(e>>=f)=e.bind f:=rfl;rw[this,Sem.runT_bind']at h;have h1:=he P w es;generalize e.runT P w es=r at h h1;obtain⟨r,es'⟩:=r;cases r with
 |ok a w'=>exact h1 (hf a P w' es' h)
 |halt x w'=>exact h1 h
theorem bY.underlying(t:TypeId):bY (Go.underlying t):=bY.bind bY.program fun p=>by
 split
 ·exact bY.pure _
 ·exact bY.halt _
def nE:Op→Bool
 | .move _| .assign _| .pick .. | .extract .. =>true
 |_=>false
theorem yQ{P:Program}{o:Op}(h:nE o=true):worldless P o=true:=by
 cases o<;>simp_all [nE,worldless]
theorem GK{o:Op}(h:nE o=true):nC o=true:=by
 cases o<;>simp_all [nE,nC]
theorem KD{P:Program}{ρ:Operand→Value}{o:Oper}(h:nE o.op=true):(∀w x w',(execOp ρ o).run P w≠ .halt (.panic x) w')∧∀w,noRoomEvent∉((execOp ρ o).runT P w #[]).2:=by
 have no:∀{e:Sem Next},bY e→∀w,noRoomEvent∉(e.runT P w #[]).2:=fun h w hh=>(by have:=h P w #[] hh;simp at this);cases ho:o.op<;>rw[ho]at h<;>simp[nE]at h;case move x=>
  have e:execOp ρ o=Pure.pure (.value (ρ x)):=(by unfold execOp;rw[ho]);rw[e];exact⟨fun w x w'=>by simp,no (bY.pure _)⟩
 case assign x=>
  have e:execOp ρ o=Pure.pure (.value (ρ x)):=(by unfold execOp;rw[ho]);rw[e];exact⟨fun w x w'=>by simp,no (bY.pure _)⟩
 case pick c a b=>
  have e:execOp ρ o=(do Pure.pure (.value (if←asBool (ρ c)then ρ a else ρ b))):=(by unfold execOp;rw[ho]);rw[e];have hb:bY (asBool (ρ c)):=by
   unfold asBool;split
   ·exact bY.pure _
   ·exact bY.halt _
  refine⟨fun w x w'=> ?_,no (bY.bind hb fun _=>bY.pure _)⟩;rw[Sem.run_bind];unfold asBool;split<;>simp[stuck,Result.andThen]
 case extract t i=>
  have e:execOp ρ o=(do Pure.pure (.value (←Instr.extract (ρ t) i))):=(by unfold execOp;rw[ho]);rw[e];have hb:bY (Instr.extract (ρ t) i):=by
   unfold Instr.extract;split
   ·split
    ·exact bY.pure _
    ·exact bY.halt _
   ·exact bY.halt _
  refine⟨fun w x w'=> ?_,no (bY.bind hb fun _=>bY.pure _)⟩;rw[Sem.run_bind];unfold Instr.extract;split
  ·split<;>simp[stuck,Result.andThen]
  ·simp[stuck,Result.andThen]
theorem pW{t:Nat}{o:Oper}{a:Act}{w:World}{K:Act→World→Prop}(ho:ops[t]?=some o)(hc:nE o.op=true)(h:wpOp P ops Q t K a w):
 ∃v,YieldsIf P ops (fun _=>True) o v a∧K (a.put o.dst v) w:=by
 unfold wpOp at h;rw[ho]at h;dsimp only at h;by_cases hw:Region.wanted o (yielded ops a.tmps)=true
 ·rw[if_pos hw]at h;obtain⟨hp,hm⟩:=KD (P:=P) (ρ:=a.eval) hc;rcases h with h|⟨⟨h,_⟩,_⟩
  ·unfold Oper.wp at h;generalize hr:(execOp a.eval o).run P w=r at h;cases r with
   |halt x w'=>cases x<;>simp only[Oper.upon]at h;exact absurd hr (hp w _ w')
   |ok n w'=>
    obtain⟨v,rfl⟩:=jS (GK hc) hr;have hall:=kJ (yQ (P:=P) hc) hr;have hww:w'=w:=(by have:=(hall w).symm.trans hr;injection this with _ e;exact e.symm);subst hww;exact⟨v,.inl ⟨hw,fun u _=>hall u⟩,h⟩
  ·exact absurd h (hm w)
 ·rw[if_neg hw]at h;exact⟨undef,.inr ⟨by simpa using hw,rfl⟩,h⟩
theorem yR{t:Nat}{o:Oper}{a:Act}{w:World}{K:Act→World→Prop}(ho:ops[t]?=some o)(hc:iw o.op=true)(h:wpOp P ops Q t K a w):wpOp P ops Q t (fun a' w'=>Ext w w'∧K a' w') a w:=by
 unfold wpOp at*;rw[ho]at h⊢;dsimp only at*;by_cases hw:Region.wanted o (yielded ops a.tmps)=true
 ·rw[if_pos hw]at h⊢;refine h.imp (fun h=> ?_) id;unfold Oper.wp at*;generalize hr:(execOp a.eval o).run P w=r at*;cases r with
  |halt x w'=>cases x<;>simp only[Oper.upon]at h⊢<;>exact h
  |ok n w'=>
   obtain⟨he,v,rfl⟩:=Dk hc hr;exact⟨he,h⟩
 ·rw[if_neg hw]at h⊢;exact⟨Ext.refl _,h⟩
def gV(ops:Array Oper)(ts:List Nat)(j:Nat):Nat:=
 if ts.contains j then(match ops[j]? with|some o=>if iw o.op then 1 else 2|none=>2)else 0
def Er(md:Region.Mode)(ops:Array Oper):List Nat→Array Bool→Bool
 |[],listed=>(Region.ready md ops listed).isEmpty
 |t::ts,listed=>(Region.ready md ops listed==[t]||
  ((Region.ready md ops listed).contains t&&Region.free md ops listed t&&(match ops[t]? with|some o=>nE o.op|none=>false)))&&Er md ops ts (listed.setIfInBounds t true)
theorem pX{us:List Nat}(hQ:∀c a (d:Option Tmp) v w,Q (.panic c) (a.put d v) w→Q (.panic c) a w)(hs:Region.noSelect ops=true):∀(ts:List Nat) (listed:Array Bool) (a:Act) (w:World),Closed md ops listed→(∀t∈ts,us.contains t=true)→Er md ops ts listed=true→
 wpOps P ops Q ts a w→pV P md ops Q (gV ops us) ts.length listed a w
 |[],_,_,_,_,_,hB,h=>⟨by simpa[Er]using hB,h⟩
 |t::ts,listed,a,w,hcl,hf,hB,h=>by
  simp only[Er,Bool.and_eq_true,Bool.or_eq_true,beq_iff_eq]at hB;rw[wpOps_cons]at h;have hc0:gV ops us t≠0:=by
   unfold gV;rw[if_pos (hf t (by simp))];split
   ·split<;>simp
   ·simp
  have h1:wpOp P ops Q t (fun a' w'=>(gV ops us t=1→Ext w w')∧wpOps P ops Q ts a' w') a w:=by
   cases ho:ops[t]? with
   |none=>unfold wpOp at*;rw[ho]at h⊢;exact⟨fun _=>Ext.refl _,h⟩
   |some o=>
    by_cases hal:iw o.op=true
    ·exact wpOp_mono (fun a' w' h=>⟨fun _=>h.1,h.2⟩) (yR ho hal h)
    ·refine wpOp_mono (fun a' w' h=>⟨fun h1=> ?_,h⟩) h;unfold gV at h1;rw[if_pos (hf t (by simp)),ho]at h1;simp[hal]at h1
  rcases hB.1 with hB1|⟨⟨hr,hfr⟩,hc⟩
  ·refine⟨fun h0=>(by rw[hB1]at h0;cases h0),fun i hi=> ?_⟩;have hi':=hi;rw[hB1]at hi;have:i=t:=(by simpa using hi);subst this;exact wpOp_mono (fun a' w' h'=>⟨⟨fun h0=>absurd h0 hc0,h'.1⟩,pX hQ hs ts _ a' w' (hcl.aH hi') (fun t ht=>hf t (by simp[ht])) hB.2 h'.2⟩) h1
  ·have hr':t∈Region.ready md ops listed:=(by simpa using hr);cases ho:ops[t]? with
   |none=>rw[ho]at hc;cases hc
   |some o=>
    rw[ho]at hc;obtain⟨v,hy,hK⟩:=pW ho hc h;exact eB (S:=fun _=>True) ho (Region.noSelect_spec hs) (fun c a w=>hQ c a _ _ w) (fun _ _ _ _ _ _ _ _ _=>trivial) _ listed a w hcl (Region.free_spec ho hfr) hr' hy trivial
     (pX hQ hs ts _ _ w (hcl.aH hr') (fun t ht=>hf t (by simp[ht])) hB.2 hK)
def l8:Op→Bool
 | .load .. =>true
 |_=>false
def Dl(P:Program)(md:Region.Mode)(ops:Array Oper)(ts:List Nat):List Nat→Array Bool→Bool
 |[],listed=>Er md ops ts listed
 |i::es,listed=>(Region.ready md ops listed).contains i&&Region.free md ops listed i&& !ts.contains i&&
  (match ops[i]? with
   |some o=>nC o.op&&(worldless P o.op||(ts.all fun j=>bF md ops ops.size j i||(l8 o.op&&(match ops[j]? with|some oj=>iw oj.op|none=>false))))
   |none=>false)&&
  Dl P md ops ts es (listed.setIfInBounds i true)
theorem lS {o:Oper} {a:Act} {K:Act→Prop} {w:World} (hv:nC o.op=true)
 (h:if Region.wanted o (yielded ops a.tmps)then o.still P a w K else K (a.put o.dst undef)):
 ∃v,YieldsIf P ops (fun u=>u=w) o v a∧(worldless P o.op=true→YieldsIf P ops (fun _=>True) o v a)∧(l8 o.op=true→YieldsIf P ops (fun u=>Ext w u) o v a)∧K (a.put o.dst v):=by
 by_cases hw:Region.wanted o (yielded ops a.tmps)=true
 ·rw[if_pos hw]at h;unfold Oper.still at h;generalize hr:(execOp a.eval o).run P w=r at h;cases r with
  |halt x w'=>simp only[Oper.stillUpon]at h
  |ok n w'=>
   obtain⟨v,rfl⟩:=jS hv hr;simp only[Oper.stillUpon]at h;obtain⟨rfl,hK⟩:=h;refine⟨v,.inl ⟨hw,fun u hu=>by rw[hu];exact hr⟩,fun hl=> .inl ⟨hw,fun u _=>kJ hl hr u⟩,fun hl=> .inl ⟨hw,fun u hu=> ?_⟩,hK⟩;cases ho:o.op<;>rw[ho]at hl<;>simp[l8]at hl;case load t x=>
    have e:execOp a.eval o=(do Pure.pure (.value (←Instr.loadAt t (a.eval x)))):=(by unfold execOp;rw[ho]);rw[e]at hr⊢;exact(Stb.bind (Stb.loadAt _ _) (fun _=>(Clear.pure _).stb) P _ _ _ hr).2 u hu
 ·rw[if_neg hw]at h;exact⟨undef,.inr ⟨by simpa using hw,rfl⟩,fun _=> .inr ⟨by simpa using hw,rfl⟩,fun _=> .inr ⟨by simpa using hw,rfl⟩,h⟩
theorem tK{w:World}(hQ:∀c a (d:Option Tmp) v w,Q (.panic c) (a.put d v) w→Q (.panic c) a w)(hs:Region.noSelect ops=true)(ts:List Nat):∀(es:List Nat) (listed:Array Bool) (a:Act),Closed md ops listed→
 Dl P md ops ts es listed=true→wpStill P ops w (fun a'=>wpOps P ops Q ts a' w) (es.filterMap (ops[·]?)) a→pV P md ops Q (gV ops ts) (es.length+ts.length) listed a w
 |[],listed,a,hcl,hB,h=>by
  simp only[List.length_nil,Nat.zero_add];exact pX hQ hs ts listed a w hcl (fun t ht=>by simpa using ht) hB h
 |i::es,listed,a,hcl,hB,h=>by
  simp only[Dl,Bool.and_eq_true]at hB;obtain⟨⟨⟨⟨hr,hf⟩,hnt⟩,hk⟩,hrest⟩:=hB;have hr':i∈Region.ready md ops listed:=(by simpa using hr);cases ho:ops[i]? with
  |none=>rw[ho]at hk;cases hk
  |some o=>
   rw[ho]at hk;simp only[Bool.and_eq_true,Bool.or_eq_true]at hk;rw[List.filterMap_cons_some ho]at h;obtain⟨v,hy,hy0,hyl,hK⟩:=lS (K:=wpStill P ops w (fun a'=>wpOps P ops Q ts a' w) (es.filterMap (ops[·]?))) hk.1 h;have IH:=tK hQ hs ts es (listed.setIfInBounds i true) _ (hcl.aH hr') hrest hK;rw[List.length_cons,show es.length+1+ts.length=(es.length+ts.length)+1 by omega];rcases hk.2 with hl|hl
   ·exact eB (S:=fun _=>True) ho (Region.noSelect_spec hs) (fun c a w=>hQ c a _ _ w) (fun _ _ _ _ _ _ _ _ _=>trivial) _ listed a w hcl (Region.free_spec ho hf) hr' (hy0 hl) trivial IH
   ·by_cases hld:l8 o.op=true
    ·refine eB (S:=fun u=>Ext w u) ho (Region.noSelect_spec hs) (fun c a w=>hQ c a _ _ w) (fun listed' j hcl' hj hun u u' hu hc=> ?_) _ listed a w hcl (Region.free_spec ho hf) hr' (hyl hld) (Ext.refl _) IH;cases hfj:ts.contains j with
     |false=>
      have:gV ops ts j=0:=(by unfold gV;rw[if_neg (by rw[hfj];simp)]);rw[hc.1 this];exact hu
     |true=>
      have hwj:=List.all_eq_true.1 hl j (by simpa using hfj);simp only[Bool.or_eq_true,Bool.and_eq_true]at hwj;rcases hwj with hwj|⟨_,hwj⟩
      ·rw[hcl'.ready hwj hj]at hun;cases hun
      ·cases hoj:ops[j]? with
       |none=>rw[hoj]at hwj;cases hwj
       |some oj=>
        rw[hoj]at hwj;have:gV ops ts j=1:=(by unfold gV;rw[if_pos hfj,hoj];simp[hwj]);exact hu.trans (hc.2 this)
    ·refine eB (S:=fun u=>u=w) ho (Region.noSelect_spec hs) (fun c a w=>hQ c a _ _ w) (fun listed' j hcl' hj hun u u' hu hc=> ?_) _ listed a w hcl (Region.free_spec ho hf) hr' hy rfl IH;cases hfj:ts.contains j with
     |false=>
      have:gV ops ts j=0:=(by unfold gV;rw[if_neg (by rw[hfj];simp)]);rw[hc.1 this];exact hu
     |true=>
      have hwj:=List.all_eq_true.1 hl j (by simpa using hfj);simp only[Bool.or_eq_true,Bool.and_eq_true]at hwj;rcases hwj with hwj|⟨h2,_⟩
      ·rw[hcl'.ready hwj hj]at hun;cases hun
      ·exact absurd h2 hld
def Rf(P:Program)(ops:Array Oper)(es ts:List Nat):Bool:=
 Region.noSelect ops&&(es.length+ts.length==ops.size)&&Dl P .any ops ts es (Array.replicate ops.size false)
theorem AP(ts:List Nat):∀(a:Act) (w:World),wpList P ops Q (ts.filterMap (ops[·]?)) a w→wpOps P ops Q ts a w:=by
 induction ts with
 |nil=>intro a w h;exact h
 |cons t ts ih=>
  intro a w h;rw[wpOps_cons];unfold wpOp;cases ho:ops[t]? with
  |none=>
   rw[List.filterMap_cons_none ho]at h;exact ih a w h
  |some o=>
   rw[List.filterMap_cons_some ho]at h;unfold wpList at h;dsimp only;split at h
   ·rename_i hw;rw[if_pos hw];exact h.imp (Oper.wp_mono fun a w=>ih a w) id
   ·rename_i hw;rw[if_neg hw];exact ih _ _ h
theorem nG{w:World}{K K':Act→Prop}(hk:∀a,K a→K' a):∀(os:List Oper) (a:Act),wpStill P ops w K os a→wpStill P ops w K' os a
 |[],a,h=>hk a h
 |o::os,a,h=>by
  unfold wpStill at h⊢;by_cases hw:Region.wanted o (yielded ops a.tmps)=true
  ·rw[if_pos hw]at h⊢;exact Oper.still_mono (fun a h=>nG hk os a h) h
  ·rw[if_neg hw]at h⊢;exact nG hk os _ h
theorem bn {id:Nat} {a:Act} {w:World} {l:List Oper} (es ts:List Nat) (hm:P.follows .mixedOrders=true) (hB:Rf P l.toArray es ts=true)
 (hQ:∀c a (d:Option Tmp) v w,Q (.panic c) (a.put d v) w→Q (.panic c) a w)
 (h:wpStill P l.toArray w.drew (fun a'=>wpList P l.toArray Q (ts.filterMap (l[·]?)) a' w.drew) (es.filterMap (l[·]?)) a):(Code.region id l.toArray true).wp P Q a w:=by
 simp only[Rf,Bool.and_eq_true,beq_iff_eq]at hB;obtain⟨⟨hs,hn⟩,hE⟩:=hB;refine wp_region_any hm (rZ (cls:=gV l.toArray ts) _ _ _ _ ?_);rw[←hn];refine tK (w:=w.drew) hQ hs ts es _ a (Closed.start _ _ _) (by rw[hn];exact hE) ?_;have e1:(fun(i:Nat)=>l.toArray[i]?)=fun(i:Nat)=>l[i]?:=(by funext i;simp);rw[e1];refine nG (fun a' h=>AP ts a' _ ?_) _ _ h;rw[e1];exact h
end
section
variable{P:Program}{ops:Array Oper}{Q:Exit→Act→World→Prop}
def iN(ops:Array Oper)(o:Oper):List Nat:=
 (o.op.operands.toList.filterMap fun| .tmp t=>some t|_=>none)++(match o.guard with|some (j,_)=>((ops[j]?).bind (·.dst)).toList|none=>[])
def fM(ops:Array Oper):Bool:=
 Region.noSelect ops&&(List.range ops.size).all fun i=>match ops[i]? with
  |none=>true
  |some o=>(o.after.all fun e=> !Region.binds .any e||decide (e.on<i))&&
   (List.range ops.size).all fun j=>match ops[j]? with
    |none=>true
    |some oj=>match oj.dst with
     |none=>true
     |some t=>(i==j||o.dst !=some t)&&(!(iN ops o).contains t||(decide (j<i)&&bF .any ops ops.size i j)||(decide (i<j)&&bF .any ops ops.size j i)||i==j)
theorem nI(h:fM ops=true){i:Nat}{o:Oper}(ho:ops[i]?=some o):∀e∈o.after,Region.binds .any e=true→e.on<i:=by
 intro e he hb;unfold fM at h;rw[Bool.and_eq_true,List.all_eq_true]at h;have h1:=h.2 i (List.mem_range.2 (Array.getElem?_eq_some_iff.1 ho).1);rw[ho]at h1;dsimp only at h1;rw[Bool.and_eq_true]at h1;have h2:=Array.all_eq_true_iff_forall_mem.1 h1.1 e he;rw[hb]at h2;simpa using h2
theorem lT(h:fM ops=true){i j:Nat}{o oj:Oper}(ho:ops[i]?=some o)(hj:ops[j]?=some oj){t:Nat}(ht:oj.dst=some t):
 (i=j∨o.dst≠some t)∧(t∈iN ops o→(j<i∧bF .any ops ops.size i j=true)∨(i<j∧bF .any ops ops.size j i=true)∨i=j):=by
 unfold fM at h;rw[Bool.and_eq_true,List.all_eq_true]at h;have h1:=h.2 i (List.mem_range.2 (Array.getElem?_eq_some_iff.1 ho).1);rw[ho]at h1;dsimp only at h1;rw[Bool.and_eq_true,List.all_eq_true]at h1;have h2:=h1.2 j (List.mem_range.2 (Array.getElem?_eq_some_iff.1 hj).1);rw[hj]at h2;dsimp only at h2;rw[ht]at h2;dsimp only at h2;rw[Bool.and_eq_true]at h2;refine⟨?_,fun hm=> ?_⟩
 ·have:=h2.1;rw[Bool.or_eq_true,beq_iff_eq,bne_iff_ne]at this;exact this
 ·have h3:=h2.2;have hc:(iN ops o).contains t=true:=(by simpa using hm);rw[hc]at h3;simp only[Bool.not_true,Bool.false_or,Bool.or_eq_true,Bool.and_eq_true,decide_eq_true_eq,beq_iff_eq]at h3;rcases h3 with(h3|h3)|h3
  ·exact .inl h3
  ·exact .inr (.inl h3)
  ·exact .inr (.inr h3)
structure Flo(ops:Array Oper)(a0:Act)(vs:Nat→Value)(L:Nat→Bool)(a:Act):Prop where
 defers:a.defers=a0.defers
 size:a.tmps.size=a0.tmps.size
 hit:∀j o t,ops[j]?=some o→o.dst=some t→L j=true→t<a0.tmps.size→a.tmps[t]?=some (vs j)
 miss:∀t,(∀j o,ops[j]?=some o→o.dst=some t→L j=false)→a.tmps[t]?=a0.tmps[t]?
variable{a0 a b:Act}{vs:Nat→Value}{L L':Nat→Bool}
theorem Flo.start(h:∀j,L j=false):Flo ops a0 vs L a0:=⟨rfl,rfl,(fun j _ _ _ _ hl=>absurd hl (by rw[h j];simp)),fun _ _=>rfl⟩
theorem Nt(a:Act)(d:Option Tmp)(v:Value):(a.put d v).tmps.size=a.tmps.size:=by
 cases d<;>simp[Act.put]
theorem put_defers(a:Act)(d:Option Tmp)(v:Value):(a.put d v).defers=a.defers:=by
 cases d<;>simp[Act.put]
theorem Nu{d:Option Tmp}{t:Nat}(h:d≠some t)(a:Act)(v:Value):(a.put d v).tmps[t]?=a.tmps[t]?:=by
 cases d with
 |none=>rfl
 |some d=>
  have:d≠t:=fun e=>h (by rw[e]);simp[Act.put,Array.getElem?_setIfInBounds_ne this]
theorem put_eq{t:Nat}(a:Act)(v:Value)(h:t<a.tmps.size):(a.put (some t) v).tmps[t]?=some v:=by
 simp[Act.put,h]
theorem Flo.put(hB:fM ops=true){i:Nat}{o:Oper}(ho:ops[i]?=some o)(h:Flo ops a0 vs L a)(hL:∀j,L' j=(L j||decide (j=i))):Flo ops a0 vs L' (a.put o.dst (vs i)):=by
 refine⟨by rw[put_defers,h.defers],by rw[Nt,h.size],fun j oj t hj ht hl hs=> ?_,fun t ht=> ?_⟩
 ·by_cases hji:j=i
  ·subst hji;have:oj=o:=Option.some.inj (hj.symm.trans ho);subst this;rw[ht,put_eq _ _ (by rw[h.size];exact hs)]
  ·have h1:L j=true:=(by rw[hL]at hl;simpa[hji]using hl);have hne:o.dst≠some t:=by
    rcases(lT hB ho hj ht).1 with e|e
    ·exact absurd e.symm hji
    ·exact e
   rw[Nu hne];exact h.hit j oj t hj ht h1 hs
 ·have hne:o.dst≠some t:=fun e=>by
   have:=ht i o ho e;rw[hL]at this;simp at this
  rw[Nu hne];refine h.miss t fun j oj hj hd=> ?_;have:=ht j oj hj hd;rw[hL]at this;rw[Bool.or_eq_false_iff]at this;exact this.1
theorem Flo.agree(h:Flo ops a0 vs L a)(h':Flo ops a0 vs L' b){t:Nat}(ht:∀j o,ops[j]?=some o→o.dst=some t→L j=L' j):a.tmps[t]?=b.tmps[t]?:=by
 by_cases hs:t<a0.tmps.size
 ·by_cases hx:∃j o,ops[j]?=some o∧o.dst=some t∧L j=true
  ·obtain⟨j,o,hj,hd,hl⟩:=hx;rw[h.hit j o t hj hd hl hs,h'.hit j o t hj hd (by rw[←ht j o hj hd];exact hl) hs]
  ·have hf:∀j o,ops[j]?=some o→o.dst=some t→L j=false:=fun j o hj hd=>by
    cases hl:L j with
    |false=>rfl
    |true=>exact absurd ⟨j,o,hj,hd,hl⟩ hx
   rw[h.miss t hf,h'.miss t fun j o hj hd=>by rw[←ht j o hj hd];exact hf j o hj hd]
 ·rw[Array.getElem?_eq_none (by rw[h.size];omega),Array.getElem?_eq_none (by rw[h'.size];omega)]
theorem yA{d:Option Tmp}{u v:Value}(hs:a.tmps.size=b.tmps.size)(h:b.put d u=b.put d v):a.put d u=a.put d v:=by
 cases d with
 |none=>rfl
 |some t=>
  rcases Nat.lt_or_ge t b.tmps.size with ht|ht
  ·have h1:=put_eq b u ht;rw[h,put_eq b v ht]at h1;injection h1 with h1
   rw[h1]
  ·have:∀x:Value,a.put (some t) x=a:=fun x=>by
    unfold Act.put;dsimp only;rw[Array.setIfInBounds_eq_of_size_le (show a.tmps.size≤t by rw[hs];exact ht)]
   rw[this,this]
theorem GL {S:World→Prop} {i:Nat} {o:Oper} {w:World} {v:Value} {K:Act→World→Prop} (ho:ops[i]?=some o) (hsel:∀cs b,o.op≠ .select cs b)
 (hr:∀t∈iN ops o,a.tmps[t]?=b.tmps[t]?) (hs:a.tmps.size=b.tmps.size) (hK:∀w',S w'→K (a.put o.dst v) w')
 (h:wpList P ops (fun e a' w'=>e= .normal∧a'=b.put o.dst v∧S w') [o] b w):wpOp P ops Q i K a w:=by
 have hw:Region.wanted o (yielded ops a.tmps)=Region.wanted o (yielded ops b.tmps):=by
  unfold Region.wanted;cases hg:o.guard with
  |none=>rfl
  |some g=>
   obtain⟨j,x⟩:=g;dsimp only;have:yielded ops a.tmps j=yielded ops b.tmps j:=by
    unfold yielded;cases hd:(ops[j]?).bind (·.dst)with
    |none=>rfl
    |some t=>
     have hm:t∈iN ops o:=by
      unfold iN;rw[hg];refine List.mem_append.2 (.inr ?_);show t∈((ops[j]?).bind (·.dst)).toList;rw[hd];simp
     simp only[Option.bind_some];rw[hr t hm]
   rw[this]
 have he:execOp a.eval o=execOp b.eval o:=by
  refine execOp_congr o hsel fun x hx=> ?_;cases x with
  |tmp t=>
   have hm:t∈iN ops o:=by
    unfold iN;refine List.mem_append.2 (.inl ?_);rw[List.mem_filterMap];exact⟨.tmp t,by simpa using hx,rfl⟩
   have:=hr t hm;simp only[Act.eval,Array.getD_eq_getD_getElem?,this]
  |_=>rfl
 unfold wpOp;rw[ho];dsimp only;unfold wpList at h;rw[hw];by_cases hwd:Region.wanted o (yielded ops b.tmps)=true
 ·rw[if_pos hwd]at h⊢;left;rcases h with h|⟨_,_,_,h,_⟩
  ·unfold Oper.wp at*;rw[he];generalize(execOp b.eval o).run P w=r at h;have key:∀u w',wpList P ops (fun e a' w'=>e= .normal∧a'=b.put o.dst v∧S w') [] (b.put o.dst u) w'→K (a.put o.dst u) w':=fun u w' h=>by
    unfold wpList at h;rw[yA hs h.2.1];exact hK w' h.2.2
   cases r with
   |halt x w'=>
    cases x<;>simp only[Oper.upon]at h⊢;exact absurd h.1 (by simp)
   |ok n w'=>
    cases n with
    |value u=>exact key u w' h
    |skip=>exact key undef w' h
    |defer d=>
     simp only[Oper.upon]at h;unfold wpList at h;have h1:=congrArg Act.defers h.2.1;rw[put_defers,put_defers]at h1;exact absurd (congrArg List.length h1) (by simp)
    |enter f args=>
     simp only[Oper.upon]at h⊢;refine Calls.mono h fun e w'' he=> ?_;cases e with
     |returned u=>exact key u w'' he
     |panicked c=>exact absurd he.1 (by simp)
     |outgrown=>
      obtain⟨_,_,h1,_⟩:=he;cases h1
    |row r args=>
     simp only[Oper.upon]at h⊢;exact Rows.mono h fun u w'' he=>key u w'' he
    |_=>simp only[Oper.upon]at h
  ·cases h
 ·rw[if_neg hwd]at h⊢;unfold wpList at h;rw[yA hs h.2.1];exact hK w h.2.2
def lacks:Nat→(Nat→Bool)→Nat
 |0,_=>0
 |n+1,f=>lacks n f+if f n then 0 else 1
theorem qK(f:Nat→Bool):∀n,lacks n f=0→∀i,i<n→f i=true
 |0,_,i,hi=>absurd hi (by omega)
 |n+1,h,i,hi=>by
  unfold lacks at h;by_cases hn:f n=true
  ·by_cases hin:i=n
   ·rw[hin];exact hn
   ·exact qK f n (by omega) i (by omega)
  ·rw[if_neg hn]at h;omega
theorem yS{f g:Nat→Bool}:∀n,(∀j,j<n→f j=g j)→lacks n f=lacks n g
 |0,_=>rfl
 |n+1,h=>by unfold lacks;rw[yS n (fun j hj=>h j (by omega)),h n (by omega)]
theorem qL{f g:Nat→Bool}{i:Nat}(hf:f i=false)(hg:∀j,g j=(f j||decide (j=i))):∀n,i<n→lacks n f=lacks n g+1
 |0,h=>absurd h (by omega)
 |n+1,h=>by
  unfold lacks;by_cases hin:i=n
  ·subst hin;have h1:lacks i f=lacks i g:=yS i fun j hj=>(by rw[hg j];simp;intro;omega);rw[h1,hf,hg i];simp
  ·have h1:=qL hf hg n (by omega);have h2:g n=f n:=(by rw[hg n];simp;intro;omega);rw[h1,h2];omega
theorem nJ:∀n,lacks n (fun _=>false)=n
 |0=>rfl
 |n+1=>by unfold lacks;rw[nJ n];rfl
theorem Es {S:World→Prop} (hB:fM ops=true) {ac:Nat→Act} (hac:∀i,Flo ops a0 vs (fun j=>decide (j<i)) (ac i))
 (hstep:∀i o,ops[i]?=some o→∀w,S w→wpList P ops (fun e a' w'=>e= .normal∧a'=(ac i).put o.dst (vs i)∧S w') [o] (ac i) w)
 (hend:∀w,S w→Q .normal (ac ops.size) w):
 ∀(fuel:Nat) (listed:Array Bool) (a:Act) (w:World),Closed .any ops listed→listed.size=ops.size→lacks ops.size (fun j=>listed.getD j false)=fuel→Flo ops a0 vs (fun j=>listed.getD j false) a→S w→wpAny P .any ops Q fuel listed a w:=by
 have hnone:∀(listed:Array Bool),listed.size=ops.size→Region.ready .any ops listed=[]→∀i,i<ops.size→listed.getD i false=true:=by
  intro listed hsz hr i
  induction i using Nat.strongRecOn with
  |_ i ih=>
   intro hi;cases hl:listed.getD i false with
   |true=>rfl
   |false=>
    exfalso;have ho:ops[i]?=some ops[i]:=Array.getElem?_eq_getElem hi;have hm:i∈Region.ready .any ops listed:=by
     rw[mem_ready];refine⟨?_,ops[i],ho,fun e he hb=> ?_⟩
     ·have hi2:i<listed.size:=(by omega);simp only[Array.getD_eq_getD_getElem?,Array.getElem?_eq_getElem hi2,Option.getD_some]at hl⊢;exact hl
     ·have h1:=nI hB ho e he hb;exact ih e.on h1 (by omega)
    rw[hr]at hm;cases hm
 have hfin:∀(listed:Array Bool) (a:Act) (w:World),(∀i,i<ops.size→listed.getD i false=true)→Flo ops a0 vs (fun j=>listed.getD j false) a→S w→Q .normal a w:=by
  intro listed a w hall hf hS;have:a=ac ops.size:=by
   have h1:a.tmps=(ac ops.size).tmps:=by
    refine Array.ext_getElem? fun t=> ?_;refine hf.agree (hac ops.size) fun j o hj _=> ?_;have hjs:=(Array.getElem?_eq_some_iff.1 hj).1;rw[hall j hjs];simp[hjs]
   have h2:a.defers=(ac ops.size).defers:=(by rw[hf.defers,(hac ops.size).defers]);cases a;cases hx:ac ops.size;rw[hx]at h1 h2;simp only at h1 h2;rw[h1,h2]
  rw[this];exact hend w hS
 intro fuel
 induction fuel with
 |zero=>
  intro listed a w hcl hsz hlk hf hS;have hall:=qK _ _ hlk;refine⟨?_,hfin listed a w hall hf hS⟩;rw[List.eq_nil_iff_forall_not_mem];intro i hi;obtain⟨h1,o,ho,_⟩:=mem_ready.1 hi;have his:=(Array.getElem?_eq_some_iff.1 ho).1;have h2:=hall i his;have hi2:i<listed.size:=(by omega);simp only[Array.getD_eq_getD_getElem?,Array.getElem?_eq_getElem hi2,Option.getD_some]at h1 h2;rw[h1]at h2;cases h2
 |succ fuel ih=>
  intro listed a w hcl hsz hlk hf hS;refine⟨fun hr=>hfin listed a w (hnone listed hsz hr) hf hS,fun i hi=> ?_⟩;obtain⟨h1,o,ho,hall⟩:=mem_ready.1 hi;have his:=(Array.getElem?_eq_some_iff.1 ho).1;have hi2:i<listed.size:=(by omega);have hun:listed.getD i false=false:=by
   simp only[Array.getD_eq_getD_getElem?,Array.getElem?_eq_getElem hi2,Option.getD_some]at h1⊢;exact h1
  have hset:∀j,(listed.setIfInBounds i true).getD j false=(listed.getD j false||decide (j=i)):=fun j=>by
   by_cases hji:j=i
   ·subst hji;simp[Array.getD_eq_getD_getElem?,hi2]
   ·rw[getD_set_ne false (Ne.symm hji)];simp[hji]
  have hsel:=fun cs b=>Region.noSelect_spec (ops:=ops) (by unfold fM at hB;rw[Bool.and_eq_true]at hB;exact hB.1) i o cs b ho;refine GL (S:=S) (b:=ac i) (v:=vs i) ho hsel (fun t ht=> ?_) (by rw[hf.size,(hac i).size]) (fun w' hS'=> ?_) (hstep i o ho w hS)
  ·refine hf.agree (hac i) fun j oj hj hd=> ?_;rcases(lT hB ho hj hd).2 ht with⟨h2,h3⟩|⟨h2,h3⟩|h2
   ·rw[hcl.ready h3 hi];simp[h2]
   ·have h4:decide (j<i)=false:=(by simp;omega);rw[h4];cases hlj:listed.getD j false with
    |false=>rfl
    |true=>
     have:=hcl.waits _ _ _ h3 hlj;rw[hun]at this;cases this
   ·subst h2;rw[hun];simp
  ·refine ih (listed.setIfInBounds i true) _ w' (hcl.aH hi) (by rw[Array.size_setIfInBounds];exact hsz) ?_ (hf.put hB ho hset) hS';have:=qL (f:=fun j=>listed.getD j false) (g:=fun j=>(listed.setIfInBounds i true).getD j false) hun hset ops.size his;omega
def Dm(P:Program)(ops:Array Oper)(S:World→Prop)(K:Act→Prop):List Oper→Act→Prop
 |[],a=>K a
 |o::os,a=>∃v,(∀w,S w→wpList P ops (fun e a' w'=>e= .normal∧a'=a.put o.dst v∧S w') [o] a w)∧Dm P ops S K os (a.put o.dst v)
theorem yT{S:World→Prop}{K:Act→Prop}:∀(os:List Oper) (a:Act),Dm P ops S K os a→∃(vs:Nat→Value) (ac:Nat→Act),ac 0=a∧
 (∀i o,os[i]?=some o→(∀w,S w→wpList P ops (fun e a' w'=>e= .normal∧a'=(ac i).put o.dst (vs i)∧S w') [o] (ac i) w)∧ac (i+1)=(ac i).put o.dst (vs i))∧(∀i,os.length≤i→ac i=ac os.length)∧K (ac os.length)
 |[],a,h=>⟨fun _=>undef,fun _=>a,rfl,fun i o h=>by simp at h,fun _ _=>rfl,h⟩
 |o::os,a,h=>by
  obtain⟨v,h1,h2⟩:=h;obtain⟨vs,ac,e0,hs,hl,hk⟩:=yT os _ h2;refine⟨fun i=>match i with|0=>v|i+1=>vs i,fun i=>match i with|0=>a|i+1=>ac i,rfl,fun i o' ho=> ?_,fun i hi=> ?_,hk⟩
  ·cases i with
   |zero=>
    simp only[gZ,Option.some.injEq]at ho;subst ho;exact⟨h1,e0⟩
   |succ i=>exact hs i o' (by simpa using ho)
  ·cases i with
   |zero=>simp at hi
   |succ i=>exact hl i (by simpa using hi)
theorem bT {id:Nat} {w:World} {l:List Oper} (S:World→Prop) (hm:P.follows .mixedOrders=true) (hB:fM l.toArray=true) (hS:S w.drew)
 (h:Dm P l.toArray S (fun a'=>∀w',S w'→Q .normal a' w') l a):(Code.region id l.toArray true).wp P Q a w:=by
 obtain⟨vs,ac,e0,hs,hl,hk⟩:=yT _ _ h;have hsz:l.toArray.size=l.length:=(by simp);have hget:∀i:Nat,l.toArray[i]?=l[i]?:=fun i=>List.getElem?_toArray ..;have hac:∀i,Flo l.toArray a vs (fun j=>decide (j<i)) (ac i):=by
  intro i
  induction i with
  |zero=>rw[e0];exact Flo.start fun j=>by simp
  |succ i ih=>
   cases hx:l[i]? with
   |none=>
    have hle:l.length≤i:=by
     rcases Nat.lt_or_ge i l.length with h1|h1
     ·rw[List.getElem?_eq_getElem h1]at hx;cases hx
     ·exact h1
    rw[hl (i+1) (by omega),←hl i hle];refine⟨ih.defers,ih.size,fun j o t hj hd hlt hs=>ih.hit j o t hj hd ?_ hs,fun t ht=>ih.miss t fun j o hj hd=> ?_⟩
    ·have:=(Array.getElem?_eq_some_iff.1 hj).1;simp at this⊢;omega
    ·have:=ht j o hj hd;simp at this⊢;omega
   |some o=>
    rw[(hs i o hx).2];refine ih.put hB (by rw[hget];exact hx) fun j=> ?_;rw[Bool.eq_iff_iff];simp;omega
 refine wp_region_any hm ?_;refine Es (S:=S) hB hac (fun i o ho=>(hs i o (by rw[←hget];exact ho)).1) (fun w hw=>by rw[hsz];exact hk w hw) _ _ a _ (Closed.start _ _ _) (by simp) ?_ (Flo.start fun j=>getD_replicate_false _ _) hS;have:(fun j=>(Array.replicate l.toArray.size false).getD j false)=fun _=>false:=funext fun j=>getD_replicate_false _ _;rw[this,nJ]
end
section
variable{P:Program}{ops:Array Oper}{Q:Exit→Act→World→Prop}{a b a0:Act}
theorem Flo.congr{vs vs':Nat→Value}{L:Nat→Bool}(h:Flo ops a0 vs L a)(hv:∀j,L j=true→vs j=vs' j):Flo ops a0 vs' L a:=
 ⟨h.defers,h.size,fun j o t hj hd hl hs=>by rw[←hv j hl];exact h.hit j o t hj hd hl hs,h.miss⟩
theorem Et {i:Nat} {o:Oper} {w:World} {R:Value→World→Prop} {K:Act→World→Prop} (ho:ops[i]?=some o) (hsel:∀cs b,o.op≠ .select cs b)
 (hr:∀t∈iN ops o,a.tmps[t]?=b.tmps[t]?) (hs:a.tmps.size=b.tmps.size) (hK:∀v w',R v w'→K (a.put o.dst v) w')
 (h:wpList P ops (fun e a' w'=>e= .normal∧∃v,a'=b.put o.dst v∧R v w') [o] b w):wpOp P ops Q i K a w:=by
 have hw:Region.wanted o (yielded ops a.tmps)=Region.wanted o (yielded ops b.tmps):=by
  unfold Region.wanted;cases hg:o.guard with
  |none=>rfl
  |some g=>
   obtain⟨j,x⟩:=g;dsimp only;have:yielded ops a.tmps j=yielded ops b.tmps j:=by
    unfold yielded;cases hd:(ops[j]?).bind (·.dst)with
    |none=>rfl
    |some t=>
     have hm:t∈iN ops o:=by
      unfold iN;rw[hg];refine List.mem_append.2 (.inr ?_);show t∈((ops[j]?).bind (·.dst)).toList;rw[hd];simp
     simp only[Option.bind_some];rw[hr t hm]
   rw[this]
 have he:execOp a.eval o=execOp b.eval o:=by
  refine execOp_congr o hsel fun x hx=> ?_;cases x with
  |tmp t=>
   have hm:t∈iN ops o:=by
    unfold iN;refine List.mem_append.2 (.inl ?_);rw[List.mem_filterMap];exact⟨.tmp t,by simpa using hx,rfl⟩
   have:=hr t hm;simp only[Act.eval,Array.getD_eq_getD_getElem?,this]
  |_=>rfl
 unfold wpOp;rw[ho];dsimp only;unfold wpList at h;rw[hw];by_cases hwd:Region.wanted o (yielded ops b.tmps)=true
 ·rw[if_pos hwd]at h⊢;left;rcases h with h|⟨_,_,_,h,_⟩
  ·unfold Oper.wp at*;rw[he];generalize(execOp b.eval o).run P w=r at h;have key:∀u w',wpList P ops (fun e a' w'=>e= .normal∧∃v,a'=b.put o.dst v∧R v w') [] (b.put o.dst u) w'→K (a.put o.dst u) w':=fun u w' h=>by
    unfold wpList at h;obtain⟨_,v,h1,h2⟩:=h;rw[yA hs h1];exact hK v w' h2
   cases r with
   |halt x w'=>
    cases x<;>simp only[Oper.upon]at h⊢;exact absurd h.1 (by simp)
   |ok n w'=>
    cases n with
    |value u=>exact key u w' h
    |skip=>exact key undef w' h
    |defer d=>
     simp only[Oper.upon]at h;unfold wpList at h;obtain⟨_,v,h1,_⟩:=h;have h1:=congrArg Act.defers h1;rw[put_defers,put_defers]at h1;exact absurd (congrArg List.length h1) (by simp)
    |enter f args=>
     simp only[Oper.upon]at h⊢;refine Calls.mono h fun e w'' he=> ?_;cases e with
     |returned u=>exact key u w'' he
     |panicked c=>exact absurd he.1 (by simp)
     |outgrown=>
      obtain⟨_,_,h1,_⟩:=he;cases h1
    |row r args=>
     simp only[Oper.upon]at h⊢;exact Rows.mono h fun u w'' he=>key u w'' he
    |_=>simp only[Oper.upon]at h
  ·cases h
 ·rw[if_neg hwd]at h⊢;unfold wpList at h;obtain⟨_,v,h1,h2⟩:=h;rw[yA hs h1];exact hK v w h2
def acV(ops:Array Oper)(a0:Act)(vs:Nat→Value):Nat→Act
 |0=>a0
 |i+1=>match ops[i]? with
  |some o=>(acV ops a0 vs i).put o.dst (vs i)
  |none=>acV ops a0 vs i
theorem tL(hB:fM ops=true)(vs:Nat→Value):∀i,Flo ops a0 vs (fun j=>decide (j<i)) (acV ops a0 vs i)
 |0=>Flo.start fun j=>by simp
 |i+1=>by
  unfold acV;have ih:=tL hB vs i;cases hx:ops[i]? with
  |none=>
   have hle:ops.size≤i:=by
    rcases Nat.lt_or_ge i ops.size with h1|h1
    ·rw[Array.getElem?_eq_getElem h1]at hx;cases hx
    ·exact h1
   dsimp only;refine⟨ih.defers,ih.size,fun j o t hj hd hlt hs=>ih.hit j o t hj hd ?_ hs,fun t ht=>ih.miss t fun j o hj hd=> ?_⟩
   ·have:=(Array.getElem?_eq_some_iff.1 hj).1;simp at this⊢;omega
   ·have:=ht j o hj hd;simp at this⊢;omega
  |some o=>
   dsimp only;refine ih.put hB hx fun j=> ?_;rw[Bool.eq_iff_iff];simp;omega
def cK(vs:Nat→Value)(i:Nat)(v:Value):Nat→Value:=fun j=>if j=i then v else vs j
theorem KE {Rs:Nat→(Nat→Value)→World→Prop} {S:World→Prop} {St:Nat→World→World→Prop} (hB:fM ops=true) (dp:Nat→List Nat) (hdp:∀i j,j∈dp i→bF .any ops ops.size i j=true)
 (kl:Nat→List Nat) (hkl:∀i j k,i<ops.size→k<ops.size→j∈kl i→j∈dp k→k=i∨bF .any ops ops.size i k=true)
 (hcg:∀j vs vs' w,(∀k,k=j∨k∈dp j→vs k=vs' k)→Rs j vs w→Rs j vs' w) (hR:∀i j vs w w',j≠i→j∉kl i→Rs j vs w→St i w w'→Rs j vs w')
 (hstep:∀i o,ops[i]?=some o→∀(vs:Nat→Value) w,S w→(∀j∈dp i,Rs j vs w)→wpList P ops (fun e a' w'=>e= .normal∧∃v,a'=(acV ops a0 vs i).put o.dst v∧Rs i (cK vs i v) w'∧S w'∧St i w w') [o] (acV ops a0 vs i) w)
 (hend:∀(vs:Nat→Value) w,S w→(∀j,j<ops.size→(∀i,i<ops.size→j∉kl i)→Rs j vs w)→Q .normal (acV ops a0 vs ops.size) w):
 ∀(fuel:Nat) (listed:Array Bool) (a:Act) (w:World) (vs:Nat→Value),Closed .any ops listed→listed.size=ops.size→lacks ops.size (fun j=>listed.getD j false)=fuel→Flo ops a0 vs (fun j=>listed.getD j false) a→S w→
  (∀j,listed.getD j false=true→(∀i,listed.getD i false=true→j∉kl i)→Rs j vs w)→wpAny P .any ops Q fuel listed a w:=by
 have hnone:∀(listed:Array Bool),listed.size=ops.size→Region.ready .any ops listed=[]→∀i,i<ops.size→listed.getD i false=true:=by
  intro listed hsz hr i
  induction i using Nat.strongRecOn with
  |_ i ih=>
   intro hi;cases hl:listed.getD i false with
   |true=>rfl
   |false=>
    exfalso;have ho:ops[i]?=some ops[i]:=Array.getElem?_eq_getElem hi;have hm:i∈Region.ready .any ops listed:=by
     rw[mem_ready];refine⟨?_,ops[i],ho,fun e he hb=> ?_⟩
     ·have hi2:i<listed.size:=(by omega);simp only[Array.getD_eq_getD_getElem?,Array.getElem?_eq_getElem hi2,Option.getD_some]at hl⊢;exact hl
     ·have h1:=nI hB ho e he hb;exact ih e.on h1 (by omega)
    rw[hr]at hm;cases hm
 have hfin:∀(listed:Array Bool) (a:Act) (w:World) (vs:Nat→Value),listed.size=ops.size→(∀i,i<ops.size→listed.getD i false=true)→Flo ops a0 vs (fun j=>listed.getD j false) a→S w→(∀j,listed.getD j false=true→(∀i,listed.getD i false=true→j∉kl i)→Rs j vs w)→Q .normal a w:=by
  intro listed a w vs Vi hall hf hS hRs;have hac:=tL (a0:=a0) hB vs ops.size;have:a=acV ops a0 vs ops.size:=by
   have h1:a.tmps=(acV ops a0 vs ops.size).tmps:=by
    refine Array.ext_getElem? fun t=> ?_;refine hf.agree hac fun j o hj _=> ?_;have hjs:=(Array.getElem?_eq_some_iff.1 hj).1;rw[hall j hjs];simp[hjs]
   have h2:a.defers=(acV ops a0 vs ops.size).defers:=(by rw[hf.defers,hac.defers]);cases a;cases hx:acV ops a0 vs ops.size;rw[hx]at h1 h2;simp only at h1 h2;rw[h1,h2]
  rw[this];refine hend vs w hS fun j hj hk=>hRs j (hall j hj) fun i hi=>hk i ?_;rcases Nat.lt_or_ge i ops.size with h|h
  ·exact h
  ·rw[Array.getD_eq_getD_getElem?,Array.getElem?_eq_none (by omega)]at hi;cases hi
 intro fuel
 induction fuel with
 |zero=>
  intro listed a w vs hcl hsz hlk hf hS hRs;have hall:=qK _ _ hlk;refine⟨?_,hfin listed a w vs hsz hall hf hS hRs⟩;rw[List.eq_nil_iff_forall_not_mem];intro i hi;obtain⟨h1,o,ho,_⟩:=mem_ready.1 hi;have his:=(Array.getElem?_eq_some_iff.1 ho).1;have h2:=hall i his;have hi2:i<listed.size:=(by omega);simp only[Array.getD_eq_getD_getElem?,Array.getElem?_eq_getElem hi2,Option.getD_some]at h1 h2;rw[h1]at h2;cases h2
 |succ fuel ih=>
  intro listed a w vs hcl hsz hlk hf hS hRs;refine⟨fun hr=>hfin listed a w vs hsz (hnone listed hsz hr) hf hS hRs,fun i hi=> ?_⟩;obtain⟨h1,o,ho,hall⟩:=mem_ready.1 hi;have his:=(Array.getElem?_eq_some_iff.1 ho).1;have hi2:i<listed.size:=(by omega);have hun:listed.getD i false=false:=by
   simp only[Array.getD_eq_getD_getElem?,Array.getElem?_eq_getElem hi2,Option.getD_some]at h1⊢;exact h1
  have hset:∀j,(listed.setIfInBounds i true).getD j false=(listed.getD j false||decide (j=i)):=fun j=>by
   by_cases hji:j=i
   ·subst hji;simp[Array.getD_eq_getD_getElem?,hi2]
   ·rw[getD_set_ne false (Ne.symm hji)];simp[hji]
  have hsel:=fun cs b=>Region.noSelect_spec (ops:=ops) (by unfold fM at hB;rw[Bool.and_eq_true]at hB;exact hB.1) i o cs b ho;have hac:=tL (a0:=a0) hB vs i;refine Et (b:=acV ops a0 vs i) (R:=fun v w'=>Rs i (cK vs i v) w'∧S w'∧St i w w') ho hsel (fun t ht=> ?_) (by rw[hf.size,hac.size]) (fun v w' hS'=> ?_) (hstep i o ho vs w hS fun j hj=>hRs j (hcl.ready (hdp i j hj) hi) fun i' hi' hk=>by
   have Vj:i'<ops.size:=by
    rcases Nat.lt_or_ge i' ops.size with h|h
    ·exact h
    ·rw[Array.getD_eq_getD_getElem?,Array.getElem?_eq_none (by omega)]at hi';cases hi'
   rcases hkl i' j i Vj his hk hj with e|e
   ·subst e;rw[hun]at hi';cases hi'
   ·have:=hcl.waits _ _ _ e hi';rw[hun]at this;cases this)
  ·refine hf.agree hac fun j oj hj hd=> ?_;rcases(lT hB ho hj hd).2 ht with⟨h2,h3⟩|⟨h2,h3⟩|h2
   ·rw[hcl.ready h3 hi];simp[h2]
   ·have h4:decide (j<i)=false:=(by simp;omega);rw[h4];cases hlj:listed.getD j false with
    |false=>rfl
    |true=>
     have:=hcl.waits _ _ _ h3 hlj;rw[hun]at this;cases this
   ·subst h2;rw[hun];simp
  ·obtain⟨hv,hS2,hst⟩:=hS';have hf2:Flo ops a0 (cK vs i v) (fun j=>listed.getD j false) a:=hf.congr fun j hj=>by
    unfold cK;rw[if_neg];rintro rfl;rw[hun]at hj;cases hj
   have hput:=hf2.put hB ho hset;have hvi:cK vs i v i=v:=(by simp[cK]);rw[hvi]at hput;refine ih (listed.setIfInBounds i true) _ w' (cK vs i v) (hcl.aH hi) (by rw[Array.size_setIfInBounds];exact hsz) ?_ hput hS2 fun j hj hkj=> ?_
   ·have:=qL (f:=fun j=>listed.getD j false) (g:=fun j=>(listed.setIfInBounds i true).getD j false) hun hset ops.size his;omega
   ·rw[hset]at hj;by_cases hji:j=i
    ·subst hji;exact hv
    ·have hjl:listed.getD j false=true:=(by simpa[hji]using hj);refine hcg j vs _ _ (fun k hk=> ?_) (hR i j _ _ _ hji (hkj i (by rw[hset];simp)) (hRs j hjl fun i' hi'=>hkj i' (by rw[hset,hi'];rfl)) hst);unfold cK;rw[if_neg];rintro rfl;rcases hk with e|hk
     ·exact hji e.symm
     ·have:=hcl.waits _ _ _ (hdp j k hk) hjl;rw[hun]at this;cases this
def r9(R:Value→World→Prop)(a:Act)(d:Option Tmp):Exit→Act→World→Prop:=fun e a' w'=>e= .normal∧∃v,a'=a.put d v∧R v w'
theorem ig {id:Nat} {w:World} {l:List Oper} (Rs:Nat→(Nat→Value)→World→Prop) (S:World→Prop) (St:Nat→World→World→Prop) (dp:Nat→List Nat) (hm:P.follows .mixedOrders=true) (hB:fM l.toArray=true)
 (hdp:((List.range l.length).all fun i=>(dp i).all fun j=>bF .any l.toArray l.length i j)=true) (RJ:∀i,l.length≤i→dp i=[])
 (kl:Nat→List Nat) (hkl:((List.range l.length).all fun i=>(kl i).all fun j=>(List.range l.length).all fun k=> !(dp k).contains j||k==i||bF .any l.toArray l.length i k)=true)
 (hcg:∀j vs vs' w,(∀k,k=j∨k∈dp j→vs k=vs' k)→Rs j vs w→Rs j vs' w) (hR:∀i j vs w w',j≠i→j∉kl i→Rs j vs w→St i w w'→Rs j vs w') (hS:S w.drew)
 (hstep:∀i o,l[i]?=some o→∀(vs:Nat→Value) w,S w→(∀j∈dp i,Rs j vs w)→wpList P l.toArray (r9 (fun v w'=>Rs i (cK vs i v) w'∧S w'∧St i w w') (acV l.toArray a vs i) o.dst) [o] (acV l.toArray a vs i) w)
 (hend:∀(vs:Nat→Value) w,S w→(∀j,j<l.length→(∀i,i<l.length→j∉kl i)→Rs j vs w)→Q .normal (acV l.toArray a vs l.length) w):(Code.region id l.toArray true).wp P Q a w:=by
 have hsz:l.toArray.size=l.length:=(by simp);have hget:∀i:Nat,l.toArray[i]?=l[i]?:=fun i=>List.getElem?_toArray ..;refine wp_region_any hm ?_;refine KE (Rs:=Rs) (S:=S) (St:=St) hB dp (fun i j hj=> ?_) kl (fun i j k hi hk hj hd=> ?_) hcg hR (fun i o ho=>hstep i o (by rw[←hget];exact ho)) (fun vs w h1 h2=>by rw[hsz];exact hend vs w h1 (by rw[←hsz];exact h2)) _ _ a _ (fun _=>undef) (Closed.start _ _ _) (by simp) ?_ (Flo.start fun j=>getD_replicate_false _ _) hS (fun j hj _=>by rw[getD_replicate_false]at hj;cases hj)
 ·rw[hsz];rcases Nat.lt_or_ge i l.length with h|h
  ·exact List.all_eq_true.1 (List.all_eq_true.1 hdp i (List.mem_range.2 h)) j hj
  ·rw[RJ i h]at hj;cases hj
 ·rw[hsz]at hi hk⊢;have h1:=List.all_eq_true.1 (List.all_eq_true.1 (List.all_eq_true.1 hkl i (List.mem_range.2 hi)) j hj) k (List.mem_range.2 hk);rw[Bool.or_eq_true,Bool.or_eq_true,Bool.not_eq_true',beq_iff_eq]at h1;rcases h1 with(h1|h1)|h1
  ·rw[List.contains_iff_mem.2 hd]at h1;cases h1
  ·exact .inl h1
  ·exact .inr h1
 ·have:(fun j=>(Array.replicate l.toArray.size false).getD j false)=fun _=>false:=funext fun j=>getD_replicate_false _ _;rw[this,nJ]
end
section
variable{P:Program}{ops:Array Oper}{Q:Exit→Act→World→Prop}{a b a0:Act}
theorem KF {Inv:(Nat→Bool)→(Nat→Value)→World→Prop} (hB:fM ops=true)
 (hstep:∀i o,ops[i]?=some o→∀(L:Nat→Bool) (vs:Nat→Value) w,L i=false→(∀j,bF .any ops ops.size i j=true→L j=true)→(∀k,bF .any ops ops.size k i=true→L k=false)→Inv L vs w→wpList P ops (fun e a' w'=>e= .normal∧∃v,a'=(acV ops a0 vs i).put o.dst v∧Inv (fun j=>L j||decide (j=i)) (cK vs i v) w') [o] (acV ops a0 vs i) w)
 (hend:∀(L:Nat→Bool) (vs:Nat→Value) w,(∀j,j<ops.size→L j=true)→Inv L vs w→Q .normal (acV ops a0 vs ops.size) w):
 ∀(fuel:Nat) (listed:Array Bool) (a:Act) (w:World) (vs:Nat→Value),Closed .any ops listed→listed.size=ops.size→lacks ops.size (fun j=>listed.getD j false)=fuel→Flo ops a0 vs (fun j=>listed.getD j false) a→
  Inv (fun j=>listed.getD j false) vs w→wpAny P .any ops Q fuel listed a w:=by
 have hnone:∀(listed:Array Bool),listed.size=ops.size→Region.ready .any ops listed=[]→∀i,i<ops.size→listed.getD i false=true:=by
  intro listed hsz hr i
  induction i using Nat.strongRecOn with
  |_ i ih=>
   intro hi;cases hl:listed.getD i false with
   |true=>rfl
   |false=>
    exfalso;have ho:ops[i]?=some ops[i]:=Array.getElem?_eq_getElem hi;have hm:i∈Region.ready .any ops listed:=by
     rw[mem_ready];refine⟨?_,ops[i],ho,fun e he hb=> ?_⟩
     ·have hi2:i<listed.size:=(by omega);simp only[Array.getD_eq_getD_getElem?,Array.getElem?_eq_getElem hi2,Option.getD_some]at hl⊢;exact hl
     ·have h1:=nI hB ho e he hb;exact ih e.on h1 (by omega)
    rw[hr]at hm;cases hm
 have hfin:∀(listed:Array Bool) (a:Act) (w:World) (vs:Nat→Value),listed.size=ops.size→(∀i,i<ops.size→listed.getD i false=true)→Flo ops a0 vs (fun j=>listed.getD j false) a→Inv (fun j=>listed.getD j false) vs w→Q .normal a w:=by
  intro listed a w vs Vi hall hf hI;have hac:=tL (a0:=a0) hB vs ops.size;have:a=acV ops a0 vs ops.size:=by
   have h1:a.tmps=(acV ops a0 vs ops.size).tmps:=by
    refine Array.ext_getElem? fun t=> ?_;refine hf.agree hac fun j o hj _=> ?_;have hjs:=(Array.getElem?_eq_some_iff.1 hj).1;rw[hall j hjs];simp[hjs]
   have h2:a.defers=(acV ops a0 vs ops.size).defers:=(by rw[hf.defers,hac.defers]);cases a;cases hx:acV ops a0 vs ops.size;rw[hx]at h1 h2;simp only at h1 h2;rw[h1,h2]
  rw[this];exact hend _ vs w hall hI
 intro fuel
 induction fuel with
 |zero=>
  intro listed a w vs hcl hsz hlk hf hI;have hall:=qK _ _ hlk;refine⟨?_,hfin listed a w vs hsz hall hf hI⟩;rw[List.eq_nil_iff_forall_not_mem];intro i hi;obtain⟨h1,o,ho,_⟩:=mem_ready.1 hi;have his:=(Array.getElem?_eq_some_iff.1 ho).1;have h2:=hall i his;have hi2:i<listed.size:=(by omega);simp only[Array.getD_eq_getD_getElem?,Array.getElem?_eq_getElem hi2,Option.getD_some]at h1 h2;rw[h1]at h2;cases h2
 |succ fuel ih=>
  intro listed a w vs hcl hsz hlk hf hI;refine⟨fun hr=>hfin listed a w vs hsz (hnone listed hsz hr) hf hI,fun i hi=> ?_⟩;obtain⟨h1,o,ho,hall⟩:=mem_ready.1 hi;have his:=(Array.getElem?_eq_some_iff.1 ho).1;have hi2:i<listed.size:=(by omega);have hun:listed.getD i false=false:=by
   simp only[Array.getD_eq_getD_getElem?,Array.getElem?_eq_getElem hi2,Option.getD_some]at h1⊢;exact h1
  have hset:∀j,(listed.setIfInBounds i true).getD j false=(listed.getD j false||decide (j=i)):=fun j=>by
   by_cases hji:j=i
   ·subst hji;simp[Array.getD_eq_getD_getElem?,hi2]
   ·rw[getD_set_ne false (Ne.symm hji)];simp[hji]
  have hsel:=fun cs b=>Region.noSelect_spec (ops:=ops) (by unfold fM at hB;rw[Bool.and_eq_true]at hB;exact hB.1) i o cs b ho;have hac:=tL (a0:=a0) hB vs i;refine Et (b:=acV ops a0 vs i) (R:=fun v w'=>Inv (fun j=>listed.getD j false||decide (j=i)) (cK vs i v) w') ho hsel (fun t ht=> ?_) (by rw[hf.size,hac.size]) (fun v w' hS'=> ?_) (hstep i o ho (fun j=>listed.getD j false) vs w hun (fun j hj=>hcl.ready hj hi) (fun k hk=>by
   cases hlk:listed.getD k false with
   |false=>rfl
   |true=>
    have:=hcl.waits _ _ _ hk hlk;rw[hun]at this;cases this) hI)
  ·refine hf.agree hac fun j oj hj hd=> ?_;rcases(lT hB ho hj hd).2 ht with⟨h2,h3⟩|⟨h2,h3⟩|h2
   ·rw[hcl.ready h3 hi];simp[h2]
   ·have h4:decide (j<i)=false:=(by simp;omega);rw[h4];cases hlj:listed.getD j false with
    |false=>rfl
    |true=>
     have:=hcl.waits _ _ _ h3 hlj;rw[hun]at this;cases this
   ·subst h2;rw[hun];simp
  ·have hf2:Flo ops a0 (cK vs i v) (fun j=>listed.getD j false) a:=hf.congr fun j hj=>by
    unfold cK;rw[if_neg];rintro rfl;rw[hun]at hj;cases hj
   have hput:=hf2.put hB ho hset;have hvi:cK vs i v i=v:=(by simp[cK]);rw[hvi]at hput;refine ih (listed.setIfInBounds i true) _ w' (cK vs i v) (hcl.aH hi) (by rw[Array.size_setIfInBounds];exact hsz) ?_ hput ?_
   ·have:=qL (f:=fun j=>listed.getD j false) (g:=fun j=>(listed.setIfInBounds i true).getD j false) hun hset ops.size his;omega
   ·have:(fun j=>(listed.setIfInBounds i true).getD j false)=fun j=>listed.getD j false||decide (j=i):=funext hset;rw[this];exact hS'
theorem l9 {id:Nat} {w:World} {l:List Oper} (Inv:(Nat→Bool)→(Nat→Value)→World→Prop) (dp nd:Nat→List Nat) (hm:P.follows .mixedOrders=true) (hB:fM l.toArray=true)
 (hdp:((List.range l.length).all fun i=>(dp i).all fun j=>bF .any l.toArray l.length i j)=true) (hnd:((List.range l.length).all fun i=>(nd i).all fun k=>bF .any l.toArray l.length k i)=true)
 (h0:Inv (fun _=>false) (fun _=>undef) w.drew)
 (hstep:∀i o,l[i]?=some o→∀(L:Nat→Bool) (vs:Nat→Value) w,L i=false→(∀j∈dp i,L j=true)→(∀k∈nd i,L k=false)→Inv L vs w→wpList P l.toArray (r9 (fun v w'=>Inv (fun j=>L j||decide (j=i)) (cK vs i v) w') (acV l.toArray a vs i) o.dst) [o] (acV l.toArray a vs i) w)
 (hend:∀(L:Nat→Bool) (vs:Nat→Value) w,(∀j,j<l.length→L j=true)→Inv L vs w→Q .normal (acV l.toArray a vs l.length) w):(Code.region id l.toArray true).wp P Q a w:=by
 have hsz:l.toArray.size=l.length:=(by simp);have hget:∀i:Nat,l.toArray[i]?=l[i]?:=fun i=>List.getElem?_toArray ..;refine wp_region_any hm ?_;refine KF (Inv:=Inv) hB (fun i o ho L vs w h1 h2 h3 hI=> ?_) (fun L vs w h1 h2=>by rw[hsz];exact hend L vs w (by rw[←hsz];exact h1) h2) _ _ a _ (fun _=>undef) (Closed.start _ _ _) (by simp) ?_ (Flo.start fun j=>getD_replicate_false _ _) ?_
 ·have ho':l[i]?=some o:=(by rw[←hget];exact ho);have hil:i<l.length:=(List.getElem?_eq_some_iff.1 ho').1;refine hstep i o ho' L vs w h1 (fun j hj=>h2 j ?_) (fun k hk=>h3 k ?_) hI
  ·rw[hsz];exact List.all_eq_true.1 (List.all_eq_true.1 hdp i (List.mem_range.2 hil)) j hj
  ·rw[hsz];exact List.all_eq_true.1 (List.all_eq_true.1 hnd i (List.mem_range.2 hil)) k hk
 ·have:(fun j=>(Array.replicate l.toArray.size false).getD j false)=fun _=>false:=funext fun j=>getD_replicate_false _ _;rw[this,nJ]
 ·have:(fun j=>(Array.replicate l.toArray.size false).getD j false)=fun _=>false:=funext fun j=>getD_replicate_false _ _;rw[this];exact h0
end
end Go.Inq
