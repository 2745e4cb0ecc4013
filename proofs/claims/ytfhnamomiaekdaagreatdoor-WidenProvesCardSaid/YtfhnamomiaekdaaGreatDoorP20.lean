/-
  Plain words of layer 16: the least that may come next, sought from the end.
-/
import Derived.Laws.MakeOwn
import Derived.Deep.DeepCutAuto
import Derived.Test.YtfhnamomiaekdaaGreatDoorP05
import Derived.Test.YtfhnamomiaekdaaGreatDoorP14
import Derived.Test.YtfhnamomiaekdaaGreatDoorP16
import Derived.Test.YtfhnamomiaekdaaGreatDoorP17
import Derived.Test.YtfhnamomiaekdaaGreatDoorP19
set_option linter.unusedVariables false
set_option linter.unusedSimpArgs false
namespace Go.Inq
def mX(n:Nat)(E:au)(l:List Nat)(v:Nat):Bool:= !l.contains v&&(List.range n).all fun x=> !E x v||l.contains x
def uU(p:Nat→Bool)(n:Nat):Nat→Int
 |0=> -1
 |d+1=>if p (n-(d+1))then((n-(d+1):Nat):Int)else uU p n d
theorem xU(p:Nat→Bool)(n:Nat):∀d,d≤n→uU p n d=match ((List.range n).drop (n-d)).find? p with|some v=>(v:Int)|none=> -1
 |0,_=>by rw[Nat.sub_zero,List.drop_of_length_le (by simp)];rfl
 |d+1,h=>by
  have hd:(List.range n).drop (n-(d+1))=(n-(d+1))::(List.range n).drop (n-d):=by
   rw[List.drop_eq_getElem_cons (by simp;omega)];simp only[List.getElem_range];rw[show n-(d+1)+1=n-d by omega]
  rw[hd,List.find?_cons];unfold uU;rw[xU p n d (by omega)];cases p (n-(d+1))<;>simp
theorem AY(n:Nat)(E:au)(l:List Nat):uU (mX n E l) n n=match j4 n E l with|some v=>(v:Int)|none=> -1:=by
 rw[xU _ _ n (Nat.le_refl _),Nat.sub_self,List.drop_zero];rfl
theorem GD{n:Nat}{E:au}{l:List Nat}{v:Nat}(h:j4 n E l=some v):uU (mX n E l) n n=v:=by rw[AY,h]
theorem GH{n:Nat}{E:au}{l:List Nat}(h:j4 n E l=none):uU (mX n E l) n n= -1:=by rw[AY,h]
theorem JK{n:Nat}{E:au}{l:List Nat}{v:Nat}(h:j4 n E l=some v):v<n:=by
 have:=List.mem_of_find?_eq_some h;simpa using this
def kI(n:Nat)(l:List Nat):Nat:=bX (fun v=>l.contains v) n
theorem GI{n:Nat}{l:List Nat}{v:Nat}(h:v<n):hasB (kI n l) (v:Int)=l.contains v:=by
 unfold kI;rw[zN,aL];simp[h]
theorem GJ{n:Nat}{E:au}{l:List Nat}{v:Nat}(hn:n≤64):FT (bX (dZ E v) n) (kI n l)=(List.range n).all fun x=> !E x v||l.contains x:=by
 have h1:bX (dZ E v) n<18446744073709551616:=Nat.lt_of_lt_of_le (jF _ _) (fZ hn);have h2:kI n l<18446744073709551616:=Nat.lt_of_lt_of_le (jF _ _) (fZ hn);rw[Bool.eq_iff_iff,zO h1 h2,List.all_eq_true];unfold kI dZ;constructor
 ·intro h x hx;have hxn:x<n:=(by simpa using hx);have:=h x;rw[aL,aL]at this;simp only[hxn,decide_true,Bool.true_and]at this;cases hE:E x v
  ·simp
  ·simpa using this hE
 ·intro h x hx;rw[aL]at hx⊢;rw[Bool.and_eq_true]at hx⊢;have hxn:x<n:=(by simpa using hx.1);have:=h x (by simpa using hxn);rw[hx.2]at this;exact⟨hx.1,by simpa using this⟩
theorem DF{n:Nat}{l:List Nat}{v:Nat}(h:v<n)(hn:n≤64):mJ (kI n l) (v:Int)=kI n (l++[v]):=by
 unfold kI;rw[qU h hn];refine fJ fun i hi=> ?_;rw[Bool.eq_iff_iff];simp
theorem GK(n:Nat):kI n []=0:=by
 unfold kI;refine Nat.eq_of_testBit_eq fun i=> ?_;rw[aL];simp
theorem JL{n:Nat}{l:List Nat}(hn:n≤64):kI n l<18446744073709551616:=Nat.lt_of_lt_of_le (jF _ _) (fZ hn)
theorem ql{n:Nat}{E:au}{k:Nat}(h:bM n E k=none):∀m,k≤m→bM n E m=none
 |0,hm=>by have e:k=0:=Nat.le_zero.1 hm;rw[e]at h;exact h
 |m+1,hm=>by
  by_cases e:k=m+1
  ·subst e;exact h
  ·unfold bM;rw[ql h m (by omega)]
theorem zh{n:Nat}{E:au}{k v:Nat}{l:List Nat}(h:bM n E k=some l)(hv:j4 n E l=some v):bM n E (k+1)=some (l++[v]):=by
 unfold bM;rw[h];simp only[hv]
theorem AZ{n:Nat}{E:au}{k:Nat}{l:List Nat}(hk:k<n)(h:bM n E k=some l)(hv:j4 n E l=none):gG n E=none:=by
 refine ql (k:=k+1) ?_ n (by omega);unfold bM;rw[h];simp only[hv]
end Go.Inq
namespace Go.Proofs.YtfhnamomiaekdaaGreatDoor
open Go.RowKit Go.Inq
set_option maxHeartbeats 4000000
attribute [local go_sem↓] Go.wp_at_zero Go.wp_at_succ
def oU(w:World)(o:Option (List Nat))(e:Ending)(w':World):Prop:=
 (match o with
  |some l=>∃v,e= .returned (.tuple #[v,.bool true])∧bE w' w.heap.size v (aO l)
  |none=>e= .returned (.tuple #[.slice none 0 0,.bool false]))∧Below w.heap.size w w'
theorem oU.yes{w w':World}{l:List Nat}{v:Value}(h:bE w' w.heap.size v (aO l))(hb:Below w.heap.size w w'):oU w (some l) (.returned (.tuple #[v,.bool true])) w':=⟨⟨v,rfl,h⟩,hb⟩
theorem oU.no{w w':World}(hb:Below w.heap.size w w'):oU w none (.returned (.tuple #[.slice none 0 0,.bool false])) w':=⟨rfl,hb⟩
set_option maxRecDepth 100000 in
theorem A8(n:Nat)(A:Option Addr)(c:Nat)(E:au)(K:Nat→Prop)(w:World)(h:GrS w K n A c E)(hK:∀b,K b→b<w.heap.size)(hT:jB w):
 Calls Tryz.prog 74 #[.agg #[.int .i64 n,.slice A n c]] w (oU w (gG n E)):=by
 obtain⟨ii,hii,hi1,hi2,hi3⟩:=info_parts dO;obtain⟨W0,hW0⟩:∃W0,w.alloc (.cells #[.int .i64 n,.slice A n c] 77)=W0:=⟨_,rfl⟩;have hB:=ah (Below.refl w.heap.size w) hW0 (Nat.le_refl _);have k0:=Blk.newEq hW0;have hs0:=aD hW0;have hg:=hide (h.keep (Agree.below hB hK) (fun b hb=>hb));have hKW:Hid (∀b,K b→b<W0.heap.size):=hide fun b hb=>(by have:=hK b hb;omega);have hn:=h.n64;replace hK:=hide hK;have hT0:=hT.below hB;clear h;have c0:=Blk.n0 k0;have c1:=Blk.n1 k0;replace hs0:=hide hs0;go_enter Tryz.func74,Tryz.ntmps74;go_wp2_with fail;clear hW0 c0 c1;refine(uO n A c E K _ hg.out hKW.out hT0).mono ?_;rintro e w1 ⟨g,hgs,rfl,kR,hb1⟩;have hgl:=kR.lt;replace k0:=k0.below hb1 k0.lt;have hb2:=hB.trans (hb1.mono hB.size);obtain⟨W3,hW3⟩:∃W3,w1.alloc (.cells #[.int .i64 n,.slice (some ⟨g,0,none⟩) n n] 77)=W3:=⟨_,rfl⟩;have k3:=Blk.newEq hW3;have hs3:=aD hW3;replace k0:=k0.av hW3;replace kR:=kR.av hW3;have hb5:=ah hb2 hW3 hb2.size;have hwg:w.heap.size<g:=(by have:=hs0.out;omega);have hww:w.heap.size<w1.heap.size:=(by omega);clear hb1 hB hKW hs0 hg hT0 hb2;have hmk:∀W:World,(Instr.makeSlice 33 (.int .i64 0) (.int .i64 (n:Int))).run Tryz.prog W= .ok (.slice (some ⟨W.heap.size,0,none⟩) 0 n) (W.alloc (.cells (madeCells #[.int .i64 0] n) 3)):=fun W=>by
  have:=run_make (P:=Tryz.prog) W 33 3 ii (.int .i64 0) Tryz.underlying33 hii hi1 .i64 .i64 0 (n:Int) (Int.le_refl _) (by omega) (by rw[hi3];omega) (by omega);rw[hi2]at this;simp only[Int.toNat_zero,Int.toNat_natCast,Nat.mul_one]at this;exact this
 have JM:=hide (World.ownsRow_made (base:=w.heap.size) (e:=3) (size:=1) W3 (madeCells #[.int .i64 0] n) n (by omega) (by simp[maxLen];omega) (by simp[size_madeCells]));obtain⟨W4,hW4⟩:∃W4,W3.alloc (.cells (madeCells #[.int .i64 0] n) 3)=W4:=⟨_,rfl⟩;rw[hW4]at JM;have c0:=Blk.n0 k0;replace k0:=k0.av hW4;replace k3:=k3.av hW4;replace kR:=kR.av hW4;have hb6:=ah hb5 hW4 (by omega);have c0n:=Blk.n0 k0;have hz:=hide (GK n);have h3n:w1.heap.size<W3.heap.size:=(by omega);have hgK:g<W3.heap.size:=(by omega);have PG:W4.heap.size=W3.heap.size+1:=aD hW4;replace hs3:=hide hs3;go_wp2_with fail;clear hmk c0 c0n hb5;go_loopw [6,7,22] (fun s6 s7 s22 wr=>∃(k:Nat) (l:List Nat),k≤n∧s22= .int .i64 k∧s7= .int .u64 (kI n l:Nat)∧Hid (bM n E k=some l)∧bE wr w.heap.size s6 (aO l)∧Below w.heap.size w wr∧Blk wr w.heap.size 77 #[.int .i64 n,.slice A n c]∧Blk wr w1.heap.size 77 #[.int .i64 n,.slice (some ⟨g,0,none⟩) n n]∧Blk wr g 172 (bF n (dZ E))∧Hid (∀b,s6.ownBlock=some b→W3.heap.size≤b)∧W4.heap.size≤wr.heap.size) (fun _ _ s22 _=>n-(intOf s22).toNat);case atStart=>exact⟨0,[],Nat.zero_le _,by go_num,by rw[hz.out];rfl,hide rfl,JM.out,hb6,k0,k3,kR,hide (fun b hb=>by simp[Value.ownBlock]at hb;omega),Nat.le_refl _⟩
 case round=>
  clear JM hb6 k0 k3 kR hW4 hW3;obtain⟨Wo,rfl⟩:∃Wo,Wo=wr:=⟨_,rfl⟩;obtain⟨k,l,hk,rfl,rfl,hO,hown,hb,k0,k3,kR,jk,K6⟩:=hrel;have CP:(0:Int)≤(k:Int):=Int.natCast_nonneg _;by_cases hlt:k<n
  ·have CQ:(k:Int)<(n:Int):=(by omega);have c0:=Blk.n0 k0;have d1:=Blk.n1 k3;have hsb:=hide (JL (l:=l) hn);have hn1:(1:Int)≤(n:Int):=(by omega);go_wp2_with fail
   go_loop [8,9] (fun s8 s9=>∃d:Nat,d≤n∧s9= .int .i64 ((n:Int)-1-d)∧s8= .int .i64 (uU (mX n E l) n d)) (fun _ s9=>((intOf s9)+1).toNat)
   case atStart=>exact⟨0,Nat.zero_le _,by simp,rfl⟩
   case round=>
    obtain⟨d,hd,rfl,rfl⟩:=hrel;by_cases hdn:d<n
    ·obtain⟨v,hv⟩:∃v,v=n-(d+1):=⟨_,rfl⟩;have hvi:((n:Int)-1-d)=(v:Int):=(by omega);rw[hvi];have hvn:v<n:=(by omega);have hv0:(0:Int)≤(v:Int):=Int.natCast_nonneg _;have hv1:(v:Int)<(n:Int):=(by omega);have r0:=kR.cell v;rw[mM hvn]at r0;have h64:=hide (gI (p:=dZ E v) hn);have hhas:=hide (GI (l:=l) hvn);have hsub:=hide (GJ (E:=E) (l:=l) (v:=v) hn);have hlow:Hid (uU (mX n E l) n (d+1)=if mX n E l v then(v:Int)else uU (mX n E l) n d):=hide (by show(if mX n E l (n-(d+1))then _ else _)=_;rw[←hv]);have hfr:Hid (mX n E l v=(!l.contains v&&(List.range n).all fun x=> !E x v||l.contains x)):=hide rfl;have Q5:decide ((v:Int)≥0)=true:=(by simp);generalize uU (mX n E l) n d=low at*;generalize hl':uU (mX n E l) n (d+1)=MN at*;replace hl':=hide hl';generalize kI n l=S at*;generalize bX (dZ E v) n=R at*;clear hvi;have hnext:Hid (((v:Int)-1)=(n:Int)-1-((d+1:Nat):Int)):=hide (by omega);have hms:Hid (((n:Int)-1-((d+1:Nat):Int)+1).toNat<((v:Int)+1).toNat):=hide (by omega);clear hv;go_wp2_with fail;refine(xJ S hsb.out v _).mono ?_;rintro e w5 ⟨rfl,rfl⟩;rw[hhas.out];cases hc1:l.contains v with
     |true=>
      have hl2:MN=low:=(by rw[hlow.out,hfr.out,hc1];rfl);subst hl2;clear hc1;go_wp2
      go_round
      case rel=>exact⟨d+1,by omega,by rw[hnext.out],by rw[hl'.out]⟩
      case measure=>simp only[intOf];rw[hnext.out];exact hms.out
     |false=>
      replace hfr:=hfr.out;rw[hc1]at hfr;clear hc1;go_wp2_with fail;refine(xK R S h64.out hsb.out _).mono ?_;rintro e w5 ⟨rfl,rfl⟩;rw[hsub.out];cases hc2:(List.range n).all fun x=> !E x v||l.contains x with
      |true=>
       have hl2:MN=v:=(by rw[hlow.out,hfr,hc2];rfl);subst hl2;clear hc2 hfr;go_wp2
       go_round
       case rel=>exact⟨d+1,by omega,by rw[hnext.out],by rw[hl'.out]⟩
       case measure=>simp only[intOf];rw[hnext.out];exact hms.out
      |false=>
       have hl2:MN=low:=(by rw[hlow.out,hfr,hc2];rfl);subst hl2;clear hc2 hfr;go_wp2
       go_round
       case rel=>exact⟨d+1,by omega,by rw[hnext.out],by rw[hl'.out]⟩
       case measure=>simp only[intOf];rw[hnext.out];exact hms.out
    ·obtain rfl:d=n:=(by omega);have hvi:((d:Int)-1-(d:Int))= -1:=(by omega);rw[hvi];clear hvi;have wD:=hb.size;cases hnt:j4 d E l with
     |none=>
      have hf:=hide (AZ hlt hO.out hnt);rw[GH hnt];clear hnt;go_wp2;exact bodyPost_ret (v:= .tuple #[.slice none 0 0,.bool false]) (by simp[results,Tryz.results74,go_sem]) rfl (by rw[hf.out];exact oU.no hb)
     |some v=>
      have hO2:=hide (zh hO.out hnt);have hvn:=JK hnt;rw[GD hnt];have NY:=hide (DF (l:=l) hvn hn);have hll:=fV hO.out;have hlb:l.length+1≤64:=(by omega);have hv0:(0:Int)≤(v:Int):=Int.natCast_nonneg _;obtain⟨Av,cv,rfl⟩:=hown.form;replace hown:=hide hown;have hsn:=hide (fM l v);replace hll:=hide hll;have hlen:=hide (aI l);have hol:=hide (fun b hb=>(hown.out.lt b hb).2);clear hnt;go_wp2_with (first|(go_at_call 134;refine(oJ _ hsb.out v _).mono ?_;rintro e w5 ⟨rfl,rfl⟩)|(at_builtin;refine aY (enc:=Go.Inq.encI) rfl (.tmp 47) (.tmp 49) 33 rfl w.heap.size 3 ii _ 1 8 Tryz.underlying33 hii hi1 hi2 hi3 rfl (by decide) (.slice Av (aO l).length cv) (aO l) rfl hown.out (fun _=>rfl) (v:Int) _ rfl rfl eG (by rw[hlen.out];simp[maxLen];omega) (by rw[hlen.out];omega) wD w w.heap.size (Nat.le_refl _) hb ?_;intro v1 w6 hown1 hg1 hb1 l5));have hk6:∀(t:TypeId) (cs:Array Value) (B:Nat),B<W3.heap.size→Blk Wo B t cs→Blk w6 B t cs:=fun t cs B hB hk=>(hk.alloc _).grown hg1 (fun e=>by have:=jk.out B e.symm;omega);have PI:=hg1.size;simp only[World.size_alloc]at PI;go_roundw;case rel=>exact⟨k+1,l++[v],by omega,by go_num,by rw[NY.out],hO2,by unfold bE;rw[hsn.out];exact hown1,hb1,hk6 _ _ _ (by omega) k0,hk6 _ _ _ h3n k3,hk6 _ _ _ hgK kR,hide fun b hb=>by
       rcases l5 with e|e
       ·rw[e]at hb;exact jk.out b hb
       ·rw[e]at hb;injection hb with hb;omega,by omega⟩
      case measure=>simp[intOf];omega
  ·obtain rfl:k=n:=(by omega);have hO2:Hid (gG k E=some l):=hO;go_wp2;exact bodyPost_ret (v:= .tuple #[_,.bool true]) (by simp[results,Tryz.results74,go_sem];rfl) rfl (by rw[hO2.out];exact oU.yes hown hb)
def gM(s1 gP gL gj m n rl:Nat)(path:List Int)(t:Int)(base:Nat):Nat→(Nat→Value)→World→Prop
 |0,vs,_=>vs 0= .pointer (some ⟨s1,2,none⟩)
 |1,vs,_=>vs 1= .slice (some ⟨gP,0,none⟩) path.length path.length
 |2,vs,W=>bE W base (vs 2) path
 |3,vs,_=>vs 3= .pointer (some ⟨s1,3,none⟩)
 |4,vs,_=>vs 4= .slice (some ⟨gL,0,none⟩) n n
 |5,vs,_=>vs 5= .int .i64 (m:Int)
 |6,vs,_=>vs 6= .pointer (some ⟨gL,m,none⟩)
 |7,vs,_=>vs 7= .slice (some ⟨gj,0,none⟩) rl rl
 |8,vs,_=>vs 8= .pointer (some ⟨gj,0,none⟩)
 |9,vs,_=>vs 9= .int .i64 t
 |10,vs,W=>∃g,base≤g∧vs 10= .slice (some ⟨g,0,none⟩) 1 1∧Blk W g 3 #[.int .i64 t]
 |11,vs,W=>bE W base (vs 11) (path++[t])
 |12,vs,_=>vs 12=vs 11
 |_,_,_=>True
def fQ:Nat→List Nat
 |1=>[0]
 |2=>[1]
 |4=>[3]
 |6=>[4,5]
 |7=>[6]
 |8=>[7]
 |9=>[8]
 |10=>[9]
 |11=>[2,10]
 |12=>[11]
 |_=>[]
def uV:Nat→List Nat
 |11=>[2,10]
 |_=>[]
def zi(base:Nat)(i:Nat)(W W':World):Prop:=if i=11 then Below base W W' else Below W.heap.size W W'
theorem GL:∀i,13≤i→fQ i=[]:=by
 intro i hi
 match i,hi with
 |n+13,_=>rfl
section
variable{s1 gP gL gj m n rl:Nat}{path:List Int}{t:Int}{base:Nat}
theorem JN:∀j (vs vs':Nat→Value) w,(∀k,k=j∨k∈fQ j→vs k=vs' k)→gM s1 gP gL gj m n rl path t base j vs w→gM s1 gP gL gj m n rl path t base j vs' w:=by
 intro j vs vs' w hk h
 match j,h with
 |0,h|1,h|2,h|3,h|4,h|5,h|6,h|7,h|8,h|9,h|10,h|11,h=>
  simp only[gM]at h⊢;rw[←hk _ (.inl rfl)];exact h
 |12,h=>
  simp only[gM]at h⊢;rw[←hk 12 (.inl rfl),←hk 11 (.inr (by simp[fQ]))];exact h
 |n+13,_=>trivial
theorem DI:∀i j (vs:Nat→Value) w w',j≠i→j∉uV i→gM s1 gP gL gj m n rl path t base j vs w→zi base i w w'→gM s1 gP gL gj m n rl path t base j vs w':=by
 intro i j vs w w' hne hkl h hs;unfold zi at hs;by_cases hi:i=11
 ·subst hi;rw[if_pos rfl]at hs
  match j,h with
  |0,h|1,h|3,h|4,h|5,h|6,h|7,h|8,h|9,h|12,h=>exact h
  |2,h|10,h=>exact absurd (by simp[uV]) hkl
  |11,h=>exact absurd rfl hne
  |n+13,_=>trivial
 ·rw[if_neg hi]at hs
  match j,h with
  |0,h|1,h|3,h|4,h|5,h|6,h|7,h|8,h|9,h|12,h=>exact h
  |2,h|11,h=>
   simp only[gM]at h⊢;exact own_below h hs (Nat.le_refl _)
  |10,h=>
   simp only[gM]at h⊢;obtain⟨g,h1,h2,h3⟩:=h;exact⟨g,h1,h2,h3.below hs h3.lt⟩
  |n+13,_=>trivial
end
def iM(H:List Txn)(A:Option Addr)(c:Nat)(level:Int)(vl:Value)(L:List Cho)(E:au)(base:Nat):Nat→(Nat→Value)→World→Prop
 |0,vs,_=>vs 0= .agg #[.slice A H.length c]
 |1,vs,_=>vs 1= .int .i64 level
 |2,vs,_=>vs 2= .agg #[.slice A H.length c]
 |3,vs,_=>vs 3=vl
 |4,vs,W=>iD W base (vs 4) L
 |5,vs,W=>∃u,vs 5= .tuple #[u,.int .i64 0]∧GV base H.length E u W
 |6,vs,W=>∃u,vs 6= .tuple #[u,.int .i64 0]∧GV base H.length E u W
 |7,vs,W=>GV base H.length E (vs 7) W
 |8,vs,_=>vs 8= .int .i64 0
 |9,vs,W=>ze base (vs 9) W
 |10,vs,W=>∃g x y,vs 9= .pointer (some ⟨g,0,none⟩)∧base≤g∧vs 7= .agg #[x,y]∧Blk W g 77 #[x,y]
 |11,vs,_=>vs 11= .int .i64 0
 |_,_,_=>True
def fu:Nat→List Nat
 |4=>[2,3]
 |5=>[0,1,4]
 |6=>[5]
 |7=>[6]
 |8=>[6]
 |10=>[9,7]
 |11=>[8]
 |_=>[]
def qm(base:Nat)(i:Nat)(W W':World):Prop:=if i=10 then gB base W W' else Below W.heap.size W W'
theorem GN:∀i,12≤i→fu i=[]:=by
 intro i hi
 match i,hi with
 |n+12,_=>rfl
theorem gB.own{base b:Nat}{v:Value}{L:List Cho}{W W':World}(h:iD W base v L)(hs:gB b W W'):iD W' base v L:=by
 refine⟨h.1,?_⟩;rcases h.2 with h2|⟨g,cap,cur,hv,hg,hb,r⟩
 ·exact .inl h2
 ·exact .inr ⟨g,cap,cur,hv,hg,hs.blk hb (by decide),r⟩
section
variable{H:List Txn}{A:Option Addr}{c:Nat}{level:Int}{vl:Value}{L:List Cho}{E:au}{base:Nat}
theorem JO:∀j (vs vs':Nat→Value) w,(∀k,k=j∨k∈fu j→vs k=vs' k)→iM H A c level vl L E base j vs w→iM H A c level vl L E base j vs' w:=by
 intro j vs vs' w hk h
 match j,h with
 |0,h|1,h|2,h|3,h|4,h|5,h|6,h|7,h|8,h|9,h|11,h=>
  simp only[iM]at h⊢;rw[←hk _ (.inl rfl)];exact h
 |10,h=>
  simp only[iM]at h⊢;rw[←hk 9 (.inr (by simp[fu])),←hk 7 (.inr (by simp[fu]))];exact h
 |n+12,_=>trivial
theorem DJ:∀i j (vs:Nat→Value) w w',j≠i→j∉(fun _=>[]:Nat→List Nat) i→iM H A c level vl L E base j vs w→qm base i w w'→iM H A c level vl L E base j vs w':=by
 intro i j vs w w' hne _ h hs;have hv:gB base w w':=by
  unfold qm at hs;split at hs
  ·exact hs
  ·exact gB.of_below hs
 match j,h with
 |0,h|1,h|2,h|3,h|8,h|11,h=>exact h
 |4,h=>
  simp only[iM]at h⊢;exact gB.own h hv
 |7,h=>
  simp only[iM]at h⊢;exact h.var hv
 |5,h|6,h=>
  simp only[iM]at h⊢;obtain⟨u,h1,h2⟩:=h;exact⟨u,h1,h2.var hv⟩
 |9,h=>
  simp only[iM]at h⊢;exact ze.var h hv
 |10,h=>
  unfold qm at hs;rw[if_neg (fun e=>hne e.symm)]at hs;simp only[iM]at h⊢;obtain⟨g,x,y,h1,h2,h3,h4⟩:=h;exact⟨g,x,y,h1,h2,h3,h4.below hs h4.lt⟩
 |n+12,_=>trivial
end
theorem DK{H:List Txn}(hr:ay H=true)(path:List Int):gW H (nW H path)=true:=by
 unfold gW nW;have hl:=uD hr;have h1:((cK H).filterMap (gH path)).length≤(cK H).length:=List.length_filterMap_le _ _;rw[hr,Bool.true_and,Bool.and_eq_true,List.all_eq_true];refine⟨by simp;omega,fun c hc=> ?_⟩;obtain⟨p,hp,hpc⟩:=List.mem_filterMap.1 hc;have h2:=FX hp;unfold gH at hpc;split at hpc
 ·cases hpc
 ·split at hpc
  ·injection hpc with hpc;subst hpc;exact zW h2
  ·injection hpc with hpc;subst hpc;exact h2
 ·injection hpc with hpc;subst hpc;exact h2
 ·injection hpc with hpc;subst hpc;exact zW h2
theorem GQ{K:Nat→Prop}{w w':World}{base:Nat}{e:TypeId}{size n:Nat}{v:Value}{xs:List Value}(h:w.ownsRow base e size v n xs)(ha:Agree K w w')(hK:∀g,base≤g→K g):w'.ownsRow base e size v n xs:=by
 refine⟨h.1,?_⟩;rcases h.2 with h2|⟨g,cap,cur,hv,hg,hb,r⟩
 ·exact .inl h2
 ·exact .inr ⟨g,cap,cur,hv,hg,(ha g (hK g hg)).trans hb,r⟩
theorem JQ {w':World} {K:Nat→Prop} {B gL:Nat} {left:List (List Int)} {cur:Array Value} (hL:Blk w' gL 33 cur) (hc:cur.size=left.length) (hB:B≤gL) (h63:left.length≤maxLen)
 (hrows:∀j (hj:j<left.length),∃v,cur[j]?=some v∧aB w' K v left[j]):bA 1 dP w' K B 33 (.slice (some ⟨gL,0,none⟩) left.length left.length) left:=by
 have hfl:(cur.toList.map fun v=>[v]).flatten=cur.toList:=by
  generalize cur.toList=l
  induction l with
  |nil=>rfl
  |cons a l ih=>simp[ih]
 refine⟨cur.toList.map fun v=>[v],⟨?_,.inr ⟨gL,left.length,cur,rfl,hB,hL,Nat.le_refl _,h63,by rw[hc,Nat.mul_one],?_⟩⟩,by simp[hc],fun i cs x h1 h2=> ?_⟩
 ·rw[hfl];simp[hc]
 ·rw[hfl,List.take_of_length_le (by simp[hc])]
 ·obtain⟨hi,rfl⟩:=List.getElem?_eq_some_iff.1 h2;obtain⟨v,h3,h4⟩:=hrows i hi;rw[List.getElem?_map]at h1;have h3':cur.toList[i]?=some v:=(by rw[←h3];simp);rw[h3']at h1;injection h1 with h1
  subst h1;exact⟨rfl,_,rfl,h4⟩
end Go.Proofs.YtfhnamomiaekdaaGreatDoor
