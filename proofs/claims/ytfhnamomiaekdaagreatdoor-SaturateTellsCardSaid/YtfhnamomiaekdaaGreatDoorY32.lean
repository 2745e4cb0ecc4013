/-
  Walks: layer 22's reference: whether each fact follows from those ahead of it.
-/
import Derived.Test.YtfhnamomiaekdaaGreatDoorY31
import Derived.Test.YtfhnamomiaekdaaGreatDoorY13
import Derived.Test.YtfhnamomiaekdaaGreatDoorY05
import Derived.Test.YtfhnamomiaekdaaGreatDoorY06
import Derived.Test.YtfhnamomiaekdaaGreatDoorY17
import Derived.Test.YtfhnamomiaekdaaGreatDoorY14
import Derived.Test.YtfhnamomiaekdaaGreatDoorY15
import Derived.Test.YtfhnamomiaekdaaGreatDoorY29
import Derived.Test.YtfhnamomiaekdaaGreatDoorY08
set_option linter.unusedVariables false
set_option linter.unusedSimpArgs false
namespace Go.Proofs.YtfhnamomiaekdaaGreatDoor
open Go.RowKit Go.Inq
set_option maxHeartbeats 8000000
attribute [local go_sem↓] Go.wp_at_zero Go.wp_at_succ
theorem MB{H:List Txn}{level:Int}{L:List Fct}(h:lQ H level=false):dA H level L=false:=by
 unfold dA;rw[h,Bool.and_false]
set_option maxRecDepth 100000 in
theorem qF(A:Option Addr)(c:Nat)(H:List Txn)(level:Int)(Al:Option Addr)(cl:Nat)(L:List Fct)(w:World)(h:aF w (Old w) (.slice A H.length c) H)(hn:aB H)(hL:bF w (Old w) (.slice Al L.length cl) L)(hF:uw L)(hl:L.length≤100000):
 Calls Tryz.prog 57 #[.agg #[.slice A H.length c],.int .i64 level,.slice Al L.length cl] w fun e w'=>e= .returned (.bool (dA H level L))∧Below w.heap.size w w':=by
 obtain⟨W0,hW0⟩:∃W0,w.alloc (.cells #[.slice A H.length c] 24)=W0:=⟨_,rfl⟩;have hB:=ah (Below.refl w.heap.size w) hW0 (Nat.le_refl _);have k0:=Blk.newEq hW0;have hrc:=hide (gG A c H W0 (h.below hB) hn);have hho:=hide (fun i (hi:i<L.length) Ay cy W (hb:Below w.heap.size w W) (hy:aI W (Old W) (.slice Ay L[i].cyc.length cy) L[i].cyc)=>(by
  have hlt:(L.take i).length=i:=(by rw[List.length_take];omega);have:=tL A c H level Al cl (L.take i) L[i] Ay cy W (h.below hb) hn (by rw[hlt];exact(hL.below hb).take (by omega)) (by omega) hy (hF.2 _ (List.getElem_mem hi));rw[hlt]at this;exact this:Calls Tryz.prog 120 #[.agg #[.slice A H.length c],.int .i64 level,.slice Al i cl,.agg #[.int .i64 L[i].c.key,.int .i64 L[i].c.a,.int .i64 L[i].c.b,.int .i64 L[i].kind,.int .i64 L[i].i,.int .i64 L[i].j,.slice Ay L[i].cyc.length cy]] W fun e w'=>e= .returned (.bool (aR H level (L.take i) L[i]))∧Below W.heap.size W w'))
 have hno:=hide (fun i (hi:i<L.length)=>Gt (H:=H) (level:=level) hi);have hst:=hide (fun i (hi:i<L.length)=>zJ (H:=H) (level:=level) hi);have hend:=hide (Cx (H:=H) (level:=level) (L:=L));have hmay:=hide (MB (H:=H) (level:=level) (L:=L));obtain⟨r,hr⟩:∃r,dA H level L=r:=⟨_,rfl⟩;rw[hr]at hno hend hmay;rw[hr];replace hL:=hide hL;have hcap:=hide hL.out.cap;replace hF:=hide hF;have c0:=Blk.n0 k0;have hme:=hide (GQ (H:=H) (level:=level));obtain⟨rt,hrt⟩:∃rt,aC H=rt:=⟨_,rfl⟩;rw[hrt]at hme hrc;clear h hr hrt;go_enter Tryz.func57,Tryz.ntmps57;go_wp2_with fail;clear hW0;refine hrc.out.mono ?_;rintro e w1 ⟨rfl,hb1⟩;have hB1:=hB.trans (hb1.mono hB.size);replace k0:=k0.below hb1 k0.lt;clear hrc hb1 hB c0;cases rt with
 |false=>
  obtain rfl:=hmay.out (by rw[hme.out];rfl);clear hme hmay hno hst hend hho;go_wp2;go_ret;exact⟨rfl,hB1⟩
 |true=>
  by_cases hlv:level=0∨level=1
  ·have hlb:=vE hlv;have hmt:lQ H level=true:=(by rw[hme.out];rcases hlv with rfl|rfl<;>rfl);have MC:=hide (fun e=>(hend.out e).symm.trans hmt);clear hlv hmt hme hmay hend;rcases hlb with hlb|⟨hlb,QE⟩;all_goals
    go_upto_region 5 with fail;go_loopw [8] (fun s11 wr=>∃k:Nat,k≤L.length∧s11= .int .i64 (k:Int)∧Hid (iU H level L k=true)∧Blk wr w.heap.size 24 #[.slice A H.length c]∧Below w.heap.size w wr) (fun s11 _=>L.length-(intOf s11).toNat);case atStart=>exact⟨0,by omega,by go_num,hide rfl,k0,hB1⟩
    case round=>
     clear k0 hB1;obtain⟨Wo,rfl⟩:∃Wo,Wo=wr:=⟨_,rfl⟩;obtain⟨k,hk,rfl,hrp,k0,hb⟩:=hrel;have hk0:(0:Int)≤(k:Int):=Int.natCast_nonneg _;by_cases hlt:k<L.length
     ·have hk1:(k:Int)<(L.length:Int):=(by omega);have hkc:k≤cl:=(by have:=hcap.out;omega);have Q6:(k:Int)≤(cl:Int):=(by omega);obtain⟨b,off,Ay,cy,rfl,-,d⟩:=(hL.out.below hb).at_ hlt;obtain⟨d0,d1,d2,d3,d4,d5,d6,dy⟩:=d;have hn1:=hide (hno.out k hlt);have hs1:=hide (hst.out k hlt hrp.out);have hcl:=hide (hho.out k hlt Ay cy _ hb.drew (aI.keep dy (Agree.drew _ _) (fun b h=>h)));generalize aR H level (L.take k) L[k]=q at*;generalize L[k]=f at*;obtain⟨⟨fk,fa,fb⟩,fd,fi,fj,fy⟩:=f;dsimp only at d0 d1 d2 d3 d4 d5 d6 hcl;clear dy hho hno hst;have c0:=Blk.n0 k0;go_upto_region 7 with fail;refine aY [0,1,2,3,4,5,6,7,8] [9,10] (by kernel_rfl) (by kernel_rfl) (fun _ _ d _ _ h=>by cases d<;>exact h) ?_;simp only[List.filterMap_cons,List.filterMap_nil,gZ,gS];repeat still_step
      refine wpStill_nil ?_;go_wp2_with fail;refine hcl.out.mono ?_;rintro e w1 ⟨rfl,hb1⟩;have hb2:=(aX hb).trans (hb1.mono hb.size);have k1:=k0.drew.below hb1 k0.lt;clear hcl c0 d0 d1 d2 d3 d4 d5 d6;cases q with
      |false=>
       obtain rfl:r=false:=hn1.out rfl;clear hn1 hs1 MC;go_wp2;go_ret;exact⟨rfl,hb2⟩
      |true=>
       have hs2:=hide (hs1.out rfl);clear hn1 hs1;go_wp2;go_roundw;case rel=>exact⟨k+1,by omega,by go_num,hs2,k1,hb2⟩
       case measure=>simp[intOf];omega
     ·obtain rfl:k=L.length:=(by omega);obtain rfl:=MC.out hrp.out;clear hno hst hho MC;go_wp2;go_ret;exact⟨rfl,hb⟩
  ·have h0:(level !=0)=true:=(by rw[bne_iff_ne];omega);have h1:(level !=1)=true:=(by rw[bne_iff_ne];omega);obtain rfl:=hmay.out (by rw[hme.out,h0,h1];rfl);clear hlv hme hmay hno hst hend hho;go_wp2;go_ret;exact⟨rfl,hB1⟩
set_option maxHeartbeats 1000000
theorem Ae(A:Option Addr)(c:Nat)(l:List Int)(x:Int)(K:Nat→Prop)(w:World)(h:aI w K (.slice A l.length c) l)(hn:l.length≤1000000000):
 Calls Tryz.prog 201 #[.slice A l.length c,.int .i64 x] w fun e w'=>e= .returned (.bool (l.contains x))∧w=w':=by
 replace h:=hide h;generalize hq:l.contains x=r;replace hq:=hide hq;go_enter Tryz.func201,Tryz.ntmps201;go_wp2
 go_loop [5] (fun s5=>∃k:Nat,k≤l.length∧s5= .int .i64 k∧Hid ((l.take k).contains x=false)) (fun s5=>l.length-(intOf s5).toNat)
 case atStart=>exact⟨0,Nat.zero_le _,by go_num,hide rfl⟩
 case round=>
  obtain⟨k,hk,rfl,hc⟩:=hrel;have hk1:(0:Int)≤(k:Int):=Int.natCast_nonneg _;by_cases hlt:k<l.length
  ·have hki:(k:Int)<(l.length:Int):=(by omega);obtain⟨b,off,rfl,-,x1⟩:=h.out.at_ hlt;have hst:Hid ((l.take (k+1)).contains x=((l.take k).contains x||l[k]==x)):=hide (by rw[take_snoc' hlt,List.contains_append];congr 1;rw[List.contains_cons,List.contains_nil,Bool.or_false];rw[Bool.eq_iff_iff,beq_iff_eq,beq_iff_eq];exact eq_comm);have hin:Hid ((l[k]==x)=true→r=true):=hide (fun e=>by rw[←hq.out,List.contains_iff_mem];have:=eq_of_beq e;subst this;exact List.getElem_mem hlt);generalize l[k]=y at*;cases hy:(y==x)with
   |true=>
    have hr:=hide (hin.out hy);clear hin hst;replace hc:=hide hc;go_wp2;go_ret;exact⟨by rw[hr.out];rfl,rfl⟩
   |false=>
    have hr:Hid ((l.take (k+1)).contains x=false):=hide (by rw[hst.out,hc.out,hy];rfl);clear hin hst;replace hc:=hide hc;go_wp2
    go_round
    case rel=>exact⟨k+1,by omega,by go_num,hr⟩
    case measure=>simp[intOf];omega
  ·obtain rfl:k=l.length:=(by omega);have hr:Hid (r=false):=hide (by have:=hc.out;rw[List.take_length]at this;rw[←hq.out];exact this);replace hc:=hide hc;go_wp2;go_ret;exact⟨by rw[hr.out];rfl,rfl⟩
set_option maxHeartbeats 4000000
def tN(E:aj)(l:List Int)(v j:Nat):Bool:=(List.range j).any fun x=>E x v&& !l.contains (x:Int)
theorem F9(E:aj)(l:List Int)(v j:Nat):tN E l v (j+1)=(tN E l v j||(E j v&& !l.contains (j:Int))):=by
 unfold tN;rw[List.range_succ,List.any_append];simp
def jY(n:Nat)(E:aj)(l:List Int)(v:Nat):Bool:= !l.contains (v:Int)&& !tN E l v n
def vF(n:Nat)(E:aj)(l:List Int):Int:=match (List.range n).find? (jY n E l)with
 |some v=>(v:Int)
 |none=> -1
theorem Ga{n:Nat}{E:aj}{l:List Int}{i:Nat}(hi:i<n)(h0:∀v,v<i→jY n E l v=false)(h:jY n E l i=true):vF n E l=i:=by
 unfold vF;have:(List.range n).find? (jY n E l)=some i:=by
  rw[List.find?_range_eq_some];exact⟨h,by simpa using hi,fun v hv=>by simp[h0 v hv]⟩
 rw[this]
theorem Gb{n:Nat}{E:aj}{l:List Int}(h0:∀v,v<n→jY n E l v=false):vF n E l= -1:=by
 unfold vF;have:(List.range n).find? (jY n E l)=none:=by
  rw[List.find?_eq_none];intro v hv;simp[h0 v (by simpa using hv)]
 rw[this]
set_option maxRecDepth 100000 in
theorem DW(n:Nat)(A:Option Addr)(c:Nat)(E:aj)(Al:Option Addr)(cl:Nat)(l:List Int)(K:Nat→Prop)(w:World)(h:GrS w K n A c E)(hl:aI w K (.slice Al l.length cl) l)(hK:∀b,K b→b<w.heap.size)(hll:l.length≤1000000000):
 Calls Tryz.prog 143 #[.agg #[.int .i64 n,.slice A n c],.slice Al l.length cl] w fun e w'=>e= .returned (.int .i64 (vF n E l))∧Below w.heap.size w w':=by
 have hB:Below w.heap.size w (w.alloc (.cells #[.int .i64 n,.slice A n c] 140)):=(Below.refl _ _).alloc (Nat.le_refl _) _;have kG:=Blk.new w 140 #[.int .i64 n,.slice A n c];have hg:=hide (h.keep (Agree.below hB hK) (fun b hb=>hb));have hl0:=hide (hl.keep (Agree.below hB hK) (fun b hb=>hb));have hsz:=hB.size;have hK0:∀b,K b→b<(w.alloc (.cells #[.int .i64 n,.slice A n c] 140)).heap.size:=fun b hb=>Nat.lt_of_lt_of_le (hK b hb) hsz;clear h hl;have dG:=hg.out.n64;go_enter Tryz.func143,Tryz.ntmps143;go_upto_region 1 with fail;generalize w.alloc (.cells #[.int .i64 n,.slice A n c] 140)=W at*;go_wp2_with fail;go_loopw [5] (fun s5 wr=>∃i:Nat,i≤n∧s5= .int .i64 i∧Hid (∀v,v<i→jY n E l v=false)∧Below W.heap.size W wr) (fun s5 _=>n-(intOf s5).toNat);case atStart=>exact⟨0,Nat.zero_le _,by go_num,fun v hv=>absurd hv (by omega),Below.refl _ _⟩
 case round=>
  obtain⟨i,hi,rfl,hall,hbr⟩:=hrel;obtain⟨Wr,rfl⟩:∃Wr,Wr=wr:=⟨_,rfl⟩;have hi1:(0:Int)≤(i:Int):=Int.natCast_nonneg _;have kr:=kG.below hbr kG.lt;have c0:=Blk.n0 kr;have hlr:=hide (hl0.out.keep (Agree.below hbr hK0) (fun b hb=>hb));by_cases hlt:i<n
  ·have hi2:(i:Int)<(n:Int):=(by omega);have hst:Hid (jY n E l i=false→∀v,v<i+1→jY n E l v=false):=hide (fun g v hv=>by
    by_cases e:v=i
    ·subst e;exact g
    ·exact hall v (by omega))
   have hyes:Hid (jY n E l i=true→vF n E l=i):=hide (fun g=>Ga hlt hall g);have hfr:Hid (jY n E l i=(!l.contains (i:Int)&& !tN E l i n)):=hide rfl;generalize jY n E l i=fb at*;have hin:=Ae Al cl l (i:Int) K Wr hlr.out hll;generalize l.contains (i:Int)=ct at*;replace hall:=hide hall;go_wp2_with fail;refine hin.mono ?_;rintro e w1 ⟨rfl,rfl⟩;clear hin;cases ct with
   |true=>
    have hr:=hide (hst.out (by rw[hfr.out];rfl));clear hst hyes hfr;go_wp2;go_roundw;case rel=>exact⟨i+1,by omega,by go_num,hr.out,hbr⟩
    case measure=>simp[intOf];omega
   |false=>
    go_wp2_with fail;go_loopw [7,8] (fun s7 s8 wq=>∃j:Nat,j≤n∧s8= .int .i64 j∧s7= .bool (tN E l i j)∧Below W.heap.size W wq) (fun _ s8 _=>n-(intOf s8).toNat);case atStart=>exact⟨0,Nat.zero_le _,by go_num,rfl,hbr⟩
    case round=>
     obtain⟨j,hj,rfl,rfl,hbq⟩:=hrel;obtain⟨Wq,rfl⟩:∃Wq,Wq=wr:=⟨_,rfl⟩;have hj1:(0:Int)≤(j:Int):=Int.natCast_nonneg _;clear c0;have kq:=kG.below hbq kG.lt;have c0:=Blk.n0 kq;have c1:=Blk.n1 kq;have hlq:=hide (hl0.out.keep (Agree.below hbq hK0) (fun b hb=>hb));have hgq:=hide (hg.out.keep (Agree.below hbq hK0) (fun b hb=>hb));by_cases hjl:j<n
     ·have hj2:(j:Int)<(n:Int):=(by omega);have hsu:=hide (F9 E l i j);have hin:=Ae Al cl l (j:Int) K Wq hlq.out hll;have hha:=hide (fZ n A c E j i K Wq hgq.out (fun b hb=>Nat.lt_of_lt_of_le (hK0 b hb) hbq.size) hjl hlt);generalize l.contains (j:Int)=cj at*;generalize E j i=ej at*;generalize tN E l i j=lj at*;go_wp2_with fail;refine hin.mono ?_;rintro e w1 ⟨rfl,rfl⟩;clear hin;go_wp2_with fail;refine hha.out.mono ?_;rintro e w2 ⟨rfl,hb2⟩;have hb3:=hbq.trans (hb2.mono hbq.size);clear hha c0 c1;cases lj<;>cases ej<;>cases cj;all_goals
       go_wp2;go_roundw;case rel=>exact⟨j+1,by omega,by go_num,by rw[hsu.out];rfl,hb3⟩
       case measure=>simp[intOf];omega
     ·obtain rfl:j=n:=(by omega);generalize tN E l i j=lj at*;cases lj with
      |true=>
       have hr:=hide (hst.out (by rw[hfr.out];rfl));clear hst hyes hfr;go_wp2;go_roundw;case rel=>exact⟨i+1,by omega,by go_num,hr.out,hbq⟩
       case measure=>simp[intOf];omega
      |false=>
       have hr:=hide (hyes.out (by rw[hfr.out];rfl));clear hst hyes hfr;go_wp2;go_ret;exact⟨by rw[hr.out];rfl,hB.trans (hbq.mono hsz)⟩
  ·obtain rfl:i=n:=(by omega);have hr:=hide (Gb hall);replace hall:=hide hall;go_wp2;go_ret;exact⟨by rw[hr.out];rfl,hB.trans (hbr.mono hsz)⟩
theorem pE(L:List Nat)(v:Nat):(au L).contains (v:Int)=L.contains v:=by
 unfold au;rw[Bool.eq_iff_iff,List.contains_iff_mem,List.contains_iff_mem,List.mem_map];exact⟨fun⟨a,h,e⟩=>by rw[←Int.ofNat_inj.1 e];exact h,fun h=>⟨v,h,rfl⟩⟩
theorem Gc{n:Nat}{E:aj}{L:List Nat}(v:Nat):jY n E (au L) v=(!L.contains v&&(List.range n).all fun x=> !E x v||L.contains x):=by
 unfold jY tN;rw[pE,List.not_any_eq_all_not];congr 2;funext x;rw[pE,Bool.not_and,Bool.not_not]
theorem Gd(n:Nat)(E:aj)(L:List Nat):vF n E (au L)=match jm n E L with|some v=>(v:Int)|none=> -1:=by
 unfold vF jm;have:jY n E (au L)=fun v=> !L.contains v&&(List.range n).all fun x=> !E x v||L.contains x:=funext fun v=>Gc v;rw[this];all_goals (cases List.find? (fun v=> !L.contains v&&(List.range n).all fun x=> !E x v||L.contains x) (List.range n)<;>rfl)
set_option maxRecDepth 100000 in
theorem BH(n:Nat)(A:Option Addr)(c:Nat)(E:aj)(K:Nat→Prop)(w:World)(h:GrS w K n A c E)(hK:∀b,K b→b<w.heap.size):
 Calls Tryz.prog 79 #[.agg #[.int .i64 n,.slice A n c]] w (lH w (fK n E)):=by
 obtain⟨ii,hii,hi1,hi2,hi3⟩:=info_parts gW;have dG:=h.n64;have hB:Below w.heap.size w (w.alloc (.cells #[.int .i64 n,.slice A n c] 140)):=(Below.refl _ _).alloc (Nat.le_refl _) _;have kG:=Blk.new w 140 #[.int .i64 n,.slice A n c];have hsz:=hB.size;have hg:=hide (h.keep (Agree.below hB hK) (fun b hb=>hb));have hK0:∀b,K b→b<(w.alloc (.cells #[.int .i64 n,.slice A n c] 140)).heap.size:=fun b hb=>Nat.lt_of_lt_of_le (hK b hb) hsz;clear h;go_enter Tryz.func79,Tryz.ntmps79;go_upto_region 1 with fail;generalize w.alloc (.cells #[.int .i64 n,.slice A n c] 140)=W at*;have c0:=Blk.n0 kG;have c1:=Blk.n1 kG;go_wp2_with fail;refine(sD n A c E K W hg.out hK0).mono ?_;rintro e w1 ⟨rfl,hb1⟩;clear c0 c1;have k1:=kG.below hb1 kG.lt;have c0:=Blk.n0 k1;have hs1:=hb1.size;go_wp2_with fail;go_loopw [5] (fun s5 wr=>∃(k:Nat) (L:List Nat),k≤n∧Hid (bX n E k=some L)∧aS wr w1.heap.size s5 (au L)∧Below w1.heap.size w1 wr) (fun s5 _=>n-(match s5 with| .slice _ m _=>m|_=>0));case atStart=>exact⟨0,[],Nat.zero_le _,hide rfl,aS.nil _ _,Below.refl _ _⟩
 case round=>
  obtain⟨k,L,hk,hL,hown,hbr⟩:=hrel;obtain⟨Wr,rfl⟩:∃Wr,Wr=wr:=⟨_,rfl⟩;have hLk:=fU hL.out;have hlen:(au L).length=k:=(by unfold au;simpa using hLk);obtain⟨Ao,co,rfl⟩:=aS.form hown;clear c0;have kr:=k1.below hbr k1.lt;have c0:=Blk.n0 kr;have c1:=Blk.n1 kr;have hbw:=hb1.trans (hbr.mono hs1);have hgr:=hide (hg.out.keep (Agree.below hbw hK0) (fun b hb=>hb));have hKr:∀b,K b→b<Wr.heap.size:=fun b hb=>Nat.lt_of_lt_of_le (hK0 b hb) hbw.size;have hfx:=hide (Gd n E L);have hsl:=hide (aS.sl (K:=Old Wr) hown (fun g _ h=>h));have hlo:=hide hlen;rw[hlen]at hown hsl;replace hown:=hide hown;clear hlen;by_cases hlt:k<n
  ·have hlt2:decide ((k:Int)<(n:Int))=true:=(by simpa using hlt);have hlt3:decide (k<n)=true:=(by simpa using hlt);rw[hlo.out];have hfc:=hide (DW n A c E Ao co (au L) (fun b=>K b∨b<Wr.heap.size) Wr (hgr.out.keep (Agree.refl _ _) (fun b h=> .inl h)) (by rw[hlo.out];exact hsl.out.keep (Agree.refl _ _) (fun b h=> .inr h)) (fun b hb=>by rcases hb with h|h;exact hKr b h;exact h) (by rw[hlo.out];omega));rw[hlo.out,hfx.out]at hfc;go_wp2_with fail;refine hfc.out.mono ?_;clear hfc;rintro e w2 ⟨rfl,hb2⟩;have vS:=hbr.trans (hb2.mono hbr.size);have hown2:=own_below hown.out hb2 (Nat.le_refl _);cases hnt:jm n E L with
   |none=>
    have hf:=hide (qu6q hlt hL.out hnt);have hbz:=hB.trans ((hb1.trans (vS.mono hs1)).mono hsz);clear hnt hfx;dsimp only;go_wp2;exact bodyPost_ret (v:= .tuple #[.slice none 0 0,.bool false]) (by simp[results,Tryz.results79,go_sem]) rfl (by rw[hf.out];exact lH.no hbz)
   |some v=>
    have hL2:=hide (tC hL.out hnt);have hvn:=Dh hnt;clear hnt hfx;dsimp only;have hv0:decide ((v:Int)<0)=false:=(by simp);have hit:Hid (au L++[(v:Int)]=au (L++[v])):=hide (by unfold au;simp);have hown3:Hid (w2.ownsRow w1.heap.size 3 1 (.slice Ao (au L).length co) (au L).length ((au L).map Go.Inq.encI).flatten):=hide (by
     have:=hown2;unfold aS at this;rw[hlo.out]at this⊢;exact this)
    have hlk:Hid ((L++[v]).length=k+1):=hide (fU hL2.out);have hDl:(au L).length≤64:=(by rw[hlo.out];omega);rw[←hlo.out];generalize hD:au L=D at*;have hkD:D.length+1≤maxLen:=(by unfold maxLen;omega);have hkb:(D.length+1)*8≤140737488355328:=(by omega);have hsw:w1.heap.size≤w2.heap.size:=vS.size;replace hD:=hide hD;go_wp2_with (at_builtin;go_loud (refine aT (enc:=Go.Inq.encI) rfl (.tmp 21) (.tmp 23) 33 rfl w1.heap.size 3 ii _ 1 8 Tryz.underlying33 hii hi1 hi2 hi3 rfl (by decide) (.slice Ao D.length co) D rfl hown3.out (fun _=>rfl) (v:Int) _ rfl rfl Go.Inq.fH hkD hkb hsw w1 w1.heap.size (Nat.le_refl _) vS ?_);intro v1 w6 hown1 hg1 hbz ji);go_roundw;case rel=>exact⟨k+1,L++[v],by omega,hL2,by rw[←hit.out];exact hown1,hbz⟩
    case measure=>
     obtain⟨A6,c6,e6⟩:=bY hown1;rw[e6];have:=hlo.out;simp;omega
  ·obtain rfl:k=n:=(by omega);have hf:Hid (fK k E=some L):=hide hL.out;have hbz:=hB.trans ((hb1.trans (hbr.mono hs1)).mono hsz);have hos:Hid (aS Wr w.heap.size (.slice Ao k co) (au L)):=hide (own_base' hown.out (Nat.le_trans hsz hs1));have hlt2:decide ((k:Int)<(k:Int))=false:=(by simp);rw[hlo.out];go_wp2;exact bodyPost_ret (v:= .tuple #[.slice Ao k co,.bool true]) (by simp[results,Tryz.results79,go_sem]) rfl (by rw[hf.out];exact lH.yes hos.out hbz)
def iO(w:World)(g cap n:Nat)(D:Nat→Nat):Prop:=∃cur:Array Value,Blk w g 3 cur∧cur.size=cap∧n≤cap∧cap≤maxLen∧∀x,x<n→cur[x]?=some (.int .i64 ((D x:Nat):Int))
theorem iO.of{w:World}{base:Nat}{v:Value}{n:Nat}{D:Nat→Nat}(h:aS w base v (au ((List.range n).map D)))(hn:0<n):∃g cap,base≤g∧v= .slice (some ⟨g,0,none⟩) n cap∧iO w g cap n D:=by
 have hl:(au ((List.range n).map D)).length=n:=(by simp[au]);unfold aS at h;rw[hl]at h;rcases h.2 with⟨_,h2⟩|⟨g,cap,cur,hv,hg,hb,h1,h2,h3,h4⟩
 ·omega
 ·refine⟨g,cap,hg,hv,cur,hb,by simpa using h3,h1,h2,fun x hx=> ?_⟩;have e1:(((au ((List.range n).map D)).map Go.Inq.encI).flatten)[x]?=some (.int .i64 ((D x:Nat):Int)):=by
   have:((au ((List.range n).map D)).map Go.Inq.encI).flatten=(List.range n).map fun y=>Value.int .i64 ((D y:Nat):Int):=by
    unfold au;rw[List.map_map,List.map_map]
    induction List.range n with
    |nil=>rfl
    |cons a l ih=>simp[Go.Inq.encI]at ih⊢;exact ih
   rw[this,List.getElem?_map,List.getElem?_range hx];rfl
  rw[←h4,List.getElem?_take]at e1;have hx1:x<n*1:=(by omega);rw[if_pos hx1]at e1;simpa using e1
theorem iO.below{w w':World}{g cap n:Nat}{D:Nat→Nat}(h:iO w g cap n D){B:Nat}(hb:Below B w w')(hg:g<B):iO w' g cap n D:=by
 obtain⟨cur,h1,h2⟩:=h;exact⟨cur,h1.below hb hg,h2⟩
theorem iO.lt{w:World}{g cap n:Nat}{D:Nat→Nat}(h:iO w g cap n D):g<w.heap.size:=by obtain⟨cur,h1,-⟩:=h;exact h1.lt
theorem iO.cell{w:World}{g cap n:Nat}{D:Nat→Nat}(h:iO w g cap n D){x:Nat}(hx:x<n):w.cell? ⟨g,x,none⟩=some (.int .i64 ((D x:Nat):Int))∧w.frozen? ⟨g,x,none⟩=false:=by
 obtain⟨cur,h1,h2,h3,h4,h5⟩:=h;exact⟨(h1.cell x).trans (h5 x hx),h1.frozen x⟩
theorem iO.put{w:World}{g cap n:Nat}{D F:Nat→Nat}{x:Nat}{u:Value}(h:iO w g cap n D)(hx:x<n)(hu:u= .int .i64 ((F x:Nat):Int))(hF:∀y,y<n→y≠x→F y=D y):iO (w.setCell ⟨g,x,none⟩ u) g cap n F:=by
 obtain⟨cur,h1,h2,h3,h4,h5⟩:=h;refine⟨_,h1.aD x u,by simpa using h2,h3,h4,fun y hy=> ?_⟩;by_cases e:y=x
 ·subst e;rw[hu,Array.getElem?_setIfInBounds_self_of_lt (by omega)]
 ·rw[hF y hy e,←h5 y hy,Array.getElem?_setIfInBounds_ne (Ne.symm e)]
theorem iO.congr{w:World}{g cap n:Nat}{D F:Nat→Nat}(h:iO w g cap n D)(hF:∀y,y<n→F y=D y):iO w g cap n F:=by
 obtain⟨cur,h1,h2,h3,h4,h5⟩:=h;exact⟨cur,h1,h2,h3,h4,fun x hx=>by rw[hF x hx];exact h5 x hx⟩
def tO(n:Nat)(E:aj)(v k x:Nat)(y:Nat):Nat:=if y<x then aZ n E v (k+1) y else aZ n E v k y
def iy(n:Nat)(E:aj)(v k x m:Nat)(y:Nat):Nat:=if y=x then(if aZ n E v k x≠0 then aZ n E v k x else if((List.range m).any fun z=>E x z&&decide (aZ n E v k z=k))=true then k+1 else 0)else tO n E v k x y
theorem JR{n:Nat}{E:aj}{v k x y:Nat}:iy n E v k x 0 y=tO n E v k x y:=by
 unfold iy;by_cases e:y=x
 ·subst e;rw[if_pos rfl];unfold tO;rw[if_neg (Nat.lt_irrefl y)];by_cases h:aZ n E v k y=0
  ·have hh:¬aZ n E v k y≠0:=fun q=>q h;rw[if_neg hh,h];rfl
  ·rw[if_pos h]
 ·rw[if_neg e]
theorem Gf{n:Nat}{E:aj}{v k x:Nat}(hx:x<n):bN n E v (k+1) x=(List.range n).any fun z=>E x z&&decide (aZ n E v (k+1) z=k+1):=by
 show((List.range n).any fun y=>E x y&&decide (bV n E v k y=k+1))=_;rw[Bool.eq_iff_iff,List.any_eq_true,List.any_eq_true];constructor
 ·rintro⟨y,hy,h⟩;refine⟨y,hy,?_⟩;have:aZ n E v (k+1) y=bV n E v k y:=(by unfold aZ;rw[if_pos (List.mem_range.1 hy)]);rw[this];exact h
 ·rintro⟨y,hy,h⟩;refine⟨y,hy,?_⟩;have:aZ n E v (k+1) y=bV n E v k y:=(by unfold aZ;rw[if_pos (List.mem_range.1 hy)]);rw[this]at h;exact h
theorem DX{n:Nat}{E:aj}{v k x m y:Nat}(hk:0<k)(hx:x<n)(hm:m≤n)(h:m=n∨iy n E v k x m x≠0):iy n E v k x m y=tO n E v k (x+1) y:=by
 by_cases e:y=x
 ·subst e;have e1:tO n E v k (y+1) y=aZ n E v (k+1) y:=(by unfold tO;rw[if_pos (by omega)]);rw[e1,pW hx];unfold iy at h⊢;rw[if_pos rfl]at h⊢;by_cases h0:aZ n E v k y=0
  ·have hh:¬aZ n E v k y≠0:=fun q=>q h0;rw[if_neg hh]at h⊢;rw[if_neg hh];obtain⟨j,rfl⟩:∃j,k=j+1:=⟨k-1,by omega⟩;rw[Gf hx];rcases h with rfl|h
   ·rfl
   ·cases q:(List.range m).any fun z=>E y z&&decide (aZ n E v (j+1) z=j+1)with
    |false=>rw[q]at h;simp at h
    |true=>
     have:((List.range n).any fun z=>E y z&&decide (aZ n E v (j+1) z=j+1))=true:=by
      rw[List.any_eq_true]at q⊢;obtain⟨z,hz,hq⟩:=q;exact⟨z,List.mem_range.2 (by have:=List.mem_range.1 hz;omega),hq⟩
     rw[this]
  ·rw[if_pos h0,if_pos h0]
 ·unfold iy;rw[if_neg e];unfold tO;by_cases e2:y<x
  ·rw[if_pos e2,if_pos (by omega)]
  ·rw[if_neg e2,if_neg (by omega)]
theorem JU{n:Nat}{E:aj}{v k x m:Nat}(h0:iy n E v k x m x=0):(E x m&&decide (aZ n E v k m=k))=false→∀y,iy n E v k x (m+1) y=iy n E v k x m y:=by
 intro h y;unfold iy;by_cases e:y=x
 ·rw[if_pos e,if_pos e,List.range_succ,List.any_append];simp only[List.any_cons,List.any_nil,h,Bool.or_false]
 ·rw[if_neg e,if_neg e]
theorem ME{n:Nat}{E:aj}{v k x m:Nat}(h0:iy n E v k x m x=0):(E x m&&decide (aZ n E v k m=k))=true→iy n E v k x (m+1) x=k+1∧∀y,y≠x→iy n E v k x (m+1) y=iy n E v k x m y:=by
 intro h;constructor
 ·unfold iy at h0⊢;rw[if_pos rfl]at h0⊢;have hz:aZ n E v k x=0:=by
   by_cases q:aZ n E v k x=0
   ·exact q
   ·rw[if_pos q]at h0;exact absurd h0 q
  have hh:¬aZ n E v k x≠0:=fun q=>q hz;rw[if_neg hh,List.range_succ,List.any_append];simp only[List.any_cons,List.any_nil,h,Bool.or_true,Bool.or_false,if_true]
 ·intro y e;unfold iy;rw[if_neg e,if_neg e]
theorem Nu{n:Nat}{E:aj}{v k x m z:Nat}(hk:0<k)(hz:z<n):decide (iy n E v k x m z=k)=decide (aZ n E v k z=k):=by
 have key:iy n E v k x m z=aZ n E v k z∨(aZ n E v k z=0∧(iy n E v k x m z=k+1)):=by
  unfold iy;by_cases e:z=x
  ·subst e;rw[if_pos rfl];by_cases h:aZ n E v k z=0
   ·have hh:¬aZ n E v k z≠0:=fun q=>q h;rw[if_neg hh];split
    ·exact .inr ⟨h,rfl⟩
    ·exact .inl h.symm
   ·rw[if_pos h];exact .inl rfl
  ·rw[if_neg e];unfold tO;split
   ·rw[pW hz];by_cases h:aZ n E v k z=0
    ·have hh:¬aZ n E v k z≠0:=fun q=>q h;rw[if_neg hh];split
     ·exact .inr ⟨h,rfl⟩
     ·exact .inl h.symm
    ·rw[if_pos h];exact .inl rfl
   ·exact .inl rfl
 rcases key with e|⟨e1,e2⟩
 ·rw[e]
 ·rw[e1,e2,decide_eq_false (by omega),decide_eq_false (by omega)]
theorem Nv{n:Nat}{E:aj}{v:Nat}(hn:0<n)(x:Nat):eD n E v x=aZ n E v n x:=by
 unfold eD aZ;split
 ·obtain⟨j,rfl⟩:∃j,n=j+1:=⟨n-1,by omega⟩;rfl
 ·rfl
theorem Nw{n:Nat}{E:aj}{v x:Nat}(hx:x<n):aZ n E v 1 x=if E x v=true then 1 else 0:=by
 unfold aZ;rw[if_pos hx];rfl
set_option maxRecDepth 100000 in
theorem Gg(n:Nat)(A:Option Addr)(c:Nat)(E:aj)(v:Nat)(K:Nat→Prop)(w:World)(h:GrS w K n A c E)(hK:∀b,K b→b<w.heap.size)(hv:v<n):
 Calls Tryz.prog 141 #[.agg #[.int .i64 n,.slice A n c],.int .i64 (v:Int)] w fun e w'=>∃g cap,e= .returned (.slice (some ⟨g,0,none⟩) n cap)∧w.heap.size≤g∧iO w' g cap n (eD n E v)∧Below w.heap.size w w':=by
 obtain⟨ii,hii,hi1,hi2,hi3⟩:=info_parts gW;have dG:=h.n64;obtain⟨W,hW⟩:∃W,w.alloc (.cells #[.int .i64 n,.slice A n c] 140)=W:=⟨_,rfl⟩;have hB:=ah (Below.refl w.heap.size w) hW (Nat.le_refl _);have kG:=Blk.newEq hW;have hsz:=hB.size;have hsz1:=aH hW;have hg:=hide (fun W' (hb:Below w.heap.size w W')=>fZ n A c E);have hgr:Hid (∀W',Below w.heap.size w W'→∀a b,a<n→b<n→Calls Tryz.prog 142 #[.agg #[.int .i64 n,.slice A n c],.int .i64 (a:Int),.int .i64 (b:Int)] W' fun e w'=>e= .returned (.bool (E a b))∧Below W'.heap.size W' w'):=
  hide (fun W' hb a b ha hb'=>fZ n A c E a b K W' (h.keep (Agree.below hb hK) (fun b h=>h)) (fun b h=>Nat.lt_of_lt_of_le (hK b h) hb.size) ha hb')
 have hv0:(0:Int)≤(v:Int):=Int.natCast_nonneg _;clear h hg;go_enter Tryz.func141,Tryz.ntmps141;go_upto_region 3 with fail;try rw[hW]
 clear hW;go_loopw [5,6] (fun s5 s6 wr=>∃x:Nat,x≤n∧s6= .int .i64 x∧aS wr W.heap.size s5 (au ((List.range x).map (aZ n E v 1)))∧Below W.heap.size W wr) (fun _ s6 _=>n-(intOf s6).toNat);case atStart=>exact⟨0,Nat.zero_le _,by go_num,aS.nil _ _,Below.refl _ _⟩
 case round=>
  obtain⟨x,hx,rfl,hown,hbr⟩:=hrel;obtain⟨Wr,rfl⟩:∃Wr,Wr=wr:=⟨_,rfl⟩;have hx0:(0:Int)≤(x:Int):=Int.natCast_nonneg _;have kr:=kG.below hbr kG.lt;have c0:=Blk.n0 kr;have c1:=Blk.n1 kr;by_cases hlt:x<n
  ·have hx1:(x:Int)<(n:Int):=(by omega);have hbw:=hB.trans (hbr.mono hsz);have hhc:=hide (hgr.out Wr hbw x v hlt hv);have hlen:(au ((List.range x).map (aZ n E v 1))).length=x:=(by simp[au]);have hit:Hid (∀b,E x v=b→au ((List.range x).map (aZ n E v 1))++[if b=true then(1:Int)else 0]=au ((List.range (x+1)).map (aZ n E v 1))):=hide (by
    rintro b rfl;rw[List.range_succ,List.map_append];unfold au;rw[List.map_append,List.map_cons,List.map_cons,Nw hlt];cases E x v<;>rfl)
   obtain⟨Ao,co,rfl⟩:=aS.form hown;rw[hlen]at hown;have hDl:(au ((List.range x).map (aZ n E v 1))).length≤64:=(by rw[hlen];omega);obtain⟨b,hb⟩:∃b,E x v=b:=⟨_,rfl⟩;have hit2:=hide (hit.out b hb);clear hit;rw[hb]at hhc;clear hb;generalize au ((List.range x).map (aZ n E v 1))=D at*;have hkD:D.length+1≤maxLen:=(by unfold maxLen;omega);have hkb:(D.length+1)*8≤140737488355328:=(by omega);go_wp2_with fail;refine hhc.out.mono ?_;rintro e w2 ⟨rfl,hb2⟩;have vS:=hbr.trans (hb2.mono hbr.size);have hown2:=hide (own_below hown hb2 (Nat.le_refl _));have hsw:W.heap.size≤w2.heap.size:=vS.size;clear hhc hown c0 c1 kr;cases b with
   |true=>
    replace hit2:Hid (D++[(1:Int)]=_):=hit2;go_wp2_with (at_builtin;go_loud (refine aT (enc:=Go.Inq.encI) rfl (.tmp 24) (.tmp 26) 33 rfl W.heap.size 3 ii _ 1 8 Tryz.underlying33 hii hi1 hi2 hi3 rfl (by decide) (.slice Ao x co) D rfl hown2.out (fun _=>rfl) (1:Int) _ rfl rfl Go.Inq.fH hkD hkb hsw W W.heap.size (Nat.le_refl _) vS ?_);intro v1 w6 hown1 hg1 hbz ji);go_roundw;case rel=>exact⟨x+1,by omega,by go_num,by rw[←hit2.out];exact hown1,hbz⟩
    case measure=>simp[intOf];omega
   |false=>
    replace hit2:Hid (D++[(0:Int)]=_):=hit2;go_wp2_with (at_builtin;go_loud (refine aT (enc:=Go.Inq.encI) rfl (.tmp 24) (.tmp 26) 33 rfl W.heap.size 3 ii _ 1 8 Tryz.underlying33 hii hi1 hi2 hi3 rfl (by decide) (.slice Ao x co) D rfl hown2.out (fun _=>rfl) (0:Int) _ rfl rfl Go.Inq.fH hkD hkb hsw W W.heap.size (Nat.le_refl _) vS ?_);intro v1 w6 hown1 hg1 hbz ji);go_roundw;case rel=>exact⟨x+1,by omega,by go_num,by rw[←hit2.out];exact hown1,hbz⟩
    case measure=>simp[intOf];omega
  ·obtain rfl:x=n:=(by omega);obtain⟨g,cap,hg,rfl,hR⟩:=iO.of hown (by omega);have hbw:=hB.trans (hbr.mono hsz);have hgw:w.heap.size+1≤g:=(by omega);have hgl:=hR.lt;have hn0:0<x:=(by omega);clear hown hg hv0 hB hv;go_wp2_with fail;go_loopw [9] (fun s9 wr=>∃k:Nat,1≤k∧k≤x∧s9= .int .i64 k∧iO wr g cap x (aZ x E v k)∧Blk wr w.heap.size 140 #[.int .i64 x,.slice A x c]∧Below w.heap.size w wr) (fun s9 _=>x-(intOf s9).toNat);case atStart=>exact⟨1,Nat.le_refl _,hn0,by go_num,hR,kr,hbw⟩
   case round=>
    clear hR kr hbw c0 c1 hbr hgl;obtain⟨k,hk1,hkx,rfl,hR,kr,hbw⟩:=hrel;obtain⟨Wk,rfl⟩:∃Wk,Wk=wr:=⟨_,rfl⟩;have c0:=Blk.n0 kr;have hk0:(0:Int)≤(k:Int):=Int.natCast_nonneg _;by_cases hkt:k<x
    ·have hk2:(k:Int)<(x:Int):=(by omega);have hR0:iO Wk g cap x (tO x E v k 0):=hR.congr fun y _=>(by unfold tO;rw[if_neg (Nat.not_lt_zero y)]);clear hR;go_wp2_with fail;go_loopw [10] (fun s10 wr=>∃p:Nat,p≤x∧s10= .int .i64 p∧iO wr g cap x (tO x E v k p)∧Blk wr w.heap.size 140 #[.int .i64 x,.slice A x c]∧Below w.heap.size w wr) (fun s10 _=>x-(intOf s10).toNat);case atStart=>exact⟨0,Nat.zero_le _,by go_num,hR0,kr,hbw⟩
     case round=>
      clear hR0 kr hbw c0;obtain⟨p,hp,rfl,hR,kr,hbw⟩:=hrel;obtain⟨Wp,rfl⟩:∃Wp,Wp=wr:=⟨_,rfl⟩;have c0:=Blk.n0 kr;have hp0:(0:Int)≤(p:Int):=Int.natCast_nonneg _;by_cases hpt:p<x
      ·have hp2:(p:Int)<(x:Int):=(by omega);have hR0:iO Wp g cap x (iy x E v k p 0):=hR.congr fun y _=>JR;clear hR;go_wp2_with fail;go_loopw [11] (fun s11 wr=>∃m:Nat,m≤x∧s11= .int .i64 m∧iO wr g cap x (iy x E v k p m)∧Blk wr w.heap.size 140 #[.int .i64 x,.slice A x c]∧Below w.heap.size w wr) (fun s11 _=>x-(intOf s11).toNat);case atStart=>exact⟨0,Nat.zero_le _,by go_num,hR0,kr,hbw⟩
       case round=>
        clear hR0 kr hbw c0;obtain⟨m,hm,rfl,hR,kr,hbw⟩:=hrel;obtain⟨Wm,rfl⟩:∃Wm,Wm=wr:=⟨_,rfl⟩;have c0:=Blk.n0 kr;have c1:=Blk.n1 kr;have hm0:(0:Int)≤(m:Int):=Int.natCast_nonneg _;obtain⟨dp,fp⟩:=hR.cell hpt;by_cases hmt:m<x
        ·have hm2:(m:Int)<(x:Int):=(by omega);by_cases hz:iy x E v k p m p=0
         ·have hzb:((iy x E v k p m p:Int)==0)=true:=(by simp[hz]);have hhc:=hide (hgr.out Wm hbw p m hpt hmt);obtain⟨b,hb⟩:∃b,E p m=b:=⟨_,rfl⟩;rw[hb]at hhc;have hst:=hide (fun q=>JU (n:=x) (E:=E) (v:=v) (k:=k) (x:=p) (m:=m) hz q);have hht:=hide (fun q=>ME (n:=x) (E:=E) (v:=v) (k:=k) (x:=p) (m:=m) hz q);have hat:=Nu (n:=x) (E:=E) (v:=v) (k:=k) (x:=p) (m:=m) (z:=m) (by omega) hmt;rw[hb,←hat]at hst hht;clear hat hb hz;obtain⟨dm,-⟩:=hR.cell hmt;go_upto_region 20 with fail;refine hhc.out.mono ?_;rintro e w2 ⟨rfl,hb2⟩;have hbw2:=hbw.trans (hb2.mono hbw.size);replace kr:=kr.below hb2 kr.lt;replace hR:=hR.below hb2 hR.lt;have hgl:=hR.lt;clear dm dp fp c0 c1 hhc hb2 hbw;obtain⟨dm,-⟩:=hR.cell hmt;obtain⟨dp,fp⟩:=hR.cell hpt;cases b with
          |false=>
           have hR2:=hR.congr (F:=iy x E v k p (m+1)) fun y _=>hst.out rfl y;clear hst hht;go_wp2;go_roundw;case rel=>exact⟨m+1,by omega,by go_num,hR2,kr,hbw2⟩
           case measure=>simp[intOf];omega
          |true=>
           rw[Bool.true_and]at hst hht;by_cases hq:iy x E v k p m m=k
           ·have hqb:((iy x E v k p m m:Int)==(k:Int))=true:=(by simp[hq]);obtain⟨h1,h2⟩:=hht.out (decide_eq_true hq);have hR2:=hR.put (F:=iy x E v k p (m+1)) (u:= .int .i64 ((k:Int)+1)) hpt (by rw[h1];rfl) (fun y _ e=>h2 y e);have kr2:=kr.far (p:=⟨g,p,none⟩) (show w.heap.size≠g by omega) (.int .i64 ((k:Int)+1));have Ny:=hbw2.setCell (p:=⟨g,p,none⟩) (show w.heap.size≤g by omega) (.int .i64 ((k:Int)+1));clear hst hht hq h1 h2;go_wp2;go_roundw;case rel=>exact⟨m+1,by omega,by go_num,hR2,kr2,Ny⟩
            case measure=>simp[intOf];omega
           ·have hqb:((iy x E v k p m m:Int)==(k:Int))=false:=(by rw[beq_eq_false_iff_ne];omega);have hR2:=hR.congr (F:=iy x E v k p (m+1)) fun y _=>hst.out (decide_eq_false hq) y;clear hst hht hq;go_wp2;go_roundw;case rel=>exact⟨m+1,by omega,by go_num,hR2,kr,hbw2⟩
            case measure=>simp[intOf];omega
         ·have hzb:((iy x E v k p m p:Int)==0)=false:=(by rw[beq_eq_false_iff_ne];omega);have hR2:iO Wm g cap x (tO x E v k (p+1)):=hR.congr fun y _=>(DX (by omega) hpt hm (.inr hz)).symm;clear hz;go_wp2;go_roundw;case rel=>exact⟨p+1,by omega,by go_num,hR2,kr,hbw⟩
          case measure=>simp[intOf];omega
        ·obtain rfl:m=x:=(by omega);have hR2:iO Wm g cap m (tO m E v k (p+1)):=hR.congr fun y _=>(DX (by omega) hpt hm (.inl rfl)).symm;go_wp2;go_roundw;case rel=>exact⟨p+1,by omega,by go_num,hR2,kr,hbw⟩
         case measure=>simp[intOf];omega
      ·obtain rfl:p=x:=(by omega);have hR2:iO Wp g cap p (aZ p E v (k+1)):=hR.congr fun y hy=>(by unfold tO;rw[if_pos hy]);go_wp2;go_roundw;case rel=>exact⟨k+1,by omega,by omega,by go_num,hR2,kr,hbw⟩
       case measure=>simp[intOf];omega
    ·obtain rfl:k=x:=(by omega);have hR2:=hR.congr (F:=eD k E v) fun y _=>Nv hn0 y;go_wp2;go_ret;exact⟨g,cap,rfl,by omega,hR2,hbw⟩
def tQ(n:Nat)(p:Nat→Bool)(m:Nat):Int:=match ((List.range n).drop m).find? p with
 |some y=>(y:Int)
 |none=> -1
theorem MF(n:Nat)(p:Nat→Bool):tQ n p n= -1:=by
 unfold tQ;rw[List.drop_eq_nil_of_le (by simp)];rfl
theorem JV{n m:Nat}{p:Nat→Bool}(h:m<n):tQ n p m=if p m=true then(m:Int)else tQ n p (m+1):=by
 unfold tQ;rw[List.drop_eq_getElem_cons (by simpa using h),List.find?_cons];simp only[List.getElem_range];cases p m<;>rfl
theorem JW{n:Nat}{p:Nat→Bool}{y:Nat}(h:(List.range n).find? p=some y):tQ n p 0=(y:Int):=by
 unfold tQ;rw[List.drop_zero,h]
def tT(n:Nat)(E:aj)(v:Nat)(pre:List Nat)(y j:Nat):Prop:=y<n∧j≤64∧pre.length+j≤64∧bU n E v y=j+1∧eY n E=pre++nN n E (bU n E v) y j
theorem tT.start{n:Nat}{E:aj}{v:Nat}(hn:n≤64)(hv:v<n)(h:∀u,u<v→eD n E u u=0)(h1:eD n E v v≠0):tT n E v [v] v (eD n E v v-1)∧1≤eD n E v v:=by
 have e:eD n E v v=bU n E v v:=(by unfold eD;rw[if_pos hv]);have h2:bU n E v v≤n:=lU hv;have hf:=C8 hv h h1;rw[e]at h1⊢;exact⟨⟨hv,by omega,by simp;omega,by omega,hf⟩,by omega⟩
theorem tT.next{n:Nat}{E:aj}{v:Nat}{pre:List Nat}{y j:Nat}(h:tT n E v pre y (j+1)):∃z:Nat,tQ n (fun z=>E y z&&decide (bU n E v z=j+1)) 0=(z:Int)∧tT n E v (pre++[z]) z j:=by
 obtain⟨h1,h2,h3,h4,h5⟩:=h;obtain⟨z,g1,g2,g3,g4⟩:=qZ h4;refine⟨z,JW g1,g2,by omega,by simp;omega,g4,?_⟩;rw[h5,ru g1,List.append_assoc];rfl
theorem tT.done{n:Nat}{E:aj}{v:Nat}{pre:List Nat}{y:Nat}(h:tT n E v pre y 0):eY n E=pre:=by
 obtain⟨h1,h2,h3,h4,h5⟩:=h;rw[h5];simp[nN]
set_option maxRecDepth 100000 in
theorem pF(n:Nat)(A:Option Addr)(c:Nat)(E:aj)(K:Nat→Prop)(w:World)(h:GrS w K n A c E)(hK:∀b,K b→b<w.heap.size):
 Calls Tryz.prog 76 #[.agg #[.int .i64 n,.slice A n c]] w (yR w (au (eY n E))):=by
 obtain⟨ii,hii,hi1,hi2,hi3⟩:=info_parts gW;have dG:=h.n64;obtain⟨W,hW⟩:∃W,w.alloc (.cells #[.int .i64 n,.slice A n c] 140)=W:=⟨_,rfl⟩;have hB:=ah (Below.refl w.heap.size w) hW (Nat.le_refl _);have kG:=Blk.newEq hW;have hsz:=hB.size;have hsz1:=aH hW;have hgr:Hid (∀W',Below w.heap.size w W'→GrS W' K n A c E∧∀b,K b→b<W'.heap.size):=hide (fun W' hb=>⟨h.keep (Agree.below hb hK) (fun b h=>h),fun b h=>Nat.lt_of_lt_of_le (hK b h) hb.size⟩);have hno:=hide (CZ (n:=n) (E:=E));have c0:=Blk.n0 kG;have c1:=Blk.n1 kG;clear h;go_enter Tryz.func76,Tryz.ntmps76;go_wp2_with fail;try rw[hW]
 clear hW;refine(sD n A c E K W (hgr.out W hB).1 (hgr.out W hB).2).mono ?_;rintro e w1 ⟨rfl,hb1⟩;replace kG:=kG.below hb1 kG.lt;replace hB:=hB.trans (hb1.mono hsz);clear hb1 c0 c1;go_upto_region 5 with fail;go_loopw [4] (fun s4 wr=>∃v:Nat,v≤n∧s4= .int .i64 v∧Hid (∀u,u<v→eD n E u u=0)∧Blk wr w.heap.size 140 #[.int .i64 n,.slice A n c]∧Below w.heap.size w wr) (fun s4 _=>n-(intOf s4).toNat);case atStart=>exact⟨0,Nat.zero_le _,by go_num,hide (fun u hu=>absurd hu (Nat.not_lt_zero u)),kG,hB⟩
 case round=>
  clear kG hB;obtain⟨v,hv,rfl,hall,kr,hbw⟩:=hrel;obtain⟨Wv,rfl⟩:∃Wv,Wv=wr:=⟨_,rfl⟩;have hv0:(0:Int)≤(v:Int):=Int.natCast_nonneg _;have c0:=Blk.n0 kr;have c1:=Blk.n1 kr;by_cases hvt:v<n
  ·have hv1:(v:Int)<(n:Int):=(by omega);have hfr:=hide (Gg n A c E v K Wv (hgr.out Wv hbw).1 (hgr.out Wv hbw).2 hvt);go_wp2_with fail;refine hfr.out.mono ?_;rintro e w2 ⟨g,cap,rfl,hg,hR,hb2⟩;have hbw2:=hbw.trans (hb2.mono hbw.size);replace kr:=kr.below hb2 kr.lt;have hgl:=hR.lt;have hsv:=hbw.size;obtain⟨d0,-⟩:=hR.cell hvt;clear hfr hbw hb2 c0 c1;by_cases hz:eD n E v v=0
   ·have hzb:((eD n E v v:Int)==0)=true:=(by simp[hz]);have gF:Hid (∀u,u<v+1→eD n E u u=0):=hide (fun u hu=>by
     rcases Nat.lt_or_ge u v with q|q
     ·exact hall.out u q
     ·obtain rfl:u=v:=(by omega);exact hz)
    clear hall hz;go_wp2;go_roundw;case rel=>exact⟨v+1,by omega,by go_num,gF,kr,hbw2⟩
    case measure=>simp[intOf];omega
   ·have hzb:((eD n E v v:Int)==0)=false:=(by rw[beq_eq_false_iff_ne];omega);obtain⟨hst,h1⟩:=tT.start dG hvt hall.out hz;have hRE:iO w2 g cap n (bU n E v):=hR.congr fun y hy=>(by unfold eD;rw[if_pos hy]);replace hst:=hide hst;clear hall hz;obtain⟨Wz,hWz⟩:∃Wz,w2.alloc (.cells #[.int .i64 (v:Int)] 3)=Wz:=⟨_,rfl⟩;have kz:=Blk.newEq hWz;have hbz:=(ah (Below.refl w2.heap.size w2) hWz (Nat.le_refl _));have hs2:=hbw2.size;have ho0:aS Wz w2.heap.size (.slice (some ⟨w2.heap.size,0,none⟩) 1 1) (au [v]):=GA kz (Nat.le_refl _);replace kr:=kr.below hbz kr.lt;have hR2:=hRE.below hbz hgl;have Ny:=hbw2.trans (hbz.mono hs2);have d1:=((hR.below hbz hgl).cell hvt).1;clear hR;have hdv:((eD n E v v:Int)-1)=((eD n E v v-1:Nat):Int):=(by omega);go_wp2_with fail;try rw[hWz]
    go_loopw [6,7,8] (fun s6 s7 s8 wr=>∃(pre:List Nat) (y j:Nat),s7= .int .i64 y∧s8= .int .i64 j∧Hid (tT n E v pre y j)∧aS wr w2.heap.size s6 (au pre)∧iO wr g cap n (bU n E v)∧Blk wr w.heap.size 140 #[.int .i64 n,.slice A n c]∧Below w.heap.size w wr∧Below w2.heap.size w2 wr) (fun _ _ s8 _=>(intOf s8).toNat);case atStart=>exact⟨[v],v,eD n E v v-1,by go_num,congrArg _ (Go.IntWalk.wrap64_in _ (by have:=hst.out.2.1;omega)),hst,ho0,hR2,kr,Ny,hbz⟩
    case round=>
     clear ho0 hR2 kr Ny hbz hst d1 d0 kz hWz;obtain⟨pre,y,j,rfl,rfl,hF,hown,hR,kr,hbw,hbz⟩:=hrel;obtain⟨Wy,rfl⟩:∃Wy,Wy=wr:=⟨_,rfl⟩;have hj0:(0:Int)≤(j:Int):=Int.natCast_nonneg _;have hlen:=aN pre;obtain⟨Ao,co,rfl⟩:=aS.form hown;rw[hlen]at hown⊢;have c0:=Blk.n0 kr;have c1:=Blk.n1 kr;cases j with
     |zero=>
      have hfd:=hide hF.out.done;clear hF;have hos:Hid (aS Wy w.heap.size (.slice Ao pre.length co) (au pre)):=hide (own_base' hown (by omega));go_wp2;exact bodyPost_ret (v:= .slice Ao pre.length co) (by simp[results,Tryz.results76,go_sem]) rfl ⟨_,rfl,by rw[hfd.out];exact hos.out,hbw⟩
     |succ i=>
      obtain⟨z,hz1,hF2⟩:=hF.out.next;have hyn:=hF.out.1;have hpl:=hF.out.2.2.1;have hj2:((i+1:Nat):Int)=(i:Int)+1:=(by omega);rw[hj2];replace hF2:=hide hF2;replace hz1:=hide hz1;clear hF;have hpm:pre.length+1≤maxLen:=(by unfold maxLen;omega);have hpb:(pre.length+1)*8≤140737488355328:=(by omega);have hend:=hide (MF n (fun z=>E y z&&decide (bU n E v z=i+1)));go_wp2_with fail;go_loopw [9,10] (fun s9 s10 wr=>∃m:Nat,m≤n∧s10= .int .i64 ((m:Int)-1)∧s9= .int .i64 (tQ n (fun z=>E y z&&decide (bU n E v z=i+1)) m)∧aS wr w2.heap.size (.slice Ao pre.length co) (au pre)∧iO wr g cap n (bU n E v)∧Blk wr w.heap.size 140 #[.int .i64 n,.slice A n c]∧Below w.heap.size w wr∧Below w2.heap.size w2 wr) (fun _ s10 _=>((intOf s10)+1).toNat);case atStart=>exact⟨n,Nat.le_refl _,by go_num,by rw[hend.out],hown,hR,kr,hbw,hbz⟩
      case round=>
       clear hown hR kr hbw hbz c0 c1;obtain⟨m,hm,rfl,rfl,hown,hR,kr,hbw,hbz⟩:=hrel;obtain⟨Wm,rfl⟩:∃Wm,Wm=wr:=⟨_,rfl⟩;have c0:=Blk.n0 kr;have c1:=Blk.n1 kr;cases m with
       |zero=>
        rw[hz1.out];have hown2:=hide hown;have hit:Hid (au pre++[(z:Int)]=au (pre++[z])):=hide (by unfold au;simp);have rW:=hide hlen;generalize au pre=D at*;have hsw:w2.heap.size≤Wm.heap.size:=hbz.size;have R3:g<w2.heap.size:=hgl;have hlo:=hide (fun b hb=>(World.ownsRow.lt hown b hb).1);clear hlen c0 c1 hown;go_wp2_with (at_builtin;go_loud (refine aT (enc:=Go.Inq.encI) rfl (.tmp 64) (.tmp 66) 33 rfl w2.heap.size 3 ii _ 1 8 Tryz.underlying33 hii hi1 hi2 hi3 rfl (by decide) (.slice Ao pre.length co) D rfl hown2.out (fun _=>rfl) (z:Int) _ rfl rfl Go.Inq.fH (by rw[rW.out];exact hpm) (by rw[rW.out];exact hpb) hsw w2 w2.heap.size (Nat.le_refl _) hbz ?_);intro v1 w6 hown1 hg1 QG ji);have hno:∀q,q<w2.heap.size→some q≠(Value.slice Ao pre.length co).ownBlock:=fun q hq e=>(by have:=hlo.out q e.symm;omega);have kr2:=(kr.alloc (.cells #[.int .i64 (z:Int)] 3)).grown hg1 (hno _ (by omega));have hR2:iO w6 g cap n (bU n E v):=by
         obtain⟨cur,q1,q2⟩:=hR;exact⟨cur,(q1.alloc (.cells #[.int .i64 (z:Int)] 3)).grown hg1 (hno _ R3),q2⟩
        have R4:Below w.heap.size w w6:=hbw2.trans (QG.mono hs2);go_roundw;case rel=>exact⟨pre++[z],z,i,rfl,by go_num,hF2,by rw[←hit.out];exact hown1,hR2,kr2,R4,QG⟩
        case measure=>simp[intOf]<;>omega
       |succ x=>
        have hx2:(((x+1:Nat):Int)-1)=(x:Int):=(by omega);rw[hx2];have hx0:(0:Int)≤(x:Int):=Int.natCast_nonneg _;have hx1:(x:Int)<(n:Int):=(by omega);have hxn:x<n:=(by omega);have hnx:=hide (JV (p:=fun z=>E y z&&decide (bU n E v z=i+1)) hxn);have hhc:=hide (fZ n A c E y x K Wm (hgr.out Wm hbw).1 (hgr.out Wm hbw).2 hyn hxn);obtain⟨b,hb⟩:∃b,E y x=b:=⟨_,rfl⟩;rw[hb]at hhc hnx;go_wp2_with fail;refine hhc.out.mono ?_;rintro e w5 ⟨rfl,hb5⟩;have Pp:=hbw.trans (hb5.mono hbw.size);have Pq:=hbz.trans (hb5.mono hbz.size);replace kr:=kr.below hb5 kr.lt;replace hR:=hR.below hb5 hR.lt;have hown5:=own_below hown hb5 (Nat.le_refl _);obtain⟨dx,-⟩:=hR.cell hxn;clear hhc hown hbw hbz hb5 c0 c1;cases b with
        |false=>
         have hn2:Hid (tQ n (fun z=>E y z&&decide (bU n E v z=i+1)) (x+1)=tQ n (fun z=>E y z&&decide (bU n E v z=i+1)) x):=hide (by rw[hnx.out];rfl);rw[hn2.out];clear hnx;go_wp2;go_roundw;case rel=>exact⟨x,by omega,by go_num,rfl,hown5,hR,kr,Pp,Pq⟩
         case measure=>simp[intOf]<;>omega
        |true=>
         rw[Bool.true_and]at hnx;by_cases hq:bU n E v x=i+1
         ·have hqb:((bU n E v x:Int)==(i:Int)+1)=true:=(by rw[beq_iff_eq];omega);have hn2:Hid ((x:Int)=tQ n (fun z=>E y z&&decide (bU n E v z=i+1)) x):=hide (by rw[hnx.out,if_pos (decide_eq_true hq)]);clear hnx hq;go_wp2;go_roundw;case rel=>exact⟨x,by omega,by go_num,by rw[←hn2.out],hown5,hR,kr,Pp,Pq⟩
          case measure=>simp[intOf]<;>omega
         ·have hqb:((bU n E v x:Int)==(i:Int)+1)=false:=(by rw[beq_eq_false_iff_ne];omega);have hn2:Hid (tQ n (fun z=>E y z&&decide (bU n E v z=i+1)) (x+1)=tQ n (fun z=>E y z&&decide (bU n E v z=i+1)) x):=hide (by rw[hnx.out,if_neg (by simp[hq])]);rw[hn2.out];clear hnx hq;go_wp2;go_roundw;case rel=>exact⟨x,by omega,by go_num,rfl,hown5,hR,kr,Pp,Pq⟩
          case measure=>simp[intOf]<;>omega
  ·obtain rfl:v=n:=(by omega);have hnl:=hide (hno.out fun u hu=>hall.out u hu);go_wp2;exact bodyPost_ret (v:= .slice none 0 0) (by simp[results,Tryz.results76,go_sem]) rfl ⟨_,rfl,by rw[hnl.out];exact aS.nil _ _,hbw⟩
set_option maxHeartbeats 2000000
set_option maxRecDepth 100000 in
theorem BI(A:Option Addr)(c:Nat)(H:List Txn)(level:Int)(Al:Option Addr)(cl:Nat)(L:List Fct)(x:Cho)(w:World)(h:aF w (Old w) (.slice A H.length c) H)(hn:aB H)(hL:bF w (Old w) (.slice Al L.length cl) L)(hl:L.length≤1000000)(hr:cB H (ak L++[x])=true):
 Calls Tryz.prog 124 #[.agg #[.slice A H.length c],.int .i64 level,.slice Al L.length cl,.agg #[.int .i64 x.key,.int .i64 x.a,.int .i64 x.b]] w (yR w (bA H level (ak L++[x]))):=by
 obtain⟨ic,hic,hi1,hi2,hi3⟩:=info_parts mP;obtain⟨xk,xa,xb⟩:=x;dsimp only;obtain⟨W0,hW0⟩:∃W0,(w.alloc (.cells #[.slice A H.length c] 24)).alloc (.cells #[.int .i64 xk,.int .i64 xa,.int .i64 xb] 102)=W0:=⟨_,rfl⟩;have hB:=aG hW0;have k0:=Blk.fC hW0;have k1:=Blk.dQ hW0;have k00:=hide k0;have hri:aC H=true:=gD hr;have h64:H.length≤64:=(by have:=((aA H).1 hri).1;omega);have hch:=hide (fun W (hb:Below w.heap.size w W)=>gH Al cl L W (hL.below hb) hl);have hml:(ak L).length=L.length:=bM L;have hfu:=hide (fun W (hb:Below w.heap.size w W) A' c' (hC:bq W (Old W) (.slice A' (ak L++[(⟨xk,xa,xb⟩:Cho)]).length c') (ak L++[⟨xk,xa,xb⟩]))=>pq A c H level A' c' (ak L++[⟨xk,xa,xb⟩]) W (h.below hb) hC hr hn);have hFL:bA H level (ak L++[⟨xk,xa,xb⟩])=au (eY H.length (bK H level (ak L++[⟨xk,xa,xb⟩]))):=rfl;rw[hFL];generalize ak L=M at*;obtain⟨N,hN⟩:∃N,M++[(⟨xk,xa,xb⟩:Cho)]=N:=⟨_,rfl⟩;rw[hN]at hfu⊢;replace hN:=hide hN;replace hml:=hide hml;generalize bK H level N=E at*;clear hr hFL h hL;go_enter Tryz.func124,Tryz.ntmps124;go_wp2_with fail;clear hW0;refine(hch.out W0 hB).mono ?_;rintro e w1 ⟨v,rfl,hown,hb1⟩;obtain⟨Av,cv,rfl⟩:=dw.form hown;have hB1:=hB.trans (hb1.mono hB.size);replace k0:=k0.below hb1 k0.lt;replace k1:=k1.below hb1 k1.lt;have x0:=Blk.n0 k1;have x1:=Blk.n1 k1;have x2:=Blk.n2 k1;have hs1:=hb1.size;replace hown:=hide hown;have hw0:=hB.size;clear hch;go_upto_region 3 with(at_builtin;go_loud (refine aT (enc:=jJ) rfl (.tmp 12) (.tmp 14) 65 rfl W0.heap.size 102 ic _ 3 24 Tryz.underlying65 hic hi1 hi2 hi3 rfl (by decide) (.slice Av M.length cv) M rfl hown.out (fun _=>rfl) (⟨xk,xa,xb⟩:Cho) _ rfl rfl iG (by have:=hml.out;simp[maxLen];omega) (by have:=hml.out;omega) hs1 W0 W0.heap.size (Nat.le_refl _) hb1 ?_);intro v1 w6 hown1 hg1 hbq ji);have yH:dw w6 W0.heap.size v1 N:=(by rw[←hN.out];exact hown1);obtain⟨A6,c6,rfl⟩:=dw.form yH;have hB6:=hB.trans (hbq.mono hw0);have hfc:=hide (hfu.out w6 hB6 A6 c6 (dw.sl yH fun g _ h=>h));have Te:Below W0.heap.size W0 w6:=hbq;have c0:=Blk.n0 (Blk.below k00.out hbq k00.out.lt);clear hfu yH hown1 hg1 ji hown hB k00 k0 k1 hb1;go_wp2_with fail;refine hfc.out.mono ?_;rintro e w7 ⟨v,rfl,hR,hb7⟩;have hB7:=hB6.trans (hb7.mono hB6.size);have hs7:=hB7.size;obtain⟨Ag,cg,rfl,hG⟩:=hR.gr h64 (K:=Old w7) (fun _ _ h=>h);have hfd:=hide (pF H.length Ag cg E (Old w7) w7 hG (fun b h=>h));clear hfc c0 hR hG;go_wp2_with fail;refine hfd.out.mono ?_;rintro e w8 ⟨v8,rfl,hv8,hb8⟩;go_wp2;go_ret;exact⟨v8,rfl,CS hv8 hs7,hB7.trans (hb8.mono hs7)⟩
end Go.Proofs.YtfhnamomiaekdaaGreatDoor
