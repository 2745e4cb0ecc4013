/-
  Walks: layer 18: the first pair that choices do not decide.
-/
import Derived.Laws.MakeOwn
import Derived.Test.YtpjechjoijjhpaaGreatDoorZ09
import Derived.Test.YtpjechjoijjhpaaGreatDoorZ01
import Derived.Test.YtpjechjoijjhpaaGreatDoorZ10
import Derived.Test.YtpjechjoijjhpaaGreatDoorZ02
import Derived.Test.YtpjechjoijjhpaaGreatDoorZ16
set_option linter.unusedVariables false
set_option linter.unusedSimpArgs false
namespace Go.Proofs.YtpjechjoijjhpaaGreatDoor
open Go.RowKit Go.Inq
set_option maxHeartbeats 4000000
attribute [local go_sem↓] Go.wp_at_zero Go.wp_at_succ
theorem FK{α:Type}{p:α→Bool}{l:List α}{k:Nat}(hk:k<l.length)(hn:∀j (hj:j<l.length),j<k→p l[j]=false)(h:p l[k]=true):l.find? p=some l[k]:=by
 rw[List.find?_eq_some_iff_getElem];exact⟨h,k,hk,rfl,fun j hj=>by rw[hn j (by omega) hj];rfl⟩
theorem CK{α:Type}{p:α→Bool}{l:List α}(hn:∀j (hj:j<l.length),p l[j]=false):l.find? p=none:=by
 rw[List.find?_eq_none];intro x hx;obtain⟨j,hj,rfl⟩:=List.getElem_of_mem hx;rw[hn j hj];simp
theorem SA(l:List Cho)(c:Cho):(l.any fun x=>decide (x=c))=l.contains c:=by
 rw[Bool.eq_iff_iff,List.any_eq_true,List.contains_iff_mem];constructor
 ·rintro⟨x,hx,h⟩;rw[←of_decide_eq_true h];exact hx
 ·intro h;exact⟨c,h,by simp⟩
def Qz(o:Option Cho):Value:= .tuple #[.agg #[.int .i64 (o.getD dA).key,.int .i64 (o.getD dA).a,.int .i64 (o.getD dA).b],.bool o.isSome]
def uO(l:List Cho)(p:Cho):Bool:= !l.contains p&& !l.contains (bD p)
set_option maxRecDepth 100000 in
theorem IG(A:Option Addr)(c:Nat)(H:List Txn)(Al:Option Addr)(cl:Nat)(l:List Cho)(w:World)(h:aC w (Old w) (.slice A H.length c) H)(hn:aA H)(hl:aV w (Old w) (.slice Al l.length cl) l)(hr:dR H l=true)(hln:l.length≤1000000000):
 Calls Tryz.prog 25 #[.agg #[.slice A H.length c],.slice Al l.length cl] w fun e w'=>e= .returned (Qz (mG H l))∧Below w.heap.size w w':=by
 obtain⟨W0,hW0⟩:∃W0,(w.alloc (.cells #[.slice A H.length c] 24)).alloc (.cells #[.int .i64 0,.int .i64 0,.int .i64 0] 62)=W0:=⟨_,rfl⟩;have hB:=aF hW0;have k0:=Blk.fG hW0;have kr:=Blk.eP hW0;have hrc:=hide (jF A c H Al cl l W0 (h.below hB) hn (hl.below hB) hln);rw[hr]at hrc;have hpa:=hide (fun W (hb:Below w.heap.size w W)=>G9 A c H W (h.below hb) hn (by unfold dR at hr;simp only[Bool.and_eq_true]at hr;exact hr.1.1));have hco:=hide (fun(x:Cho) W (hb:Below w.heap.size w W)=>(by
  have:=zi Al cl l x.key x.a x.b W (hl.below hb) hln;rw[SA]at this;exact this:Calls Tryz.prog 58 #[.slice Al l.length cl,.agg #[.int .i64 x.key,.int .i64 x.a,.int .i64 x.b]] W fun e w'=>e= .returned (.bool (l.contains x))∧Below W.heap.size W w'))
 have hhit:=hide (fun k (hk:k<(dD H).length)=>FK (p:=uO l) hk);have wo:=hide (CK (p:=uO l) (l:=dD H));obtain⟨o,ho⟩:∃o,mG H l=o:=⟨_,rfl⟩;have ho2:(dD H).find? (uO l)=o:=ho;rw[ho2]at hhit wo;rw[ho];have hlen:=yL (H:=H) (by unfold dR at hr;simp only[Bool.and_eq_true]at hr;exact hr.1.1);have c0:=Blk.n0 k0;clear h hr hl ho ho2;go_enter Tryz.func25,Tryz.ntmps25;go_wp2_with fail;clear hW0;refine hrc.out.mono ?_;rintro e w1 ⟨rfl,hb1⟩;have hB1:=hB.trans (hb1.mono hB.size);replace k0:=k0.below hb1 k0.lt;replace kr:=kr.below hb1 kr.lt;have hpc:=hide (hpa.out w1 hB1);clear hrc hb1 hB c0 hpa;have c0:=Blk.n0 k0;go_wp2_with fail;refine hpc.out.mono ?_;rintro e w2 ⟨v,rfl,hP,hb2⟩;have hB2:=hB1.trans (hb2.mono hB1.size);replace kr:=kr.below hb2 kr.lt;obtain⟨Ap,cp,rfl⟩:=hP.form;have hPS:=hide (hP.sl (K:=fun b=>b<w2.heap.size) (fun g _ h2=>h2));have hk2:w.heap.size+1<w2.heap.size:=kr.lt;clear hpc hb2 hB1 c0 k0 hP;generalize dD H=P at*;go_wp2_with fail;go_loopw [17] (fun s17 wr=>∃k:Nat,k≤P.length∧s17= .int .i64 (k:Int)∧Hid (∀j (hj:j<P.length),j<k→uO l P[j]=false)∧Below w.heap.size w wr∧Below w2.heap.size w2 wr∧Blk wr (w.heap.size+1) 62 #[.int .i64 0,.int .i64 0,.int .i64 0]) (fun s17 _=>P.length-(intOf s17).toNat);case atStart=>exact⟨0,by omega,by go_num,hide fun j _ hj=>absurd hj (by omega),hB2,Below.refl _ _,kr⟩
 case round=>
  clear kr hB2;obtain⟨Wo,rfl⟩:∃Wo,Wo=wr:=⟨_,rfl⟩;obtain⟨k,hk,rfl,hall,hb,hb',kr⟩:=hrel;have hk0:(0:Int)≤(k:Int):=Int.natCast_nonneg _;by_cases hlt:k<P.length
  ·have hk1:(k:Int)<(P.length:Int):=(by omega);obtain⟨b,off,rfl,-,d0,d1,d2⟩:=aV.at_ (aV.keep hPS.out (Agree.below hb' fun b h=>h) (fun b h=>h)) hlt;have hhk:=hide (hhit.out k hlt hall.out);have zL:Hid (uO l P[k]=false→∀j (hj:j<P.length),j<k+1→uO l P[j]=false):=fun g j hj hjk=>by
    by_cases e:j=k
    ·subst e;exact g
    ·exact hall.out j hj (by omega)
   have sO:Hid (uO l P[k]=(!l.contains P[k]&& !l.contains (bD P[k]))):=hide rfl;generalize P[k]=p at*;obtain⟨pk,pa,pb⟩:=p;dsimp only at d0 d1 d2;have ht:Hid (bD ⟨pk,pa,pb⟩=⟨pk,pb,pa⟩):=hide rfl;rw[ht.out]at sO;obtain⟨Wa,hWa⟩:∃Wa,(Wo.alloc (.cells #[.int .i64 pk,.int .i64 pa,.int .i64 pb] 62)).alloc (.cells #[.int .i64 pk,.int .i64 pb,.int .i64 pa] 62)=Wa:=⟨_,rfl⟩;have hs2:=aF hWa;have ka:=Blk.fG hWa;have kb:=Blk.eP hWa;have hba:=hb.trans (hs2.mono hb.size);have Uv:=hb'.trans (hs2.mono hb'.size);have kra:=kr.below hs2 kr.lt;have hc1:=hide (hco.out ⟨pk,pa,pb⟩ Wa hba);have hc2:=hide (hco.out ⟨pk,pb,pa⟩);dsimp only at hc1 hc2;have a0:=Blk.n0 ka;have a1:=Blk.n1 ka;have a2:=Blk.n2 ka;generalize l.contains (⟨pk,pa,pb⟩:Cho)=q1 at*;generalize l.contains (⟨pk,pb,pa⟩:Cho)=q2 at*;clear kr hs2 hhit wo hall hco ht hb';go_upto_region 7 with fail;try rw[hWa]
   clear hWa d0 d1 d2;go_wp2_with fail;refine hc1.out.mono ?_;rintro e w3 ⟨rfl,hb3⟩;have Bp:=hba.trans (hb3.mono hba.size);have Bq:=Uv.trans (hb3.mono Uv.size);have k3:=ka.below hb3 ka.lt;have j3:=kb.below hb3 kb.lt;have kr3:=kra.below hb3 kra.lt;clear hc1 hb3 ka kb kra a0 a1 a2;have a0:=Blk.n0 k3;have a1:=Blk.n1 k3;have a2:=Blk.n2 k3;have b0:=Blk.n0 j3;have b1:=Blk.n1 j3;have b2:=Blk.n2 j3;cases q1 with
   |true=>
    have hnx:=hide (zL.out (by rw[sO.out];rfl));have hb4:=Bp;have k4:=Bq;have kr4:=kr3;clear zL sO hhk hc2 Bp Bq kr3;go_wp2;go_roundw;case rel=>exact⟨k+1,by omega,by go_num,hnx,by simpa using hb4,k4,kr4⟩
    case measure=>simp[intOf];omega
   |false=>
    have hc3:=hide (hc2.out w3 Bp);clear hc2;go_wp2_with fail;refine hc3.out.mono ?_;rintro e w4 ⟨rfl,Bu⟩;have hb4:=Bp.trans (Bu.mono Bp.size);have k4:=Bq.trans (Bu.mono Bq.size);have kr4:=kr3.below Bu kr3.lt;have m3:=k3.below Bu k3.lt;clear hc3 a0 a1 a2 b0 b1 b2 j3 k3 Bu Bp Bq kr3;cases q2 with
    |true=>
     have hnx:=hide (zL.out (by rw[sO.out];rfl));clear zL sO hhk;go_wp2;go_roundw;case rel=>exact⟨k+1,by omega,by go_num,hnx,by simpa using hb4,k4,kr4⟩
     case measure=>simp[intOf];omega
    |false=>
     obtain rfl:=hhk.out (by rw[sO.out];rfl);have a0:=Blk.n0 m3;have a1:=Blk.n1 m3;have a2:=Blk.n2 m3;have z0:=Blk.n0 kr4;have z1:=Blk.n1 kr4;have z2:=Blk.n2 kr4;have f0:=kr4.frozen 0;have f1:=kr4.frozen 1;have f2:=kr4.frozen 2;have hz:=hide (((hb4.setCell (p:=⟨w.heap.size+1,0,none⟩) (Nat.le_succ _) (.int .i64 pk)).setCell (p:=⟨w.heap.size+1,1,none⟩) (Nat.le_succ _) (.int .i64 pa)).setCell (p:=⟨w.heap.size+1,2,none⟩) (Nat.le_succ _) (.int .i64 pb));have hq:=((kr4.aH 0 (.int .i64 pk)).aH 1 (.int .i64 pa)).aH 2 (.int .i64 pb);simp only[sA,sZ,sS]at hq;have y0:=Blk.n0 hq;have y1:=Blk.n1 hq;have y2:=Blk.n2 hq;clear zL sO hhk kr4 m3 hq k4 hb4;go_wp2_with fail;exact bodyPost_ret (v:= .tuple #[.agg #[.int .i64 pk,.int .i64 pa,.int .i64 pb],.bool true]) (by simp[results,Tryz.results25,go_sem,y0,y1,y2]) rfl ⟨rfl,hz.out⟩
  ·obtain rfl:k=P.length:=(by omega);obtain rfl:=wo.out fun j hj=>hall.out j hj hj;have z0:=Blk.n0 kr;have z1:=Blk.n1 kr;have z2:=Blk.n2 kr;have f0:=kr.frozen 0;have f1:=kr.frozen 1;have f2:=kr.frozen 2;have hz:=hide (((hb.setCell (p:=⟨w.heap.size+1,0,none⟩) (Nat.le_succ _) (.int .i64 0)).setCell (p:=⟨w.heap.size+1,1,none⟩) (Nat.le_succ _) (.int .i64 0)).setCell (p:=⟨w.heap.size+1,2,none⟩) (Nat.le_succ _) (.int .i64 0));have hq:=((kr.aH 0 (.int .i64 0)).aH 1 (.int .i64 0)).aH 2 (.int .i64 0);simp only[sA,sZ,sS]at hq;have y0:=Blk.n0 hq;have y1:=Blk.n1 hq;have y2:=Blk.n2 hq;clear hhit wo hall kr hq hb' hb;go_wp2_with fail;exact bodyPost_ret (v:= .tuple #[.agg #[.int .i64 0,.int .i64 0,.int .i64 0],.bool false]) (by simp[results,Tryz.results25,go_sem,y0,y1,y2]) rfl ⟨rfl,hz.out⟩
end Go.Proofs.YtpjechjoijjhpaaGreatDoor
namespace Go.Inq
def qz(n:Nat)(E:aj)(l:List Nat)(v:Nat):Bool:= !l.contains v&&(List.range n).all fun x=> !E x v||l.contains x
def zM(p:Nat→Bool)(n:Nat):Nat→Int
 |0=> -1
 |d+1=>if p (n-(d+1))then((n-(d+1):Nat):Int)else zM p n d
theorem CO(p:Nat→Bool)(n:Nat):∀d,d≤n→zM p n d=match ((List.range n).drop (n-d)).find? p with|some v=>(v:Int)|none=> -1
 |0,_=>by rw[Nat.sub_zero,List.drop_of_length_le (by simp)];rfl
 |d+1,h=>by
  have hd:(List.range n).drop (n-(d+1))=(n-(d+1))::(List.range n).drop (n-d):=by
   rw[List.drop_eq_getElem_cons (by simp;omega)];simp only[List.getElem_range];rw[show n-(d+1)+1=n-d by omega]
  rw[hd,List.find?_cons];unfold zM;rw[CO p n d (by omega)];cases p (n-(d+1))<;>simp
theorem FM(n:Nat)(E:aj)(l:List Nat):zM (qz n E l) n n=match jP n E l with|some v=>(v:Int)|none=> -1:=by
 rw[CO _ _ n (Nat.le_refl _),Nat.sub_self,List.drop_zero];rfl
theorem LC{n:Nat}{E:aj}{l:List Nat}{v:Nat}(h:jP n E l=some v):zM (qz n E l) n n=v:=by rw[FM,h]
theorem LD{n:Nat}{E:aj}{l:List Nat}(h:jP n E l=none):zM (qz n E l) n n= -1:=by rw[FM,h]
theorem FN{n:Nat}{E:aj}{l:List Nat}{v:Nat}(h:jP n E l=some v):v<n:=by
 have:=List.mem_of_find?_eq_some h;simpa using this
def mW(n:Nat)(l:List Nat):Nat:=aX (fun v=>l.contains v) n
theorem LG{n:Nat}{l:List Nat}{v:Nat}(h:v<n):hasB (mW n l) (v:Int)=l.contains v:=by
 unfold mW;rw[pQ,aT];simp[h]
theorem LH{n:Nat}{E:aj}{l:List Nat}{v:Nat}(hn:n≤64):Ku (aX (eX E v) n) (mW n l)=(List.range n).all fun x=> !E x v||l.contains x:=by
 have h1:aX (eX E v) n<18446744073709551616:=Nat.lt_of_lt_of_le (lM _ _) (iF hn);have h2:mW n l<18446744073709551616:=Nat.lt_of_lt_of_le (lM _ _) (iF hn);rw[Bool.eq_iff_iff,En h1 h2,List.all_eq_true];unfold mW eX;constructor
 ·intro h x hx;have hxn:x<n:=(by simpa using hx);have:=h x;rw[aT,aT]at this;simp only[hxn,decide_true,Bool.true_and]at this;cases hE:E x v
  ·simp
  ·simpa using this hE
 ·intro h x hx;rw[aT]at hx⊢;rw[Bool.and_eq_true]at hx⊢;have hxn:x<n:=(by simpa using hx.1);have:=h x (by simpa using hxn);rw[hx.2]at this;exact⟨hx.1,by simpa using this⟩
theorem II{n:Nat}{l:List Nat}{v:Nat}(h:v<n)(hn:n≤64):eZ (mW n l) (v:Int)=mW n (l++[v]):=by
 unfold mW;rw[vI h hn];refine dS fun i hi=> ?_;rw[Bool.eq_iff_iff];simp
theorem LJ(n:Nat):mW n []=0:=by
 unfold mW;refine Nat.eq_of_testBit_eq fun i=> ?_;rw[aT];simp
theorem OW{n:Nat}{l:List Nat}(hn:n≤64):mW n l<18446744073709551616:=Nat.lt_of_lt_of_le (lM _ _) (iF hn)
theorem uP{n:Nat}{E:aj}{k:Nat}(h:cO n E k=none):∀m,k≤m→cO n E m=none
 |0,hm=>by have e:k=0:=Nat.le_zero.1 hm;rw[e]at h;exact h
 |m+1,hm=>by
  by_cases e:k=m+1
  ·subst e;exact h
  ·unfold cO;rw[uP h m (by omega)]
theorem uQ{n:Nat}{E:aj}{k v:Nat}{l:List Nat}(h:cO n E k=some l)(hv:jP n E l=some v):cO n E (k+1)=some (l++[v]):=by
 unfold cO;rw[h];simp only[hv]
theorem xC{n:Nat}{E:aj}{k:Nat}{l:List Nat}(hk:k<n)(h:cO n E k=some l)(hv:jP n E l=none):fK n E=none:=by
 refine uP (k:=k+1) ?_ n (by omega);unfold cO;rw[h];simp only[hv]
end Go.Inq
namespace Go.Proofs.YtpjechjoijjhpaaGreatDoor
open Go.RowKit Go.Inq
set_option maxHeartbeats 4000000
attribute [local go_sem↓] Go.wp_at_zero Go.wp_at_succ
def lC(w:World)(o:Option (List Nat))(e:Ending)(w':World):Prop:=
 (match o with
  |some l=>∃v,e= .returned (.tuple #[v,.bool true])∧bA w' w.heap.size v (au l)
  |none=>e= .returned (.tuple #[.slice none 0 0,.bool false]))∧Below w.heap.size w w'
theorem lC.yes{w w':World}{l:List Nat}{v:Value}(h:bA w' w.heap.size v (au l))(hb:Below w.heap.size w w'):lC w (some l) (.returned (.tuple #[v,.bool true])) w':=⟨⟨v,rfl,h⟩,hb⟩
theorem lC.no{w w':World}(hb:Below w.heap.size w w'):lC w none (.returned (.tuple #[.slice none 0 0,.bool false])) w':=⟨rfl,hb⟩
set_option maxRecDepth 100000 in
theorem FP(n:Nat)(A:Option Addr)(c:Nat)(E:aj)(K:Nat→Prop)(w:World)(h:GrS w K n A c E)(hK:∀b,K b→b<w.heap.size)(hT:jl w):
 Calls Tryz.prog 26 #[.agg #[.int .i64 n,.slice A n c]] w (lC w (fK n E)):=by
 obtain⟨ii,hii,hi1,hi2,hi3⟩:=info_parts gU;obtain⟨W0,hW0⟩:∃W0,w.alloc (.cells #[.int .i64 n,.slice A n c] 78)=W0:=⟨_,rfl⟩;have hB:=ah (Below.refl w.heap.size w) hW0 (Nat.le_refl _);have k0:=Blk.newEq hW0;have hs0:=aB hW0;have hg:=hide (h.keep (Agree.below hB hK) (fun b hb=>hb));have hKW:Hid (∀b,K b→b<W0.heap.size):=hide fun b hb=>(by have:=hK b hb;omega);have hn:=h.n64;replace hK:=hide hK;have hT0:=hT.below hB;clear h;have c0:=Blk.n0 k0;have c1:=Blk.n1 k0;replace hs0:=hide hs0;go_enter Tryz.func26,Tryz.ntmps26;go_wp2_with fail;clear hW0 c0 c1;refine(zw n A c E K _ hg.out hKW.out hT0).mono ?_;rintro e w1 ⟨g,hgs,rfl,kR,hb1⟩;have hgl:=kR.lt;replace k0:=k0.below hb1 k0.lt;have hb2:=hB.trans (hb1.mono hB.size);obtain⟨W3,hW3⟩:∃W3,w1.alloc (.cells #[.int .i64 n,.slice (some ⟨g,0,none⟩) n n] 78)=W3:=⟨_,rfl⟩;have k3:=Blk.newEq hW3;have hs3:=aB hW3;replace k0:=k0.av hW3;replace kR:=kR.av hW3;have hb5:=ah hb2 hW3 hb2.size;have hwg:w.heap.size<g:=(by have:=hs0.out;omega);have hww:w.heap.size<w1.heap.size:=(by omega);clear hb1 hB hKW hs0 hg hT0 hb2;have hmk:∀W:World,(Instr.makeSlice 35 (.int .i64 0) (.int .i64 (n:Int))).run Tryz.prog W= .ok (.slice (some ⟨W.heap.size,0,none⟩) 0 n) (W.alloc (.cells (madeCells #[.int .i64 0] n) 3)):=fun W=>by
  have:=run_make (P:=Tryz.prog) W 35 3 ii (.int .i64 0) Tryz.underlying35 hii hi1 .i64 .i64 0 (n:Int) (Int.le_refl _) (by omega) (by rw[hi3];omega) (by omega);rw[hi2]at this;simp only[Int.toNat_zero,Int.toNat_natCast,Nat.mul_one]at this;exact this
 have OX:=hide (World.ownsRow_made (base:=w.heap.size) (e:=3) (size:=1) W3 (madeCells #[.int .i64 0] n) n (by omega) (by simp[maxLen];omega) (by simp[size_madeCells]));obtain⟨W4,hW4⟩:∃W4,W3.alloc (.cells (madeCells #[.int .i64 0] n) 3)=W4:=⟨_,rfl⟩;rw[hW4]at OX;have c0:=Blk.n0 k0;replace k0:=k0.av hW4;replace k3:=k3.av hW4;replace kR:=kR.av hW4;have hb6:=ah hb5 hW4 (by omega);have c0n:=Blk.n0 k0;have hz:=hide (LJ n);have h3n:w1.heap.size<W3.heap.size:=(by omega);have hgK:g<W3.heap.size:=(by omega);have DR:W4.heap.size=W3.heap.size+1:=aB hW4;replace hs3:=hide hs3;go_wp2_with fail;clear hmk c0 c0n hb5;go_loopw [6,7,22] (fun s6 s7 s22 wr=>∃(k:Nat) (l:List Nat),k≤n∧s22= .int .i64 k∧s7= .int .u64 (mW n l:Nat)∧Hid (cO n E k=some l)∧bA wr w.heap.size s6 (au l)∧Below w.heap.size w wr∧Blk wr w.heap.size 78 #[.int .i64 n,.slice A n c]∧Blk wr w1.heap.size 78 #[.int .i64 n,.slice (some ⟨g,0,none⟩) n n]∧Blk wr g 116 (bV n (eX E))∧Hid (∀b,s6.ownBlock=some b→W3.heap.size≤b)∧W4.heap.size≤wr.heap.size) (fun _ _ s22 _=>n-(intOf s22).toNat);case atStart=>exact⟨0,[],Nat.zero_le _,by go_num,by rw[hz.out];rfl,hide rfl,OX.out,hb6,k0,k3,kR,hide (fun b hb=>by simp[Value.ownBlock]at hb;omega),Nat.le_refl _⟩
 case round=>
  clear OX hb6 k0 k3 kR hW4 hW3;obtain⟨Wo,rfl⟩:∃Wo,Wo=wr:=⟨_,rfl⟩;obtain⟨k,l,hk,rfl,rfl,hO,hown,hb,k0,k3,kR,jE,R7⟩:=hrel;have yY:(0:Int)≤(k:Int):=Int.natCast_nonneg _;by_cases hlt:k<n
  ·have yZ:(k:Int)<(n:Int):=(by omega);have c0:=Blk.n0 k0;have d1:=Blk.n1 k3;have hsb:=hide (OW (l:=l) hn);have hn1:(1:Int)≤(n:Int):=(by omega);go_wp2_with fail
   go_loop [8,9] (fun s8 s9=>∃d:Nat,d≤n∧s9= .int .i64 ((n:Int)-1-d)∧s8= .int .i64 (zM (qz n E l) n d)) (fun _ s9=>((intOf s9)+1).toNat)
   case atStart=>exact⟨0,Nat.zero_le _,by simp,rfl⟩
   case round=>
    obtain⟨d,hd,rfl,rfl⟩:=hrel;by_cases hdn:d<n
    ·obtain⟨v,hv⟩:∃v,v=n-(d+1):=⟨_,rfl⟩;have hvi:((n:Int)-1-d)=(v:Int):=(by omega);rw[hvi];have hvn:v<n:=(by omega);have hv0:(0:Int)≤(v:Int):=Int.natCast_nonneg _;have hv1:(v:Int)<(n:Int):=(by omega);have r0:=kR.cell v;rw[pU hvn]at r0;have h64:=hide (fC (p:=eX E v) hn);have hhas:=hide (LG (l:=l) hvn);have hsub:=hide (LH (E:=E) (l:=l) (v:=v) hn);have hlow:Hid (zM (qz n E l) n (d+1)=if qz n E l v then(v:Int)else zM (qz n E l) n d):=hide (by show(if qz n E l (n-(d+1))then _ else _)=_;rw[←hv]);have hfr:Hid (qz n E l v=(!l.contains v&&(List.range n).all fun x=> !E x v||l.contains x)):=hide rfl;have XJ:decide ((v:Int)≥0)=true:=(by simp);generalize zM (qz n E l) n d=low at*;generalize hl':zM (qz n E l) n (d+1)=SB at*;replace hl':=hide hl';generalize mW n l=S at*;generalize aX (eX E v) n=R at*;clear hvi;have hnext:Hid (((v:Int)-1)=(n:Int)-1-((d+1:Nat):Int)):=hide (by omega);have hms:Hid (((n:Int)-1-((d+1:Nat):Int)+1).toNat<((v:Int)+1).toNat):=hide (by omega);clear hv;go_wp2_with fail;refine(Ky S hsb.out v _).mono ?_;rintro e w5 ⟨rfl,rfl⟩;rw[hhas.out];cases hc1:l.contains v with
     |true=>
      have hl2:SB=low:=(by rw[hlow.out,hfr.out,hc1];rfl);subst hl2;clear hc1;go_wp2
      go_round
      case rel=>exact⟨d+1,by omega,by rw[hnext.out],by rw[hl'.out]⟩
      case measure=>simp only[intOf];rw[hnext.out];exact hms.out
     |false=>
      replace hfr:=hfr.out;rw[hc1]at hfr;clear hc1;go_wp2_with fail;refine(Ce R S h64.out hsb.out _).mono ?_;rintro e w5 ⟨rfl,rfl⟩;rw[hsub.out];cases hc2:(List.range n).all fun x=> !E x v||l.contains x with
      |true=>
       have hl2:SB=v:=(by rw[hlow.out,hfr,hc2];rfl);subst hl2;clear hc2 hfr;go_wp2
       go_round
       case rel=>exact⟨d+1,by omega,by rw[hnext.out],by rw[hl'.out]⟩
       case measure=>simp only[intOf];rw[hnext.out];exact hms.out
      |false=>
       have hl2:SB=low:=(by rw[hlow.out,hfr,hc2];rfl);subst hl2;clear hc2 hfr;go_wp2
       go_round
       case rel=>exact⟨d+1,by omega,by rw[hnext.out],by rw[hl'.out]⟩
       case measure=>simp only[intOf];rw[hnext.out];exact hms.out
    ·obtain rfl:d=n:=(by omega);have hvi:((d:Int)-1-(d:Int))= -1:=(by omega);rw[hvi];clear hvi;have oL:=hb.size;cases hnt:jP d E l with
     |none=>
      have hf:=hide (xC hlt hO.out hnt);rw[LD hnt];clear hnt;go_wp2;exact bodyPost_ret (v:= .tuple #[.slice none 0 0,.bool false]) (by simp[results,Tryz.results26,go_sem]) rfl (by rw[hf.out];exact lC.no hb)
     |some v=>
      have hO2:=hide (uQ hO.out hnt);have hvn:=FN hnt;rw[LC hnt];have Uw:=hide (II (l:=l) hvn hn);have hll:=gH hO.out;have hlb:l.length+1≤64:=(by omega);have hv0:(0:Int)≤(v:Int):=Int.natCast_nonneg _;obtain⟨Av,cv,rfl⟩:=hown.form;replace hown:=hide hown;have hsn:=hide (iy l v);replace hll:=hide hll;have hlen:=hide (aR l);have hol:=hide (fun b hb=>(hown.out.lt b hb).2);clear hnt;go_wp2_with (first|(go_at_call 61;refine(rY _ hsb.out v _).mono ?_;rintro e w5 ⟨rfl,rfl⟩)|(at_builtin;refine aN (enc:=Go.Inq.encI) rfl (.tmp 47) (.tmp 49) 35 rfl w.heap.size 3 ii _ 1 8 Tryz.underlying35 hii hi1 hi2 hi3 rfl (by decide) (.slice Av (au l).length cv) (au l) rfl hown.out (fun _=>rfl) (v:Int) _ rfl rfl fD (by rw[hlen.out];simp[maxLen];omega) (by rw[hlen.out];omega) oL w w.heap.size (Nat.le_refl _) hb ?_;intro v1 w6 hown1 hg1 hb1 jN));have hk6:∀(t:TypeId) (cs:Array Value) (B:Nat),B<W3.heap.size→Blk Wo B t cs→Blk w6 B t cs:=fun t cs B hB hk=>(hk.alloc _).grown hg1 (fun e=>by have:=jE.out B e.symm;omega);have Wu:=hg1.size;simp only[World.size_alloc]at Wu;go_roundw;case rel=>exact⟨k+1,l++[v],by omega,by go_num,by rw[Uw.out],hO2,by unfold bA;rw[hsn.out];exact hown1,hb1,hk6 _ _ _ (by omega) k0,hk6 _ _ _ h3n k3,hk6 _ _ _ hgK kR,hide fun b hb=>by
       rcases jN with e|e
       ·rw[e]at hb;exact jE.out b hb
       ·rw[e]at hb;injection hb with hb;omega,by omega⟩
      case measure=>simp[intOf];omega
  ·obtain rfl:k=n:=(by omega);have hO2:Hid (fK k E=some l):=hO;go_wp2;exact bodyPost_ret (v:= .tuple #[_,.bool true]) (by simp[results,Tryz.results26,go_sem];rfl) rfl (by rw[hO2.out];exact lC.yes hown hb)
end Go.Proofs.YtpjechjoijjhpaaGreatDoor
