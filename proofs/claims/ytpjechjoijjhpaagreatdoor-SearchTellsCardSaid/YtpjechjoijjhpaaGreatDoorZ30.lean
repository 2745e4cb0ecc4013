/-
  Walks: layer 17's reference: who reads what was there at first, and who wrote over it.
-/
import Derived.Test.YtpjechjoijjhpaaGreatDoorZ29
import Derived.Test.YtpjechjoijjhpaaGreatDoorZ02
import Derived.Test.YtpjechjoijjhpaaGreatDoorZ16
import Derived.Test.YtpjechjoijjhpaaGreatDoorZ09
import Derived.Test.YtpjechjoijjhpaaGreatDoorZ17
import Derived.Test.YtpjechjoijjhpaaGreatDoorZ01
set_option linter.unusedVariables false
set_option linter.unusedSimpArgs false
namespace Go.Proofs.YtpjechjoijjhpaaGreatDoor
open Go.RowKit Go.Inq
set_option maxHeartbeats 8000000
attribute [local go_sem↓] Go.wp_at_zero Go.wp_at_succ
def wL(t w:Nat)(P:Nat→Bool):aj:=fun a b=>decide (a=t)&&(decide (b<w)&&P b)
theorem Mt(E:aj)(t:Nat)(P:Nat→Bool):orE E (wL t 0 P)=E:=by
 funext a b;simp[orE,wL]
theorem Mv{E:aj}{t w:Nat}{P:Nat→Bool}(h:P w=true):orE E (wL t (w+1) P)=orE (orE E (wL t w P)) (gT t w):=by
 funext a b;unfold orE wL gT;by_cases e:b=w
 ·subst e;simp[h]
 ·have:decide (b<w+1)=decide (b<w):=(by simp;omega);simp[e,this]
theorem Mw{E:aj}{t w:Nat}{P:Nat→Bool}(h:P w=false):orE E (wL t (w+1) P)=orE E (wL t w P):=by
 funext a b;unfold orE wL;by_cases e:b=w
 ·subst e;simp[h]
 ·have:decide (b<w+1)=decide (b<w):=(by simp;omega);simp[this]
def inP(H:List Txn)(t:Nat)(r:It)(b:Nat):Bool:=decide (t≠b)&&(decide (r.b= -1)&&(aP H b).writes.contains r.a)
def oP(H:List Txn)(t i:Nat):aj:=fun a b=>(decide (a<t)&&(aP H a).reads.any fun r=>inP H a r b)||(decide (a=t)&&((aP H a).reads.take i).any fun r=>inP H a r b)
theorem Mx(H:List Txn):oP H 0 0=noE:=by
 funext a b;simp[oP,noE]
theorem MB{H:List Txn}{t i:Nat}{R:List It}(hR:(aP H t).reads=R)(hi:i<R.length){n a b:Nat}(hb:b<n):orE (oP H t i) (wL t n (inP H t R[i])) a b=oP H t (i+1) a b:=by
 subst hR;unfold orE oP wL;by_cases e:a=t
 ·subst e;rw[List.take_succ_eq_append_getElem hi,List.any_append];simp[hb]
 ·simp[e]
theorem Pz{H:List Txn}{t:Nat}{R:List It}(hR:(aP H t).reads=R):oP H t R.length=oP H (t+1) 0:=by
 subst hR;funext a b;unfold oP;by_cases e:a=t
 ·subst e;rw[List.take_length];simp
 ·have:decide (a<t+1)=decide (a<t):=(by simp;omega);simp[e,this]
theorem PD{H:List Txn}{a b:Nat}(ha:a<H.length):oP H H.length 0 a b=mo H a b:=by
 unfold oP mo inP;simp only[ha,decide_true,Bool.true_and,List.take_zero,List.any_nil,Bool.and_false,Bool.or_false];rw[Bool.eq_iff_iff];simp only[List.any_eq_true,Bool.and_eq_true];constructor
 ·rintro⟨r,h1,h2,h3⟩;exact⟨h2,r,h1,h3⟩
 ·rintro⟨h2,r,h1,h3⟩;exact⟨r,h1,h2,h3⟩
set_option maxRecDepth 100000 in
theorem FY(A:Option Addr)(c:Nat)(H:List Txn)(w:World)(h:aC w (Old w) (.slice A H.length c) H)(hr:aG H=true)(hn:aA H):
 Calls Tryz.prog 109 #[.agg #[.slice A H.length c]] w (za w H.length (mo H)):=by
 have dK:H.length≤64:=(by have:=((aD H).1 hr).1;omega);clear hr;go_enter Tryz.func109,Tryz.ntmps109;go_upto_region 1 with fail;obtain⟨W0,hW0⟩:∃W0,(w.alloc (.cells #[.slice A H.length c] 24)).alloc (.cells #[.int .i64 0,.slice none 0 0] 89)=W0:=⟨_,rfl⟩;rw[hW0];have hb:=aF hW0;have k1:=Blk.fG hW0;have k3:=Blk.eP hW0;have s0:=size_two hW0;have hT:=hide (h.below hb);clear hW0 h;have c0:=Blk.n0 k1;replace s0:=hide s0;go_wp2_with fail;refine(jr H.length dK W0).mono ?_;rintro e w1 ⟨v,rfl,hR,hb1⟩;clear c0;obtain⟨Av,cv,rfl,-⟩:=hR.gr dK (K:=fun _=>True) (fun _ _ _=>trivial);go_upto_region 2 with fail;obtain⟨W5,hW5⟩:∃W5,w1.alloc (.cells #[.int .i64 (H.length:Int),.slice Av H.length cv] 89)=W5:=⟨_,rfl⟩;rw[hW5];have hP:=RGP.start hR dK hW5;have hs1:=hb1.size;have hb5:=ah hb1 hW5 hs1;clear hW5 hR hb1;go_wp2_with fail;go_loopw [4] (fun s4 wr=>∃x:Nat,x≤H.length∧s4= .int .i64 x∧RGP wr W0.heap.size w1.heap.size H.length (oP H x 0) Av cv∧Below W0.heap.size W0 wr) (fun s4 _=>H.length-(intOf s4).toNat);case atStart=>exact⟨0,Nat.zero_le _,by go_num,by rw[Mx];exact hP,hb5⟩
 case round=>
  obtain⟨x,hx,rfl,hPr,hbr⟩:=hrel;have hx1:(0:Int)≤(x:Int):=Int.natCast_nonneg _;have c0:=hPr.c0;have c1:=hPr.c1;by_cases hlt:x<H.length
  ·have hx2:(x:Int)<(H.length:Int):=(by omega);obtain⟨bt,ot,Aw,cw,Ar,cr,hA,hKb,-,-,d2,-,hrs⟩:=hT.out.at_ hlt;subst hA;replace d2:=(hbr.cell (p:=⟨bt,ot+x*3+2,none⟩) hKb).trans d2;have k1q:=k1.below hbr k1.lt;have a0:=Blk.n0 k1q;obtain⟨R,hR⟩:∃R,H[x].reads=R:=⟨_,rfl⟩;have hRt:(aP H x).reads=R:=(by rw[aQ hlt];exact hR);have hR9:R.length≤1000000:=(by rw[←hR];exact(hn.2 _ (List.getElem_mem hlt)).2);rw[hR]at hrs d2;clear hR;replace hRt:=hide hRt;replace hrs:=hide hrs;go_wp2_with fail;clear c0 c1 a0 d2 k1q;go_loopw [6] (fun s6 wq=>∃i:Nat,i≤R.length∧s6= .int .i64 i∧RGP wq W0.heap.size w1.heap.size H.length (oP H x i) Av cv∧Below W0.heap.size W0 wq) (fun s6 _=>R.length-(intOf s6).toNat);case atStart=>exact⟨0,Nat.zero_le _,by go_num,hPr,hbr⟩
   case round=>
    obtain⟨i,hi,rfl,hPi,hbi⟩:=hrel;have hi1:(0:Int)≤(i:Int):=Int.natCast_nonneg _;by_cases hlq:i<R.length
    ·have hi2:(i:Int)<(R.length:Int):=(by omega);clear hPr;have hend:=hide (fun a b (hb:b<H.length)=>MB (a:=a) hRt.out hlq hb);have hRi:Hid (∀wq,Below W0.heap.size W0 wq→∃b off,Ar=some ⟨b,off,none⟩∧wq.cell? ⟨b,off+i*2,none⟩=some (.int .i64 R[i].a)∧wq.cell? ⟨b,off+i*2+1,none⟩=some (.int .i64 R[i].b)):=hide fun wq hq=>by
      obtain⟨b,off,g1,-,g2,g3⟩:=(hrs.out.below hq).at_ hlq;exact⟨b,off,g1,g2,g3⟩
     generalize R[i]=r at*;go_wp2_with fail;go_loopw [7] (fun s7 wq=>∃y:Nat,y≤H.length∧s7= .int .i64 y∧RGP wq W0.heap.size w1.heap.size H.length (orE (oP H x i) (wL x y (inP H x r))) Av cv∧Below W0.heap.size W0 wq) (fun s7 _=>H.length-(intOf s7).toNat);case atStart=>exact⟨0,Nat.zero_le _,by go_num,by rw[Mt];exact hPi,hbi⟩
     case round=>
      obtain⟨y,hy,rfl,hPy,hby⟩:=hrel;have hy1:(0:Int)≤(y:Int):=Int.natCast_nonneg _;have c0:=hPy.c0;by_cases hly:y<H.length
      ·have hy2:(y:Int)<(H.length:Int):=(by omega);obtain⟨br,orr,rfl,z0,-⟩:=hRi.out _ hby;obtain⟨bt',ot',Aw',cw',Ar',cr',e',hKb',d0,d1,d2,hws,-⟩:=(hT.out.below hby).at_ hly;injection e' with e'
       injection e' with e1 e2
       subst e1 e2;have k1y:=k1.below hby k1.lt;have a0:=Blk.n0 k1y;have hwl:H[y].writes.length≤maxLen:=(by have:=(hn.2 _ (List.getElem_mem hly)).1;unfold maxLen;omega);have hst:=hide (Mv (E:=oP H x i) (t:=x) (w:=y) (P:=inP H x r));have hsk:=hide (Mw (E:=oP H x i) (t:=x) (w:=y) (P:=inP H x r));have FZ:Hid (inP H x r y=(decide (x≠y)&&(decide (r.b= -1)&&H[y].writes.contains r.a))):=hide (by unfold inP;rw[aQ hly]);have hcw:=hide (eH H[y].bL Aw' cw' H[y].writes (.slice Ar' H[y].reads.length cr') r.a (Old wr) wr.drew (hws.keep (Agree.drew _ _) (fun b h=>h)) (fun b h=>h) hwl);generalize H[y].writes=L at*;generalize H[y].bL=sy at*;generalize H[y].reads=Ry at*;generalize L.contains r.a=cb at*;go_wp2_with fail;refine wp_region_still_tail 10 (by kernel_rfl) (by kernel_rfl) ?_;simp only[List.take_succ_cons,List.take_zero,List.drop_succ_cons,List.drop_zero];repeat still_step
       refine wpStill_nil ?_;go_wp2_with fail;refine hcw.out.mono ?_;rintro e w3 ⟨rfl,hb3⟩;have hb4:=(aZ hby).trans (hb3.mono hby.size);have hP4:=hPy.drew.below hb3 (Nat.le_refl _);obtain⟨br',or',e',-,z1⟩:=hRi.out _ hb4;injection e' with e'
       injection e' with e1 e2
       subst e1 e2;clear hcw hPy hPi hbi hby hb3 a0 d0 d1 d2 hws c0 k1y z0;cases cb with
       |false=>
        have hE2:=hide (hsk.out (by rw[FZ.out];simp));clear hst hsk FZ;go_wp2;go_roundw;case rel=>exact⟨y+1,by omega,by go_num,by rw[hE2.out];exact hP4,hb4⟩
        case measure=>simp[intOf];omega
       |true=>
        by_cases hm1:r.b= -1
        ·have hmb:(r.b==(-1))=true:=(by simpa using hm1);by_cases hxy:x=y
         ·have hxb:((y:Int) !=(x:Int))=false:=(by subst hxy;simp);have hE2:=hide (hsk.out (by rw[FZ.out];simp[hxy]));clear hst hsk FZ hm1 hxy;go_wp2;go_roundw;case rel=>exact⟨y+1,by omega,by go_num,by rw[hE2.out];exact hP4,hb4⟩
          case measure=>simp[intOf];omega
         ·have hxb:((y:Int) !=(x:Int))=true:=(by simp;omega);have hE2:=hide (hst.out (by rw[FZ.out];simp[hxy,hm1]));go_wp2_with fail;clear z1 hmb hxb hm1 hxy;obtain⟨g,rfl,hX⟩:=hP4.at_ hlt;have hP5:=hide (hX.add (y:=y) hlt hly).drew;have hb5:=hide (aZ (hb4.setCell (p:=⟨g,x,none⟩) hX.B (.int .u64 (eZ (aX ((orE (oP H x i) (wL x y (inP H x r))) x) H.length) (y:Int):Nat))));obtain⟨-,c0,c1,d0,df,gp,gl,-,h64⟩:=hX;clear hst hsk FZ hP4 hb4;generalize aX ((orE (oP H x i) (wL x y (inP H x r))) x) H.length=s at*;go_upto_region 14 with fail;refine wp_region_still_tail 11 (by kernel_rfl) (by kernel_rfl) ?_;simp only[List.take_succ_cons,List.take_zero,List.drop_succ_cons,List.drop_zero];repeat still_step
          still_call ((eD _ h64 _ _).mono fun _ _ h=>⟨h.1,h.2.symm⟩)
          repeat still_step
          refine wpStill_nil ?_;change wpList _ _ _ _ _ (w3).drew;go_wp2;go_roundw;case rel=>exact⟨y+1,by omega,by go_num,by rw[hE2.out];exact hP5.out,hb5.out⟩
          case measure=>simp[intOf];omega
        ·have hmb:(r.b==(-1))=false:=(by simpa using hm1);have hE2:=hide (hsk.out (by rw[FZ.out];simp[hm1]));clear hst hsk FZ hm1;go_wp2;go_roundw;case rel=>exact⟨y+1,by omega,by go_num,by rw[hE2.out];exact hP4,hb4⟩
         case measure=>simp[intOf];omega
      ·obtain rfl:y=H.length:=(by omega);have hP4:=hide (hPy.congr (F:=oP H x (i+1)) fun a b _ hb=>hend.out a b hb);clear hPy hPi;go_wp2;go_roundw;case rel=>exact⟨i+1,by omega,by go_num,hP4.out,hby⟩
       case measure=>simp[intOf];omega
    ·obtain rfl:i=R.length:=(by omega);rw[Pz hRt.out]at hPi;clear hPr;go_wp2;go_roundw;case rel=>exact⟨x+1,by omega,by go_num,hPi,hbi⟩
     case measure=>simp[intOf];omega
  ·obtain rfl:x=H.length:=(by omega);have hP4:=hPr.congr (F:=mo H) fun a b ha _=>PD ha;have k3r:=k3.below hbr k3.lt;have f0:=k3r.frozen 0;have f1:=k3r.frozen 1;have e0:=k3r.cell 0;have e1:=k3r.cell 1;have hs0:=s0.out;have hs3:w.heap.size+1<W0.heap.size:=k3.lt;have hR:=hide (((hP4.rg.far (p:=⟨w.heap.size+1,0,none⟩) hs3 (.int .i64 H.length)).far (p:=⟨w.heap.size+1,1,none⟩) hs3 (.slice Av H.length cv)).base (B':=w.heap.size) (by omega));have hz:=hide (((hb.trans (hbr.mono hb.size)).setCell (p:=⟨w.heap.size+1,0,none⟩) (by simp;try omega) (.int .i64 H.length)).setCell (p:=⟨w.heap.size+1,1,none⟩) (by simp;try omega) (.slice Av H.length cv));have hq:=(k3r.aH 0 (.int .i64 H.length)).aH 1 (.slice Av H.length cv);simp only[sA,sZ,sS]at hq;have y0:=hq.cell 0;have y1:=hq.cell 1;simp only[gA,gZ,gS]at y0 y1 e0 e1;clear hq hs0 hs3;go_wp2_with fail;exact bodyPost_ret (v:= .agg #[.int .i64 H.length,.slice Av H.length cv]) (by simp[results,Tryz.results109,go_sem,y0,y1]) rfl ⟨_,rfl,hR.out,hz.out⟩
def eU(n:Nat)(E F:aj)(x y z:Nat):aj:=fun a c=>(List.range n).any fun b=>(E a b&&F b c)&&(decide (a<x)||(decide (a=x)&&(decide (b<y)||(decide (b=y)&&decide (c<z)))))
theorem dJ{n:Nat}{E F:aj}{x y z a c:Nat}:eU n E F x y z a c=true↔∃b,b<n∧(E a b=true∧F b c=true)∧(a<x∨(a=x∧(b<y∨(b=y∧c<z)))):=by
 unfold eU;simp[List.any_eq_true]
theorem F3(n:Nat)(E F:aj):eU n E F 0 0 0=noE:=by
 funext a c;rw[Bool.eq_iff_iff,dJ];simp[noE]
theorem F4{n:Nat}{E F:aj}{x y z:Nat}(hy:y<n)(h1:E x y=true)(h2:F y z=true):eU n E F x y (z+1)=orE (eU n E F x y z) (gT x z):=by
 funext a c;rw[Bool.eq_iff_iff];unfold orE gT;rw[Bool.or_eq_true,dJ,dJ];simp;constructor
 ·rintro⟨b,hb,h3,h4⟩;by_cases e:a=x∧b=y∧c=z
  ·exact .inr ⟨e.1,e.2.2⟩
  ·exact .inl ⟨b,hb,h3,by omega⟩
 ·rintro(⟨b,hb,h3,h4⟩|⟨rfl,rfl⟩)
  ·exact⟨b,hb,h3,by omega⟩
  ·exact⟨y,hy,⟨h1,h2⟩,by omega⟩
theorem F5{n:Nat}{E F:aj}{x y z:Nat}(h:F y z=false):eU n E F x y (z+1)=eU n E F x y z:=by
 funext a c;rw[Bool.eq_iff_iff,dJ,dJ];constructor
 ·rintro⟨b,hb,h3,h4⟩;by_cases e:b=y∧c=z
  ·rw[e.1,e.2,h]at h3;cases h3.2
  ·exact⟨b,hb,h3,by omega⟩
 ·rintro⟨b,hb,h3,h4⟩;exact⟨b,hb,h3,by omega⟩
theorem I6{n:Nat}{E F:aj}{x y a c:Nat}(hc:c<n):eU n E F x y n a c=eU n E F x (y+1) 0 a c:=by
 rw[Bool.eq_iff_iff,dJ,dJ];constructor
 ·rintro⟨b,hb,h3,h4⟩;exact⟨b,hb,h3,by omega⟩
 ·rintro⟨b,hb,h3,h4⟩;exact⟨b,hb,h3,by omega⟩
theorem MC{n:Nat}{E F:aj}{x y:Nat}(h:E x y=false):eU n E F x (y+1) 0=eU n E F x y 0:=by
 funext a c;rw[Bool.eq_iff_iff,dJ,dJ];constructor
 ·rintro⟨b,hb,h3,h4⟩;by_cases e:a=x∧b=y
  ·rw[e.1,e.2,h]at h3;cases h3.1
  ·exact⟨b,hb,h3,by omega⟩
 ·rintro⟨b,hb,h3,h4⟩;exact⟨b,hb,h3,by omega⟩
theorem F6{n:Nat}{E F:aj}{x a c:Nat}:eU n E F x n 0 a c=eU n E F (x+1) 0 0 a c:=by
 rw[Bool.eq_iff_iff,dJ,dJ];constructor
 ·rintro⟨b,hb,h3,h4⟩;exact⟨b,hb,h3,by omega⟩
 ·rintro⟨b,hb,h3,h4⟩;exact⟨b,hb,h3,by omega⟩
theorem I7{n:Nat}{E F:aj}{a c:Nat}(ha:a<n):eU n E F n 0 0 a c=lN n E F a c:=by
 rw[Bool.eq_iff_iff,dJ];unfold lN;rw[List.any_eq_true];constructor
 ·rintro⟨b,hb,h3,_⟩;exact⟨b,List.mem_range.2 hb,by rw[h3.1,h3.2];rfl⟩
 ·rintro⟨b,hb,h3⟩;rw[Bool.and_eq_true]at h3;exact⟨b,List.mem_range.1 hb,h3,.inl ha⟩
set_option maxRecDepth 100000 in
theorem F7(n:Nat)(A:Option Addr)(c:Nat)(E:aj)(A2:Option Addr)(c2:Nat)(F:aj)(K:Nat→Prop)(w:World)(h:GrS w K n A c E)(h2:GrS w K n A2 c2 F)(hK:∀b,K b→b<w.heap.size):
 Calls Tryz.prog 66 #[.agg #[.int .i64 n,.slice A n c],.agg #[.int .i64 n,.slice A2 n c2]] w (za w n (lN n E F)):=by
 have dK:=h.n64;go_enter Tryz.func66,Tryz.ntmps66;go_upto_region 1 with fail;obtain⟨W0,hW0⟩:∃W0,((w.alloc (.cells #[.int .i64 n,.slice A n c] 89)).alloc (.cells #[.int .i64 n,.slice A2 n c2] 89)).alloc (.cells #[.int .i64 0,.slice none 0 0] 89)=W0:=⟨_,rfl⟩;rw[hW0];have hb:=gJ hW0;have k1:=Blk.vK hW0;have k2:=Blk.sj hW0;have k3:=Blk.su hW0;have s0:=sw hW0;have hg:=hide (h.keep (Agree.below hb hK) (fun b hb=>hb));have hg2:=hide (h2.keep (Agree.below hb hK) (fun b hb=>hb));have hKW:Hid (∀b,K b→b<W0.heap.size):=hide fun b hb=>(by have:=hK b hb;omega);clear hW0 h h2;have c0:=Blk.n0 k1;have c1:=Blk.n1 k1;replace s0:=hide s0;go_wp2_with fail;refine(jr n dK W0).mono ?_;rintro e w1 ⟨v,rfl,hR,hb1⟩;clear c0 c1;obtain⟨Av,cv,rfl,-⟩:=hR.gr dK (K:=fun _=>True) (fun _ _ _=>trivial);go_upto_region 2 with fail;obtain⟨W5,hW5⟩:∃W5,w1.alloc (.cells #[.int .i64 n,.slice Av n cv] 89)=W5:=⟨_,rfl⟩;rw[hW5];have hP:=RGP.start hR dK hW5;have hs1:=hb1.size;have hb5:=ah hb1 hW5 hs1;clear hW5 hR hb1;go_wp2_with fail;go_loopw [6] (fun s6 wr=>∃x:Nat,x≤n∧s6= .int .i64 x∧RGP wr W0.heap.size w1.heap.size n (eU n E F x 0 0) Av cv∧Below W0.heap.size W0 wr) (fun s6 _=>n-(intOf s6).toNat);case atStart=>exact⟨0,Nat.zero_le _,by go_num,by rw[F3];exact hP,hb5⟩
 case round=>
  obtain⟨x,hx,rfl,hPr,hbr⟩:=hrel;have hx1:(0:Int)≤(x:Int):=Int.natCast_nonneg _;have c0:=hPr.c0;have c1:=hPr.c1;have k1r:=k1.below hbr k1.lt;have a0:=Blk.n0 k1r;by_cases hlt:x<n
  ·have hx2:(x:Int)<(n:Int):=(by omega);go_wp2_with fail;clear c0 c1 a0 k1r;go_loopw [7] (fun s7 wq=>∃y:Nat,y≤n∧s7= .int .i64 y∧RGP wq W0.heap.size w1.heap.size n (eU n E F x y 0) Av cv∧Below W0.heap.size W0 wq) (fun s7 _=>n-(intOf s7).toNat);case atStart=>exact⟨0,Nat.zero_le _,by go_num,hPr,hbr⟩
   case round=>
    obtain⟨y,hy,rfl,hPq,hbq⟩:=hrel;have hy1:(0:Int)≤(y:Int):=Int.natCast_nonneg _;have k1q:=k1.below hbq k1.lt;have a0:=Blk.n0 k1q;have a1:=Blk.n1 k1q;by_cases hlq:y<n
    ·have hy2:(y:Int)<(n:Int):=(by omega);have hgq:=hide (hg.out.keep (Agree.below hbq hKW.out) (fun b hb=>hb));have hc1:=hide (gM n A c E x y K wr hgq.out (fun b hb=>Nat.lt_of_lt_of_le (hKW.out b hb) hbq.size) hlt hlq);have hno:=hide (MC (n:=n) (E:=E) (F:=F) (x:=x) (y:=y));have hyes:=hide (fun z (h1:E x y=true) (h2:F y z=true)=>F4 (n:=n) hlq h1 h2);generalize E x y=e1 at*;go_wp2_with fail;clear a0 a1;refine hc1.out.mono ?_;rintro e w2 ⟨rfl,hb2⟩;have hbz:=hbq.trans (hb2.mono hbq.size);have hPz:=hPq.below hb2 (Nat.le_refl _);clear hc1 hPq hPr k1q;cases e1 with
     |false=>
      have hE2:=hide (hno.out rfl);clear hno hyes;go_wp2;go_roundw;case rel=>exact⟨y+1,by omega,by go_num,by rw[hE2.out];exact hPz,hbz⟩
      case measure=>simp[intOf];omega
     |true=>
      clear hno;go_wp2_with fail;go_loopw [9] (fun s9 wq=>∃z:Nat,z≤n∧s9= .int .i64 z∧RGP wq W0.heap.size w1.heap.size n (eU n E F x y z) Av cv∧Below W0.heap.size W0 wq) (fun s9 _=>n-(intOf s9).toNat);case atStart=>exact⟨0,Nat.zero_le _,by go_num,hPz,hbz⟩
      case round=>
       obtain⟨z,hz,rfl,hPz,hbz⟩:=hrel;have hz1:(0:Int)≤(z:Int):=Int.natCast_nonneg _;have k1z:=k1.below hbz k1.lt;have k2z:=k2.below hbz k2.lt;have a0:=Blk.n0 k1z;have b0:=Blk.n0 k2z;have b1:=Blk.n1 k2z;by_cases hlz:z<n
       ·have hz2:(z:Int)<(n:Int):=(by omega);have hgz:=hide (hg2.out.keep (Agree.below hbz hKW.out) (fun b hb=>hb));have hc2:=hide (gM n A2 c2 F y z K wr hgz.out (fun b hb=>Nat.lt_of_lt_of_le (hKW.out b hb) hbz.size) hlq hlz);have hst:=hide (hyes.out z trivial);have hsk:=hide (F5 (n:=n) (E:=E) (F:=F) (x:=x) (y:=y) (z:=z));generalize F y z=e2 at*;go_wp2_with fail;clear b0 b1 k2z a0 k1z;refine hc2.out.mono ?_;rintro e w3 ⟨rfl,hb3⟩;have hb4:=hbz.trans (hb3.mono hbz.size);have hP4:=hPz.below hb3 (Nat.le_refl _);clear hc2 hbz hPz hgz hgq hbq hb3 hb2;cases e2 with
        |false=>
         have hE2:=hide (hsk.out rfl);clear hst hsk;go_wp2;go_roundw;case rel=>exact⟨z+1,by omega,by go_num,by rw[hE2.out];exact hP4,hb4⟩
         case measure=>simp[intOf];omega
        |true=>
         have hE2:=hide (hst.out rfl);obtain⟨g,rfl,hX⟩:=hP4.at_ hlt;have hP5:=hide (hX.add (y:=z) hlt hlz).drew;have hb5:=hide (aZ (hb4.setCell (p:=⟨g,x,none⟩) hX.B (.int .u64 (eZ (aX ((eU n E F x y z) x) n) (z:Int):Nat))));obtain⟨-,c0,c1,d0,df,gp,gl,-,h64⟩:=hX;clear hst hsk hP4 hb4;generalize aX ((eU n E F x y z) x) n=s at*;go_upto_region 15 with fail;refine wp_region_still_tail 11 (by kernel_rfl) (by kernel_rfl) ?_;simp only[List.take_succ_cons,List.take_zero,List.drop_succ_cons,List.drop_zero];repeat still_step
         still_call ((eD _ h64 _ _).mono fun _ _ h=>⟨h.1,h.2.symm⟩)
         repeat still_step
         refine wpStill_nil ?_;change wpList _ _ _ _ _ (w3).drew;go_wp2;go_roundw;case rel=>exact⟨z+1,by omega,by go_num,by rw[hE2.out];exact hP5.out,hb5.out⟩
         case measure=>simp[intOf];omega
       ·obtain rfl:z=n:=(by omega);have hP4:=hide (hPz.congr (F:=eU z E F x (y+1) 0) fun a b _ hb=>I6 hb);clear hPz;go_wp2;go_roundw;case rel=>exact⟨y+1,by omega,by go_num,hP4.out,hbz⟩
        case measure=>simp[intOf];omega
    ·obtain rfl:y=n:=(by omega);have hP4:=hide (hPq.congr (F:=eU y E F (x+1) 0 0) fun a b _ hb=>F6);clear hPq hPr;go_wp2;go_roundw;case rel=>exact⟨x+1,by omega,by go_num,hP4.out,hbq⟩
     case measure=>simp[intOf];omega
  ·obtain rfl:x=n:=(by omega);have hP4:=hPr.congr (F:=lN x E F) fun a b ha _=>I7 ha;have k3r:=k3.below hbr k3.lt;have f0:=k3r.frozen 0;have f1:=k3r.frozen 1;have e0:=k3r.cell 0;have e1:=k3r.cell 1;have hs0:=s0.out;have hs3:w.heap.size+1+1<W0.heap.size:=k3.lt;have hR:=hide (((hP4.rg.far (p:=⟨w.heap.size+1+1,0,none⟩) hs3 (.int .i64 x)).far (p:=⟨w.heap.size+1+1,1,none⟩) hs3 (.slice Av x cv)).base (B':=w.heap.size) (by omega));have hz:=hide (((hb.trans (hbr.mono hb.size)).setCell (p:=⟨w.heap.size+1+1,0,none⟩) (by simp;try omega) (.int .i64 x)).setCell (p:=⟨w.heap.size+1+1,1,none⟩) (by simp;try omega) (.slice Av x cv));have hq:=(k3r.aH 0 (.int .i64 x)).aH 1 (.slice Av x cv);simp only[sA,sZ,sS]at hq;have y0:=hq.cell 0;have y1:=hq.cell 1;simp only[gA,gZ,gS]at y0 y1 e0 e1;clear hq hs0 hs3;go_wp2_with fail;exact bodyPost_ret (v:= .agg #[.int .i64 x,.slice Av x cv]) (by simp[results,Tryz.results66,go_sem,y0,y1]) rfl ⟨_,rfl,hR.out,hz.out⟩
set_option maxHeartbeats 4000000
def GVR(base n:Nat)(E:aj)(v:Value)(W:World):Prop:=∃A c,v= .agg #[.int .i64 n,.slice A n c]∧RG W base n E (.slice A n c)
def oq(b:Nat)(W W':World):Prop:=
 (W'.os=W.os∧W'.tape=W.tape∧W'.output=W.output∧W.heap.size≤W'.heap.size)∧∀k,k<W.heap.size→W'.heap[k]?=W.heap[k]?∨(b≤k∧∃cs cs',W.heap[k]?=some (.cells cs 89 (0,0))∧W'.heap[k]?=some (.cells cs' 89 (0,0))∧cs'.size=2)
theorem oq.of_below{b:Nat}{W W':World}(h:Below W.heap.size W W'):oq b W W':=⟨⟨h.os,h.tape,h.output,h.size⟩,fun k hk=> .inl (h.block k hk)⟩
theorem oq.blk{b g:Nat}{t:TypeId}{cs:Array Value}{W W':World}(h:oq b W W')(hk:Blk W g t cs)(ht:t≠89):Blk W' g t cs:=by
 rcases h.2 g hk.lt with e|⟨_,cs1,_,e,_⟩
 ·exact e.trans hk
 ·rw[show W.heap[g]?=_ from hk]at e;injection e with e
  injection e with _ e
  exact absurd e ht
theorem GVR.var{base n b:Nat}{E:aj}{v:Value}{W W':World}(h:GVR base n E v W)(hb:oq b W W'):GVR base n E v W':=by
 obtain⟨A,c,h1,h2⟩:=h;refine⟨A,c,h1,?_⟩;rcases h2 with h2|⟨g,cap,cur,h2,h3,h4,r⟩
 ·exact .inl h2
 ·exact .inr ⟨g,cap,cur,h2,h3,hb.blk h4 (by decide),r⟩
theorem GVR.of{W0 W:World}{base n:Nat}{E:aj}{e:Ending}(hn:n≤64)(hB:base≤W0.heap.size)(h:za W0 n E e W):∃v,e= .returned v∧GVR base n E v W∧Below W0.heap.size W0 W:=by
 obtain⟨u,rfl,hR,hb⟩:=h;obtain⟨A,c,rfl,-⟩:=hR.gr hn (K:=fun _=>True) (fun _ _ _=>trivial);exact⟨_,rfl,⟨A,c,rfl,hR.base hB⟩,hb⟩
theorem GVR.gr{W:World}{base n:Nat}{E:aj}{v:Value}(hn:n≤64)(h:GVR base n E v W):∃A c,v= .agg #[.int .i64 n,.slice A n c]∧GrS W (Old W) n A c E∧RG W base n E (.slice A n c):=by
 obtain⟨A,c,rfl,hR⟩:=h;obtain⟨A',c',e,hg⟩:=hR.gr hn (K:=Old W) (fun g _ h=>h);simp only[Value.slice.injEq,true_and]at e;obtain⟨rfl,rfl⟩:=e;exact⟨A,c,rfl,hg,hR⟩
def zX(b:Nat)(v:Value)(W:World):Prop:=∃g,b≤g∧v= .pointer (some ⟨g,0,none⟩)∧∃x y,Blk W g 89 #[x,y]
theorem zX.var{b b':Nat}{v:Value}{W W':World}(h:zX b v W)(hs:oq b' W W'):zX b v W':=by
 obtain⟨g,h1,h2,x,y,h3⟩:=h;rcases hs.2 g h3.lt with e|⟨_,cs,cs',_,e2,e3⟩
 ·exact⟨g,h1,h2,x,y,e.trans h3⟩
 ·refine⟨g,h1,h2,cs'[0]'(by omega),cs'[1]'(by omega),?_⟩;have:cs'=#[cs'[0]'(by omega),cs'[1]'(by omega)]:=by
   refine Array.ext (by simp[e3]) fun i h1 h2=> ?_;simp at h2
   match i,h2 with
   |0,_=>rfl
   |1,_=>rfl
  unfold Blk;rw[←this];exact e2
def jy(H:List Txn)(A:Option Addr)(c base:Nat):Nat→(Nat→Value)→World→Prop
 |0,vs,_=>vs 0= .agg #[.slice A H.length c]
 |1,vs,W=>GVR base H.length (soE H) (vs 1) W
 |2,vs,_=>vs 2= .agg #[.slice A H.length c]
 |3,vs,W=>GVR base H.length (wrE H) (vs 3) W
 |4,vs,W=>GVR base H.length (d9 H) (vs 4) W
 |5,vs,W=>zX base (vs 5) W
 |6,vs,W=>∃g x y,vs 5= .pointer (some ⟨g,0,none⟩)∧base≤g∧vs 4= .agg #[x,y]∧Blk W g 89 #[x,y]
 |_,_,_=>True
def lG:Nat→List Nat
 |1=>[0]
 |3=>[2]
 |4=>[1,3]
 |6=>[5,4]
 |_=>[]
theorem PE{H:List Txn}{A:Option Addr}{c base:Nat}:∀j (vs vs':Nat→Value) w,(∀k,k=j∨k∈lG j→vs k=vs' k)→jy H A c base j vs w→jy H A c base j vs' w:=by
 intro j vs vs' w hk h
 match j,h with
 |0,h|1,h|2,h|3,h|4,h|5,h=>
  simp only[jy]at h⊢;rw[←hk _ (.inl rfl)];exact h
 |6,h=>
  simp only[jy]at h⊢;rw[←hk 5 (.inr (by simp[lG])),←hk 4 (.inr (by simp[lG]))];exact h
 |n+7,_=>trivial
def iW(s base:Nat)(i:Nat)(W W':World):Prop:=if i=s then oq base W W' else Below W.heap.size W W'
theorem iW.var{s base i:Nat}{W W':World}(h:iW s base i W W'):oq base W W':=by
 unfold iW at h;split at h
 ·exact h
 ·exact oq.of_below h
theorem I8{H:List Txn}{A:Option Addr}{c base:Nat}:∀i j (vs:Nat→Value) w w',j≠i→j∉(fun _=>[]:Nat→List Nat) i→jy H A c base j vs w→iW 6 base i w w'→jy H A c base j vs w':=by
 intro i j vs w w' hne _ h hs;have hv:=hs.var
 match j,h with
 |0,h|2,h=>exact h
 |1,h|3,h|4,h=>
  simp only[jy]at h⊢;exact h.var hv
 |5,h=>
  simp only[jy]at h⊢;exact zX.var h hv
 |6,h=>
  unfold iW at hs;rw[if_neg (fun e=>hne e.symm)]at hs;simp only[jy]at h⊢;obtain⟨g,x,y,h1,h2,h3,h4⟩:=h;exact⟨g,x,y,h1,h2,h3,h4.below hs h4.lt⟩
 |n+7,_=>trivial
theorem I9:∀i,7≤i→lG i=[]:=by
 intro i hi
 match i,hi with
 |n+7,_=>rfl
set_option maxRecDepth 100000 in
theorem F8(A:Option Addr)(c:Nat)(H:List Txn)(w:World)(h:aC w (Old w) (.slice A H.length c) H)(hr:aG H=true)(hn:aA H):
 Calls Tryz.prog 63 #[.agg #[.slice A H.length c]] w (za w H.length (d9 H)):=by
 obtain⟨W0,hW0⟩:∃W0,(w.alloc (.cells #[.slice A H.length c] 24)).alloc (.cells #[.int .i64 0,.slice none 0 0] 89)=W0:=⟨_,rfl⟩;have hB:=aF hW0;have k0:=Blk.fG hW0;have k1:=Blk.eP hW0;have h32:H.length≤64:=(by have:=((aD H).1 hr).1;omega);go_enter Tryz.func63,Tryz.ntmps63;go_wp2_with fail;clear hW0;refine ig (jy H A c (w.heap.size+2)) (fun W=>Below w.heap.size w W∧Blk W w.heap.size 24 #[.slice A H.length c]∧Blk W (w.heap.size+1) 89 #[.int .i64 0,.slice none 0 0]) (iW 6 (w.heap.size+2)) lG (by kernel_rfl) (by kernel_rfl) (by kernel_rfl) I9 (fun _=>[]) (by kernel_rfl) PE I8 ⟨hB.drew,k0,k1⟩ ?hstep ?hend;case hstep=>
  intro i o ho vs W hS hd;obtain⟨hb,m0,m1⟩:=hS;have hT:=h.below hb;have hsz:w.heap.size+2≤W.heap.size:=m1.lt
  match i,ho with
  |0,ho|2,ho=>
   simp only[gZ,gS,Option.some.injEq]at ho;subst ho;simp only[acV,gA,gZ,gS,Act.put,sA,sZ,sS];have c0:=Blk.n0 m0;go_wp2;exact⟨rfl,.agg #[.slice A H.length c],rfl,rfl,⟨hb,m0,m1⟩,Below.refl _ _⟩
  |1,ho=>
   have d0:=hd 0 (by simp[lG]);simp only[jy]at d0;simp only[gZ,gS,Option.some.injEq]at ho;subst ho;simp only[acV,gA,gZ,gS,Act.put,sA,sZ,sS];rw[d0];go_wp2_with fail;refine(Mi A c H _ hT hr).mono ?_;intro e W2 hO;obtain⟨v,rfl,hG,hb2⟩:=GVR.of h32 hsz hO;go_wp2;exact⟨rfl,_,rfl,hG,⟨hb.trans (hb2.mono hb.size),m0.below hb2 m0.lt,m1.below hb2 m1.lt⟩,hb2⟩
  |3,ho=>
   have d0:=hd 2 (by simp[lG]);simp only[jy]at d0;simp only[gZ,gS,Option.some.injEq]at ho;subst ho;simp only[acV,gA,gZ,gS,Act.put,sA,sZ,sS];rw[d0];go_wp2_with fail;refine(Mr A c H _ hT hr hn).mono ?_;intro e W2 hO;obtain⟨v,rfl,hG,hb2⟩:=GVR.of h32 hsz hO;go_wp2;exact⟨rfl,_,rfl,hG,⟨hb.trans (hb2.mono hb.size),m0.below hb2 m0.lt,m1.below hb2 m1.lt⟩,hb2⟩
  |4,ho=>
   have g1:=hd 1 (by simp[lG]);have g3:=hd 3 (by simp[lG]);simp only[jy]at g1 g3;obtain⟨A1,c1,d1,q1,-⟩:=g1.gr h32;obtain⟨A3,c3,d3,q3,-⟩:=g3.gr h32;simp only[gZ,gS,Option.some.injEq]at ho;subst ho;simp only[acV,gA,gZ,gS,Act.put,sA,sZ,sS];rw[d1,d3];go_wp2_with fail;refine(jY H.length _ _ (soE H) _ _ (wrE H) (Old W) _ q1 q3 (fun b hb=>hb)).mono ?_;intro e W2 hO;obtain⟨v,rfl,hG,hb2⟩:=GVR.of h32 hsz hO;go_wp2;exact⟨rfl,_,rfl,hG,⟨hb.trans (hb2.mono hb.size),m0.below hb2 m0.lt,m1.below hb2 m1.lt⟩,hb2⟩
  |5,ho=>
   simp only[gZ,gS,Option.some.injEq]at ho;subst ho;simp only[acV,gA,gZ,gS,Act.put,sA,sZ,sS];go_wp2;exact⟨rfl,_,rfl,⟨W.heap.size,by omega,rfl,_,_,Blk.new _ _ _⟩,⟨hb.alloc hb.size _,m0.alloc _,m1.alloc _⟩,(Below.refl _ _).alloc (Nat.le_refl _) _⟩
  |6,ho=>
   obtain⟨g,hg,d8,x,y,q8⟩:=hd 5 (by simp[lG]);obtain⟨A6,c6,d6,q6⟩:=hd 4 (by simp[lG]);simp only[gZ,gS,Option.some.injEq]at ho;subst ho;simp only[acV,gA,gZ,gS,Act.put,sA,sZ,sS];rw[d8,d6];have c0:=Blk.n0 q8;have c1:=Blk.n1 q8;have f0:=q8.frozen 0;have f1:=q8.frozen 1;go_wp2;have hq:=(q8.aH 0 (.int .i64 H.length)).aH 1 (.slice A6 H.length c6);have n1:w.heap.size≠g:=(by omega);have n2:w.heap.size+1≠g:=(by omega);refine⟨rfl,undef,rfl,⟨g,_,_,(show cK vs 6 undef 5=_ from d8),hg,(show cK vs 6 undef 4=_ from d6),by simpa using hq⟩,⟨(hb.setCell (p:=⟨g,0,none⟩) (by simp;omega) _).setCell (p:=⟨g,1,none⟩) (by simp;omega) _,(m0.far n1 _).far n1 _,(m1.far n2 _).far n2 _⟩,?_⟩;unfold iW;rw[if_pos rfl];refine⟨⟨rfl,rfl,rfl,by simp⟩,fun k hk=> ?_⟩;by_cases e:k=g
   ·subst e;exact .inr ⟨hg,_,_,q8,hq,by simp⟩
   ·exact .inl ((Below.heap_setCell _ ⟨g,1,none⟩ _ k e).trans (Below.heap_setCell _ ⟨g,0,none⟩ _ k e))
  |n+7,ho=>simp at ho
 case hend=>
  rintro vs W ⟨hb,m0,m1⟩ hd;obtain⟨g,x,y,d8,hg,d6,q9⟩:=hd 6 (by simp) (by simp);obtain⟨A6,c6,d6',q6⟩:=hd 4 (by simp) (by simp);rw[d6]at d6';injection d6' with d6'
  simp only[Array.mk.injEq,List.cons.injEq,and_true]at d6';obtain⟨rfl,rfl⟩:=d6';clear hd;simp only[acV,gA,gZ,gS,Act.put,sA,sZ,sS,List.length_cons,List.length_nil,Nat.reduceAdd];rw[d8,d6];have c0:=Blk.n0 q9;have c1:=Blk.n1 q9;have j0:=Blk.n0 m1;have j1:=Blk.n1 m1;have jf:=m1.frozen 0;have jf1:=m1.frozen 1;go_wp2;have kF0:=((q6.far (p:=⟨w.heap.size+1,0,none⟩) (by simp) (.int .i64 H.length)).far (p:=⟨w.heap.size+1,1,none⟩) (by simp) (.slice A6 H.length c6)).base (B':=w.heap.size) (by omega);have hF:=((hb.setCell (p:=⟨w.heap.size+1,0,none⟩) (by simp) (.int .i64 H.length)).setCell (p:=⟨w.heap.size+1,1,none⟩) (by simp) (.slice A6 H.length c6));exact bodyPost_ret (v:= .agg #[.int .i64 H.length,.slice A6 H.length c6]) (by simp[results,Tryz.results63,go_sem,j0,j1]) rfl ⟨_,rfl,kF0,hF⟩
set_option maxHeartbeats 8000000
set_option maxRecDepth 100000 in
theorem ME(A:Option Addr)(c:Nat)(H:List Txn)(Al:Option Addr)(cl:Nat)(l:List Cho)(w:World)(h:aC w (Old w) (.slice A H.length c) H)(hl:aV w (Old w) (.slice Al l.length cl) l)(hr:dR H l=true):
 Calls Tryz.prog 64 #[.agg #[.slice A H.length c],.slice Al l.length cl] w (za w H.length (wwE l)):=by
 have dK:H.length≤64:=(by have:=((aD H).1 (iH hr)).1;omega);have hll:=kZ hr;have hcn:=hide (fun x hx=>nV hr (x:=x) hx);clear hr;go_enter Tryz.func64,Tryz.ntmps64;go_upto_region 1 with fail;obtain⟨W0,hW0⟩:∃W0,(w.alloc (.cells #[.slice A H.length c] 24)).alloc (.cells #[.int .i64 0,.slice none 0 0] 89)=W0:=⟨_,rfl⟩;rw[hW0];have hb:=aF hW0;have k1:=Blk.fG hW0;have k3:=Blk.eP hW0;have s0:=size_two hW0;have hT:=hide (h.below hb);clear hW0 h;have c0:=Blk.n0 k1;replace s0:=hide s0;go_wp2_with fail;refine(jr H.length dK W0).mono ?_;rintro e w1 ⟨v,rfl,hR,hb1⟩;clear c0;obtain⟨Av,cv,rfl,-⟩:=hR.gr dK (K:=fun _=>True) (fun _ _ _=>trivial);go_upto_region 2 with fail;obtain⟨W5,hW5⟩:∃W5,w1.alloc (.cells #[.int .i64 (H.length:Int),.slice Av H.length cv] 89)=W5:=⟨_,rfl⟩;rw[hW5];have hP:=RGP.start hR dK hW5;have hs1:=hb1.size;have hb5:=ah hb1 hW5 hs1;clear hW5 hR hb1;go_wp2_with fail;have hl0:=hide (hl.below hb);clear hl;go_loopw [6] (fun s6 wr=>∃k:Nat,k≤l.length∧s6= .int .i64 k∧RGP wr W0.heap.size w1.heap.size H.length (wwE (l.take k)) Av cv∧Below W0.heap.size W0 wr) (fun s6 _=>l.length-(intOf s6).toNat);case atStart=>exact⟨0,Nat.zero_le _,by go_num,by rw[List.take_zero,JN];exact hP,hb5⟩
 case round=>
  obtain⟨k,hk,rfl,hP4,hb4⟩:=hrel;have hk1:(0:Int)≤(k:Int):=Int.natCast_nonneg _;by_cases hlt:k<l.length
  ·have hk2:(k:Int)<(l.length:Int):=(by omega);obtain⟨b,off,rfl,_,-,y1,y2⟩:=(hl0.out.below hb4).at_ hlt;obtain⟨xa,xb,ha,hb',ha2,hb2⟩:=hcn.out _ (List.getElem_mem hlt);have hE2:=hide (EW hlt ha hb');rw[ha]at y1;rw[hb']at y2;have ha3:(xa:Int)<(H.length:Int):=(by omega);have ha4:(0:Int)≤(xa:Int):=Int.natCast_nonneg _;clear ha hb';go_wp2_with fail;obtain⟨g,rfl,hX⟩:=hP4.at_ ha2;have hP5:=hide (hX.add (y:=xb) ha2 hb2).drew;have hb5:=hide (aZ (hb4.setCell (p:=⟨g,xa,none⟩) hX.B (.int .u64 (eZ (aX ((wwE (l.take k)) xa) H.length) (xb:Int):Nat))));obtain⟨-,c0,c1,d0,df,gp,gl,-,h64⟩:=hX;clear hP hP4 hb4;generalize aX ((wwE (l.take k)) xa) H.length=s at*;go_upto_region 5 with fail;refine wp_region_still_tail 23 (by kernel_rfl) (by kernel_rfl) ?_;simp only[List.take_succ_cons,List.take_zero,List.drop_succ_cons,List.drop_zero];repeat still_step
   still_call ((eD _ h64 _ _).mono fun _ _ h=>⟨h.1,h.2.symm⟩)
   repeat still_step
   refine wpStill_nil ?_;change wpList _ _ _ _ _ (wr).drew;go_wp2;go_roundw;case rel=>exact⟨k+1,by omega,by go_num,by rw[←hE2.out];exact hP5.out,hb5.out⟩
   case measure=>simp[intOf];omega
  ·obtain rfl:k=l.length:=(by omega);rw[List.take_length]at hP4;have hbr:=hb4;have c0:=hP4.c0;have c1:=hP4.c1;have k3r:=k3.below hbr k3.lt;have f0:=k3r.frozen 0;have f1:=k3r.frozen 1;have e0:=k3r.cell 0;have e1:=k3r.cell 1;have hs0:=s0.out;have hs3:w.heap.size+1<W0.heap.size:=k3.lt;have hR:=hide (((hP4.rg.far (p:=⟨w.heap.size+1,0,none⟩) hs3 (.int .i64 H.length)).far (p:=⟨w.heap.size+1,1,none⟩) hs3 (.slice Av H.length cv)).base (B':=w.heap.size) (by omega));have hz:=hide (((hb.trans (hbr.mono hb.size)).setCell (p:=⟨w.heap.size+1,0,none⟩) (by simp;try omega) (.int .i64 H.length)).setCell (p:=⟨w.heap.size+1,1,none⟩) (by simp;try omega) (.slice Av H.length cv));have hq:=(k3r.aH 0 (.int .i64 H.length)).aH 1 (.slice Av H.length cv);simp only[sA,sZ,sS]at hq;have y0:=hq.cell 0;have y1:=hq.cell 1;simp only[gA,gZ,gS]at y0 y1 e0 e1;clear hq hs0 hs3;go_wp2_with fail;exact bodyPost_ret (v:= .agg #[.int .i64 H.length,.slice Av H.length cv]) (by simp[results,Tryz.results64,go_sem,y0,y1]) rfl ⟨_,rfl,hR.out,hz.out⟩
set_option maxHeartbeats 4000000
theorem PG{H:List Txn}{n:Nat}(h:n<H.length)(hb:(txF H n).all id=false):aG H=false:=by
 rw[←Bool.not_eq_true,aD];rintro⟨_,g⟩;rw[(C9 h).2 (g n h)]at hb;cases hb
theorem Ja{H:List Txn}(h:32<H.length):aG H=false:=by
 rw[←Bool.not_eq_true,aD];rintro⟨g,_⟩;omega
theorem MF{H:List Txn}(h:¬32<H.length)(hall:∀n,n<H.length→(txF H n).all id=true):aG H=true:=
 (aD H).2 ⟨by omega,fun j hj=>(C9 hj).1 (hall j hj)⟩
set_option maxRecDepth 100000 in
theorem F9(A:Option Addr)(c:Nat)(H:List Txn)(w:World)(h:aC w (Old w) (.slice A H.length c) H)(hs:SY H):
 Calls Tryz.prog 83 #[.agg #[.slice A H.length c]] w fun e w'=>e= .returned (.bool (aG H))∧Below w.heap.size w w':=by
 have hH:=hs.1;have hA:Below w.heap.size w (w.alloc (.cells #[.slice A H.length c] 24)):=(Below.refl _ _).alloc (Nat.le_refl _) _;have kH:Blk (w.alloc (.cells #[.slice A H.length c] 24)) w.heap.size 24 #[.slice A H.length c]:=Blk.new _ _ _;have y0:=Blk.n0 kH;by_cases h32:32<H.length
 ·have hb:decide ((H.length:Int)>32)=true:=(by simp;omega);have hr:=hide (Ja h32);clear h32;go_enter Tryz.func83,Tryz.ntmps83;go_wp2;go_ret;exact⟨by rw[hr.out];rfl,hA⟩
 ·have hb:decide ((H.length:Int)>32)=false:=(by simp;omega);have hno:=hide (fun n hn g=>PG (H:=H) (n:=n) hn g);have hyes:=hide (MF h32);clear h32;go_enter Tryz.func83,Tryz.ntmps83;go_wp2_with fail;clear y0;generalize w.alloc (.cells #[.slice A H.length c] 24)=W0 at*;go_loopw [3,4] (fun s3 _ wr=>∃n:Nat,n≤H.length∧s3= .int .i64 n∧Hid (∀j,j<n→(txF H j).all id=true)∧Below w.heap.size w wr∧Blk wr w.heap.size 24 #[.slice A H.length c]) (fun s3 _ _=>H.length-(intOf s3).toNat);case atStart=>exact⟨0,Nat.zero_le _,by go_num,fun j h=>absurd h (by omega),hA,kH⟩
  case round=>
   clear hA kH;obtain⟨n,hn,rfl,hall,hB,kH⟩:=hrel;have hn1:(0:Int)≤(n:Int):=Int.natCast_nonneg _;have y0:=Blk.n0 kH;by_cases hlt:n<H.length
   ·have hn2:(n:Int)<(H.length:Int):=(by omega);have hc:=Ms A c H n wr (aC.keep h (Agree.below hB fun b h=>h) (fun b h=>Nat.lt_of_lt_of_le h hB.size)) hlt hs;have zQ:=hide (hno.out n hlt);have hst:Hid ((txF H n).all id=true→∀j,j<n+1→(txF H j).all id=true):=fun g j hj=>by
     by_cases e:j=n
     ·subst e;exact g
     ·exact hall.out j (by omega)
    generalize(txF H n).all id=tb at*;go_wp2_with fail;refine hc.mono ?_;clear hc;rintro e w1 ⟨rfl,hb1⟩;have kH1:=kH.below hb1 kH.lt;have hB1:=hB.trans (hb1.mono hB.size);cases tb with
    |false=>
     have hr:=hide (zQ.out rfl);go_wp2;go_ret;exact⟨by rw[hr.out];rfl,hB1⟩
    |true=>
     have oK:=hide (hst.out rfl);go_wp2;go_roundw;case rel=>exact⟨n+1,by omega,by go_num,oK,hB1,kH1⟩
     case measure=>simp[intOf];omega
   ·have hr:=hide (hyes.out fun j hj=>hall.out j (by omega));go_wp2;go_ret;exact⟨by rw[hr.out];rfl,hB⟩
theorem gP(A:Option Addr)(c:Nat)(H:List Txn)(w:World)(h:aC w (Old w) (.slice A H.length c) H)(hs:aA H):
 Calls Tryz.prog 83 #[.agg #[.slice A H.length c]] w fun e w'=>e= .returned (.bool (aG H))∧Below w.heap.size w w':=F9 A c H w h hs.len
set_option maxHeartbeats 8000000
def jQ(R:List It)(key:Int):Int×Bool:=match R.find? (fun r=>r.a==key)with
 |some r=>(r.b,true)
 |none=>(0,false)
theorem MG{R:List It}{key:Int}{i:Nat}(hi:i<R.length)(h0:(R.take i).any (fun r=>r.a==key)=false)(h:(R[i].a==key)=true):jQ R key=(R[i].b,true):=by
 unfold jQ;have:R.find? (fun r=>r.a==key)=some R[i]:=by
  rw[List.find?_eq_some_iff_getElem];refine⟨h,i,hi,rfl,fun j hj=> ?_⟩;rw[List.any_eq_false]at h0;exact Bool.not_eq_true' _▸Bool.eq_false_iff.2 (h0 R[j] (List.mem_take_iff_getElem.2 ⟨j,by omega,rfl⟩))
 rw[this]
theorem Jb{R:List It}{key:Int}(h:R.any (fun r=>r.a==key)=false):jQ R key=(0,false):=by
 unfold jQ;have:R.find? (fun r=>r.a==key)=none:=by
  rw[List.find?_eq_none];intro r hr;exact(List.any_eq_false.1 h) r hr
 rw[this]
set_option maxRecDepth 100000 in
theorem xH(A:Option Addr)(c:Nat)(H:List Txn)(t:Nat)(key:Int)(w:World)(h:aC w (Old w) (.slice A H.length c) H)(hr:aG H=true)(hn:aA H)(ht:t<H.length):
 Calls Tryz.prog 145 #[.agg #[.slice A H.length c],.int .i64 (t:Int),.int .i64 key] w fun e w'=>e= .returned (.tuple #[.int .i64 (jQ H[t].reads key).1,.bool (jQ H[t].reads key).2])∧Below w.heap.size w w':=by
 obtain⟨W0,hW0⟩:∃W0,w.alloc (.cells #[.slice A H.length c] 24)=W0:=⟨_,rfl⟩;have hb:=ah (Below.refl w.heap.size w) hW0 (Nat.le_refl _);have k1:=Blk.newEq hW0;have h0:=h.below hb;have c0:=Blk.n0 k1;have hg1:decide ((t:Int)<0)=false:=(by simp);have hg2:decide ((t:Int)≥(H.length:Int))=false:=(by simp;omega);have ht1:(0:Int)≤(t:Int):=Int.natCast_nonneg _;have ht2:(t:Int)<(H.length:Int):=(by omega);have hR9:H[t].reads.length≤1000000:=(hn.2 _ (List.getElem_mem ht)).2;have hrc:=hide (gP A c H W0 h0 hn);rw[hr]at hrc;clear h;have hhit:=hide (fun i=>MG (R:=H[t].reads) (key:=key) (i:=i));have wo:=hide (Jb (R:=H[t].reads) (key:=key));generalize jQ H[t].reads key=F at*;obtain⟨F1,F2⟩:=F;go_enter Tryz.func145,Tryz.ntmps145;go_wp2_with fail;refine hrc.out.mono ?_;rintro e w1 ⟨rfl,hb1⟩;have hb2:=hb.trans (hb1.mono hb.size);replace k1:=k1.below hb1 k1.lt;obtain⟨bt,ot,Aw,cw,Ar,cr,hA,hKb,-,-,d2,-,hrs⟩:=(h0.below hb1).at_ ht;subst hA;clear c0 hrc h0 hb1 hW0 hr;have c0:=Blk.n0 k1;generalize H[t].reads=R at*;replace hb2:=hide hb2;replace hrs:=hide hrs;go_wp2_with fail;clear c0 d2 k1
 go_loop [10] (fun s10=>∃i:Nat,i≤R.length∧s10= .int .i64 i∧Hid ((R.take i).any (fun r=>r.a==key)=false)) (fun s10=>R.length-(intOf s10).toNat)
 case atStart=>exact⟨0,Nat.zero_le _,by go_num,hide (by simp)⟩
 case round=>
  obtain⟨i,hi,rfl,hc⟩:=hrel;have hi1:(0:Int)≤(i:Int):=Int.natCast_nonneg _;by_cases hlt:i<R.length
  ·have hi2:(i:Int)<(R.length:Int):=(by omega);obtain⟨br,orr,rfl,-,z0,z1⟩:=hrs.out.at_ hlt;have hst:Hid ((R.take (i+1)).any (fun r=>r.a==key)=((R.take i).any (fun r=>r.a==key)||R[i].a==key)):=hide (by rw[take_snoc' hlt,List.any_append];simp);have hh:=hide (fun g=>hhit.out i hlt hc.out g);generalize R[i]=r at*;obtain⟨ra,rb⟩:=r;dsimp only at*;cases hy:(ra==key)with
   |true=>
    have hr:=hh.out hy;simp only[Prod.mk.injEq]at hr;obtain⟨rfl,rfl⟩:=hr;clear hh hst wo hhit;replace hc:=hide hc;go_wp2;exact bodyPost_ret (v:= .tuple #[.int .i64 F1,.bool true]) (by simp[results,Tryz.results145,go_sem]) rfl ⟨rfl,hb2.out⟩
   |false=>
    have hr:Hid ((R.take (i+1)).any (fun r=>r.a==key)=false):=hide (by rw[hst.out,hc.out,hy];rfl);clear hh hst;replace hc:=hide hc;go_wp2
    go_round
    case rel=>exact⟨i+1,by omega,by go_num,hr⟩
    case measure=>simp[intOf];omega
  ·obtain rfl:i=R.length:=(by omega);have hr:=wo.out (by have:=hc.out;rwa[List.take_length]at this);simp only[Prod.mk.injEq]at hr;obtain⟨rfl,rfl⟩:=hr;clear wo hhit;replace hc:=hide hc;go_wp2;exact bodyPost_ret (v:= .tuple #[.int .i64 0,.bool false]) (by simp[results,Tryz.results145,go_sem]) rfl ⟨rfl,hb2.out⟩
def l6(H:List Txn)(key src:Int)(n:Nat):List Nat:=(List.range n).filter fun t=>jQ (aP H t).reads key==(src,true)
def Jc(H:List Txn)(key src:Int):List Nat:=l6 H key src H.length
theorem Jd(H:List Txn)(key src:Int)(n:Nat):l6 H key src (n+1)=l6 H key src n++(if jQ (aP H n).reads key==(src,true)then[n]else[]):=by
 unfold l6;rw[List.range_succ,List.filter_append];congr 1;rw[List.filter_cons,List.filter_nil]
theorem CX{R:List It}{key src:Int}(h:(R.map (·.a)).Pairwise (·<·)):jQ R key=(src,true)↔∃r∈R,r.a=key∧r.b=src:=by
 unfold jQ;cases hf:R.find? (fun r=>r.a==key)with
 |none=>
  rw[List.find?_eq_none]at hf;constructor
  ·intro e;cases e
  ·rintro⟨r,h1,h2,_⟩;exact absurd (by simpa using h2) (hf r h1)
 |some r=>
  have h1:=List.find?_some hf;have h2:=List.mem_of_find?_eq_some hf;have h1:r.a=key:=(by simpa using h1);dsimp only;rw[Prod.mk.injEq];constructor
  ·rintro⟨e,-⟩;exact⟨r,h2,h1,e⟩
  ·rintro⟨q,h3,h4,h5⟩;refine⟨?_,rfl⟩;obtain⟨i,hi,e1⟩:=List.getElem_of_mem h2;obtain⟨j,hj,e2⟩:=List.getElem_of_mem h3;rw[List.pairwise_iff_getElem]at h;rcases Nat.lt_trichotomy i j with g|g|g
   ·have:=h i j (by simpa using hi) (by simpa using hj) g;simp only[List.getElem_map,e1,e2]at this;omega
   ·subst g;rw[←e1,e2];exact h5
   ·have:=h j i (by simpa using hj) (by simpa using hi) g;simp only[List.getElem_map,e1,e2]at this;omega
theorem Ga{H:List Txn}(hr:aG H=true){key src:Int}{t:Nat}:t∈Jc H key src↔t<H.length∧∃r∈(aP H t).reads,r.a=key∧r.b=src:=by
 unfold Jc l6;rw[List.mem_filter,List.mem_range,beq_iff_eq];constructor
 ·rintro⟨h1,h2⟩;exact⟨h1,(CX (by rw[aQ h1];exact(((aD H).1 hr).2 t h1).Na)).1 h2⟩
 ·rintro⟨h1,h2⟩;exact⟨h1,(CX (by rw[aQ h1];exact(((aD H).1 hr).2 t h1).Na)).2 h2⟩
theorem CY(H:List Txn)(key src:Int)(n:Nat):(l6 H key src n).length≤n:=Nat.le_trans (List.length_filter_le _ _) (by simp)
set_option maxRecDepth 100000 in
theorem zY(A:Option Addr)(c:Nat)(H:List Txn)(key src:Int)(w:World)(h:aC w (Old w) (.slice A H.length c) H)(hr:aG H=true)(hn:aA H):
 Calls Tryz.prog 110 #[.agg #[.slice A H.length c],.int .i64 key,.int .i64 src] w (AO w (au (Jc H key src))):=by
 obtain⟨ii,hii,hi1,hi2,hi3⟩:=info_parts gU;have h32:H.length≤32:=((aD H).1 hr).1;obtain⟨W0,hW0⟩:∃W0,w.alloc (.cells #[.slice A H.length c] 24)=W0:=⟨_,rfl⟩;have hB:=ah (Below.refl w.heap.size w) hW0 (Nat.le_refl _);have k0:=Blk.newEq hW0;go_enter Tryz.func110,Tryz.ntmps110;go_wp2_with fail;clear hW0;go_loopw [7,8] (fun s7 s8 wr=>∃k:Nat,k≤H.length∧s8= .int .i64 k∧bA wr (w.heap.size+1) s7 (au (l6 H key src k))∧Below w.heap.size w wr∧Blk wr w.heap.size 24 #[.slice A H.length c]) (fun _ s8 _=>H.length-(intOf s8).toNat);case atStart=>exact⟨0,Nat.zero_le _,by go_num,bA.nil _ _,hB,k0⟩
 case round=>
  clear k0 hB;obtain⟨k,hk,rfl,hown,hb,k0⟩:=hrel;have hk1:(0:Int)≤(k:Int):=Int.natCast_nonneg _;have c0:=Blk.n0 k0;by_cases hlt:k<H.length
  ·have hk2:(k:Int)<(H.length:Int):=(by omega);have hst:=hide (Jd H key src k);rw[aQ hlt]at hst;have hcnt:=CY H key src k;have hsn:=hide (iy (l6 H key src k) k);have hlq:=hide (aR (l6 H key src k));have hcall:=hide (xH A c H k key wr (h.below hb) hr hn hlt);generalize jQ H[k].reads key=F at*;obtain⟨F1,F2⟩:=F;obtain⟨Av,cv,rfl⟩:=hown.form;replace hown:=hide hown;replace hr:=hide hr;go_wp2_with fail;clear c0;refine hcall.out.mono ?_;rintro e w2 ⟨rfl,hb2⟩;have hb3:=hb.trans (hb2.mono hb.size);have k3:=k0.below hb2 k0.lt;have hown3:=hide (own_below hown.out hb2 (Nat.le_refl _));have hsz2:=hb3.size;clear hcall hown hb2;by_cases hyes:F2=true∧F1=src
   ·obtain⟨rfl,rfl⟩:=hyes;have oK:Hid (l6 H key F1 (k+1)=l6 H key F1 k++[k]):=hide (by rw[hst.out];simp);clear hst;generalize l6 H key F1 k=L at*;have hkL:(au L).length+1≤maxLen:=(by rw[hlq.out];unfold maxLen;omega);have hkb:((au L).length+1)*8≤140737488355328:=(by rw[hlq.out];omega);generalize au L=D at*;go_wp2_with (at_builtin;go_loud (refine aN (enc:=Go.Inq.encI) rfl (.tmp 31) (.tmp 33) 35 rfl (w.heap.size+1) 3 ii _ 1 8 Tryz.underlying35 hii hi1 hi2 hi3 rfl (by decide) (.slice Av D.length cv) D rfl hown3.out (fun _=>rfl) (k:Int) _ rfl rfl Go.Inq.fD hkL hkb k3.lt w w.heap.size (by omega) hb3 ?_);intro v1 w6 hown1 hg1 hb1 jN);have k6:=(k3.alloc (.cells #[.int .i64 (k:Int)] 3)).grown hg1 (fun e=>by have:=(hown3.out.lt _ e.symm).1;omega);go_roundw;case rel=>exact⟨k+1,by omega,by go_num,by rw[oK.out,hsn.out];exact hown1,hb1,k6⟩
    case measure=>simp[intOf];omega
   ·have oK:Hid (l6 H key src (k+1)=l6 H key src k):=hide (by rw[hst.out,if_neg (by simp only[beq_iff_eq,Prod.mk.injEq];exact fun g=>hyes ⟨g.2,g.1⟩)];simp);clear hst;cases F2 with
    |false=>
     go_wp2;go_roundw;case rel=>exact⟨k+1,by omega,by go_num,by rw[oK.out];exact hown3.out,hb3,k3⟩
     case measure=>simp[intOf];omega
    |true=>
     have hne:(F1==src)=false:=(by simpa using hyes);clear hyes;go_wp2;go_roundw;case rel=>exact⟨k+1,by omega,by go_num,by rw[oK.out];exact hown3.out,hb3,k3⟩
     case measure=>simp[intOf];omega
  ·obtain rfl:k=H.length:=(by omega);go_wp2;go_ret;exact⟨_,rfl,own_base' hown (by omega),hb⟩
def rdE(D:List Nat)(b:Nat):aj:=fun x y=>decide (y=b)&&decide (x≠y)&&D.contains x
theorem QG(E:aj)(b:Nat):orE E (rdE [] b)=E:=by funext x y;simp[orE,rdE]
theorem QH{E:aj}{D:List Nat}{b t:Nat}(h:t≠b):orE E (rdE (D++[t]) b)=orE (orE E (rdE D b)) (gT t b):=by
 funext x y;unfold orE rdE gT;rw[Bool.or_assoc];congr 1;by_cases e1:y=b
 ·subst e1;by_cases e2:x=t
  ·subst e2;simp[h]
  ·simp[e2]
 ·simp[e1]
theorem Ta{E:aj}{D:List Nat}{b t:Nat}(h:t=b):orE E (rdE (D++[t]) b)=orE E (rdE D b):=by
 funext x y;unfold orE rdE;congr 1;by_cases e1:y=b
 ·subst e1;by_cases e2:x=t
  ·subst e2;simp[h]
  ·simp[e2]
 ·simp[e1]
theorem QI{H:List Txn}(hr:aG H=true){l:List Cho}{k:Nat}(hk:k<l.length){b:Nat}(hb:l[k].b=(b:Int)){x y:Nat}(hx:x<H.length):
 orE (rwE H (l.take k)) (rdE (Jc H l[k].key l[k].a) b) x y=rwE H (l.take (k+1)) x y:=by
 rw[←Cu H hk hx];unfold orE lX zy rdE;rw[decide_eq_true hx,Bool.true_and,hb];congr 1;rw[Bool.eq_iff_iff];simp only[Bool.and_eq_true,decide_eq_true_eq,List.contains_iff_mem,Ga hr,List.any_eq_true];constructor
 ·rintro⟨⟨h1,h2⟩,_,r,h3,h4,h5⟩;exact⟨⟨by omega,h2⟩,r,h3,h4,h5⟩
 ·rintro⟨⟨h1,h2⟩,r,h3,h4,h5⟩;exact⟨⟨by omega,h2⟩,hx,r,h3,h4,h5⟩
set_option maxRecDepth 100000 in
theorem MH(A:Option Addr)(c:Nat)(H:List Txn)(Al:Option Addr)(cl:Nat)(l:List Cho)(w:World)(h:aC w (Old w) (.slice A H.length c) H)(hl:aV w (Old w) (.slice Al l.length cl) l)(hr:dR H l=true)(hn:aA H):
 Calls Tryz.prog 65 #[.agg #[.slice A H.length c],.slice Al l.length cl] w (za w H.length (rwE H l)):=by
 have hrh:=iH hr;have dK:H.length≤64:=(by have:=((aD H).1 hrh).1;omega);have hll:=kZ hr;have hcn:=hide (fun x hx=>nV hr (x:=x) hx);replace hrh:=hide hrh;clear hr;go_enter Tryz.func65,Tryz.ntmps65;go_upto_region 1 with fail;obtain⟨W0,hW0⟩:∃W0,(w.alloc (.cells #[.slice A H.length c] 24)).alloc (.cells #[.int .i64 0,.slice none 0 0] 89)=W0:=⟨_,rfl⟩;rw[hW0];have hb:=aF hW0;have k1:=Blk.fG hW0;have k3:=Blk.eP hW0;have s0:=size_two hW0;have hT:=hide (h.below hb);have hl0:=hide (hl.below hb);clear hW0 h hl;have c0:=Blk.n0 k1;replace s0:=hide s0;go_wp2_with fail;refine(FY A c H W0 hT.out hrh.out hn).mono ?_;rintro e w1 ⟨v,rfl,hR,hb1⟩;clear c0;obtain⟨Av,cv,rfl,-⟩:=hR.gr dK (K:=fun _=>True) (fun _ _ _=>trivial);go_upto_region 2 with fail;obtain⟨W5,hW5⟩:∃W5,w1.alloc (.cells #[.int .i64 (H.length:Int),.slice Av H.length cv] 89)=W5:=⟨_,rfl⟩;rw[hW5];have hP:=RGP.start hR dK hW5;have hs1:=hb1.size;have hb5:=ah hb1 hW5 hs1;clear hW5 hR hb1;go_wp2_with fail;go_loopw [6] (fun s6 wr=>∃k:Nat,k≤l.length∧s6= .int .i64 k∧RGP wr W0.heap.size w1.heap.size H.length (rwE H (l.take k)) Av cv∧Below W0.heap.size W0 wr) (fun s6 _=>l.length-(intOf s6).toNat);case atStart=>exact⟨0,Nat.zero_le _,by go_num,hP.congr fun a b _ _=>JR H a b,hb5⟩
 case round=>
  obtain⟨k,hk,rfl,hPk,hbk⟩:=hrel;have hk1:(0:Int)≤(k:Int):=Int.natCast_nonneg _;by_cases hlt:k<l.length
  ·have hk2:(k:Int)<(l.length:Int):=(by omega);obtain⟨b,off,rfl,_,y0,y1,y2⟩:=(hl0.out.below hbk).at_ hlt;obtain⟨xa,xb,ha,hb',ha2,hb2⟩:=hcn.out _ (List.getElem_mem hlt);have hend:=hide (fun x y (hx:x<H.length)=>QI hrh.out hlt hb' (y:=y) hx);have UK:Hid (∀x∈Jc H l[k].key l[k].a,x<H.length):=hide (fun x hx=>((Ga hrh.out).1 hx).1);rw[ha]at hend UK y1;rw[hb']at y2;have k1k:=k1.below hbk k1.lt;have c0:=Blk.n0 k1k;have hcall:=hide (zY A c H l[k].key (xa:Int) wr.drew ((hT.out.below hbk).keep (Agree.drew _ _) (fun _ h=>h)) hrh.out hn);have hDl:=CY H l[k].key (xa:Int) H.length;have hly:Hid (∀wq,Below W0.heap.size W0 wq→wq.cell? ⟨b,off+k*3+2,none⟩=some (.int .i64 (xb:Int))):=hide fun wq hq=>by
    obtain⟨b',off',e,-,-,-,e2⟩:=(hl0.out.below hq).at_ hlt;injection e with e
    injection e with e3 e4
    subst e3 e4;rw[hb']at e2;exact e2
   clear ha hb';generalize l[k].key=key at*;change(Jc H key xa).length≤_ at hDl;generalize Jc H key xa=D at*;go_wp2_with fail;refine wp_region_still_tail 11 (by kernel_rfl) (by kernel_rfl) ?_;simp only[List.take_succ_cons,List.take_zero,List.drop_succ_cons,List.drop_zero];repeat still_step
   refine wpStill_nil ?_;go_wp2_with fail;refine hcall.out.mono ?_;rintro e w3 ⟨v,rfl,hown,hb3⟩;have hb4:=(aZ hbk).trans (hb3.mono hbk.size);have hP4:=hPk.drew.below hb3 (Nat.le_refl _);have QJ:W0.heap.size≤wr.heap.size:=hbk.size;have hsl:=hown.sl (K:=fun g=>wr.heap.size≤g∧g<w3.heap.size) (fun g h1 h2=>⟨h1,h2⟩);obtain⟨Ad,cd,rfl⟩:=hown.form;have hpw:w1.heap.size<wr.heap.size:=hPk.plt;have hq1:=hide (aR D);have hat:=hide (fun j (hj:j<D.length)=>iM (l:=D) hj);clear hcall hown hb3 hPk hbk c0 k1k y0 y1 y2;rw[hq1.out]at hsl⊢;have hst:=hide (fun j (hj:j<D.length) (h:D[j]≠xb)=>by have:=QH (E:=rwE H (l.take k)) (D:=D.take j) h;rwa[←take_snoc' hj]at this);have hsk:=hide (fun j (hj:j<D.length) (h:D[j]=xb)=>by have:=Ta (E:=rwE H (l.take k)) (D:=D.take j) h;rwa[←take_snoc' hj]at this);go_wp2_with fail;go_loopw [8] (fun s8 wq=>∃j:Nat,j≤D.length∧s8= .int .i64 j∧RGP wq W0.heap.size w1.heap.size H.length (orE (rwE H (l.take k)) (rdE (D.take j) xb)) Av cv∧Below W0.heap.size W0 wq∧aM wq (fun g=>wr.heap.size≤g∧g<w3.heap.size) (.slice Ad D.length cd) (au D)) (fun s8 _=>D.length-(intOf s8).toNat);case atStart=>exact⟨0,Nat.zero_le _,by go_num,by rw[List.take_zero,QG];exact hP4,hb4,hsl⟩
   case round=>
    clear hP4 hb4 hsl;obtain⟨Wo,rfl⟩:∃Wo,Wo=wr:=⟨_,rfl⟩;obtain⟨j,hj,rfl,hP4,hb4,hsl⟩:=hrel;have hj1:(0:Int)≤(j:Int):=Int.natCast_nonneg _;by_cases hlj:j<D.length
    ·have hj2:(j:Int)<(D.length:Int):=(by omega);obtain⟨bd,od,rfl,hbd,z0⟩:=hsl.at_ (i:=j) (by rw[hq1.out];exact hlj);rw[hat.out j hlj]at z0;have y2:=hly.out _ hb4;have Tc:=hide (hst.out j hlj);have Td:=hide (hsk.out j hlj);have htn:=UK.out _ (List.getElem_mem hlj);have ht1:(0:Int)≤(D[j]:Int):=Int.natCast_nonneg _;have ht2:((D[j]:Nat):Int)<(H.length:Int):=(by omega);generalize D[j]=t at*;by_cases htx:t=xb
     ·have hnb:((t:Int) !=(xb:Int))=false:=(by rw[htx];simp);have hE2:=hide (Td.out htx);clear Tc Td htx;go_wp2_with fail;go_region;go_wp2;go_roundw;case rel=>exact⟨j+1,by omega,by go_num,by rw[hE2.out];exact hP4.drew,aZ hb4,hsl.keep (Agree.drew _ _) (fun _ h=>h)⟩
      case measure=>simp[intOf];omega
     ·have hnb:((t:Int) !=(xb:Int))=true:=(by simp;omega);have hE2:=hide (Tc.out htx);clear Tc Td htx;go_wp2_with fail;go_region;replace hP4:=hP4.drew;replace hb4:=aZ hb4;replace hsl:=hide (hsl.keep (Agree.drew _ _) (fun _ h=>h));have z0':Wo.drew.cell? ⟨bd,od+j,none⟩=some (.int .i64 (t:Int)):=z0;have y2':Wo.drew.cell? ⟨b,off+k*3+2,none⟩=some (.int .i64 (xb:Int)):=y2;clear z0 y2;generalize Wo.drew=w9 at*;obtain⟨g,rfl,hX⟩:=hP4.at_ htn;have hP5:=hide (hX.add (y:=xb) htn hb2).drew;have hb5:=hide (aZ (hb4.setCell (p:=⟨g,t,none⟩) hX.B (.int .u64 (eZ (aX ((orE (rwE H (l.take k)) (rdE (D.take j) xb)) t) H.length) (xb:Int):Nat))));obtain⟨-,c0,c1,d0,df,gp,gl,-,h64⟩:=hX;clear hnb hP4 hb4;generalize aX ((orE (rwE H (l.take k)) (rdE (D.take j) xb)) t) H.length=s at*;go_upto_region 10 with fail;refine wp_region_still_tail 21 (by kernel_rfl) (by kernel_rfl) ?_;simp only[List.take_succ_cons,List.take_zero,List.drop_succ_cons,List.drop_zero];repeat still_step
      still_call ((eD _ h64 _ _).mono fun _ _ h=>⟨h.1,h.2.symm⟩)
      repeat still_step
      refine wpStill_nil ?_;change wpList _ _ _ _ _ (w9).drew;go_wp2;go_roundw;case rel=>exact⟨j+1,by omega,by go_num,by rw[hE2.out];exact hP5.out,hb5.out,hsl.out.keep ((Agree.setCell ⟨g,t,none⟩ (fun h=>by have h1:=h.1;dsimp only at h1;omega) _).trans (Agree.drew _ _)) (fun _ h=>h)⟩
      case measure=>simp[intOf];omega
    ·obtain rfl:j=D.length:=(by omega);rw[List.take_length]at hP4;have hP5:=hide (hP4.congr (F:=rwE H (l.take (k+1))) fun x y hx _=>hend.out x y hx);go_wp2;go_roundw;case rel=>exact⟨k+1,by omega,by go_num,hP5.out,hb4⟩
     case measure=>simp[intOf];omega
  ·obtain rfl:k=l.length:=(by omega);rw[List.take_length]at hPk;have hP4:=hPk;have hbr:=hbk;have c0:=hP4.c0;have c1:=hP4.c1;have k3r:=k3.below hbr k3.lt;have f0:=k3r.frozen 0;have f1:=k3r.frozen 1;have e0:=k3r.cell 0;have e1:=k3r.cell 1;have hs0:=s0.out;have hs3:w.heap.size+1<W0.heap.size:=k3.lt;have hR:=hide (((hP4.rg.far (p:=⟨w.heap.size+1,0,none⟩) hs3 (.int .i64 H.length)).far (p:=⟨w.heap.size+1,1,none⟩) hs3 (.slice Av H.length cv)).base (B':=w.heap.size) (by omega));have hz:=hide (((hb.trans (hbr.mono hb.size)).setCell (p:=⟨w.heap.size+1,0,none⟩) (by simp;try omega) (.int .i64 H.length)).setCell (p:=⟨w.heap.size+1,1,none⟩) (by simp;try omega) (.slice Av H.length cv));have hq:=(k3r.aH 0 (.int .i64 H.length)).aH 1 (.slice Av H.length cv);simp only[sA,sZ,sS]at hq;have y0:=hq.cell 0;have y1:=hq.cell 1;simp only[gA,gZ,gS]at y0 y1 e0 e1;clear hq hs0 hs3;go_wp2_with fail;exact bodyPost_ret (v:= .agg #[.int .i64 H.length,.slice Av H.length cv]) (by simp[results,Tryz.results65,go_sem,y0,y1]) rfl ⟨_,rfl,hR.out,hz.out⟩
def iX(H:List Txn)(A:Option Addr)(c:Nat)(Al:Option Addr)(cl:Nat)(l:List Cho)(base:Nat):Nat→(Nat→Value)→World→Prop
 |0,vs,_=>vs 0= .agg #[.slice A H.length c]
 |1,vs,W=>GVR base H.length (d9 H) (vs 1) W
 |2,vs,_=>vs 2= .agg #[.slice A H.length c]
 |3,vs,_=>vs 3= .slice Al l.length cl
 |4,vs,W=>GVR base H.length (wwE l) (vs 4) W
 |5,vs,W=>GVR base H.length (orE (d9 H) (wwE l)) (vs 5) W
 |6,vs,W=>zX base (vs 6) W
 |7,vs,W=>∃g x y,vs 6= .pointer (some ⟨g,0,none⟩)∧base≤g∧vs 5= .agg #[x,y]∧Blk W g 89 #[x,y]
 |_,_,_=>True
def jO:Nat→List Nat
 |1=>[0]
 |4=>[2,3]
 |5=>[1,4]
 |7=>[6,5]
 |_=>[]
theorem PI{H:List Txn}{A:Option Addr}{c:Nat}{Al:Option Addr}{cl:Nat}{l:List Cho}{base:Nat}:∀j (vs vs':Nat→Value) w,(∀k,k=j∨k∈jO j→vs k=vs' k)→iX H A c Al cl l base j vs w→iX H A c Al cl l base j vs' w:=by
 intro j vs vs' w hk h
 match j,h with
 |0,h|1,h|2,h|3,h|4,h|5,h|6,h=>
  simp only[iX]at h⊢;rw[←hk _ (.inl rfl)];exact h
 |7,h=>
  simp only[iX]at h⊢;rw[←hk 6 (.inr (by simp[jO])),←hk 5 (.inr (by simp[jO]))];exact h
 |n+8,_=>trivial
theorem Je{H:List Txn}{A:Option Addr}{c:Nat}{Al:Option Addr}{cl:Nat}{l:List Cho}{base:Nat}:∀i j (vs:Nat→Value) w w',j≠i→j∉(fun _=>[]:Nat→List Nat) i→iX H A c Al cl l base j vs w→iW 7 base i w w'→iX H A c Al cl l base j vs w':=by
 intro i j vs w w' hne _ h hs;have hv:=hs.var
 match j,h with
 |0,h|2,h|3,h=>exact h
 |1,h|4,h|5,h=>
  simp only[iX]at h⊢;exact h.var hv
 |6,h=>
  simp only[iX]at h⊢;exact zX.var h hv
 |7,h=>
  unfold iW at hs;rw[if_neg (fun e=>hne e.symm)]at hs;simp only[iX]at h⊢;obtain⟨g,x,y,h1,h2,h3,h4⟩:=h;exact⟨g,x,y,h1,h2,h3,h4.below hs h4.lt⟩
 |n+8,_=>trivial
theorem Jf:∀i,8≤i→jO i=[]:=by
 intro i hi
 match i,hi with
 |n+8,_=>rfl
set_option maxRecDepth 100000 in
theorem xI(A:Option Addr)(c:Nat)(H:List Txn)(level:Int)(Al:Option Addr)(cl:Nat)(l:List Cho)(w:World)(h:aC w (Old w) (.slice A H.length c) H)(hl:aV w (Old w) (.slice Al l.length cl) l)(hr:dR H l=true)(hn:aA H):
 Calls Tryz.prog 28 #[.agg #[.slice A H.length c],.int .i64 level,.slice Al l.length cl] w (za w H.length (dW H level l)):=by
 obtain⟨W0,hW0⟩:∃W0,(w.alloc (.cells #[.slice A H.length c] 24)).alloc (.cells #[.int .i64 0,.slice none 0 0] 89)=W0:=⟨_,rfl⟩;have hB:=aF hW0;have k0:=Blk.fG hW0;have k1:=Blk.eP hW0;have hrh:=iH hr;have h64:H.length≤64:=(by have:=((aD H).1 hrh).1;omega);replace hr:=hide hr;replace hn:=hide hn;replace hl:=hide hl;replace h:=hide h;replace hrh:=hide hrh;go_enter Tryz.func28,Tryz.ntmps28;go_wp2_with fail;clear hW0;refine ig (iX H A c Al cl l (w.heap.size+2)) (fun W=>Below w.heap.size w W∧Blk W w.heap.size 24 #[.slice A H.length c]∧Blk W (w.heap.size+1) 89 #[.int .i64 0,.slice none 0 0]) (iW 7 (w.heap.size+2)) jO (by kernel_rfl) (by kernel_rfl) (by kernel_rfl) Jf (fun _=>[]) (by kernel_rfl) PI Je ⟨hB.drew,k0,k1⟩ ?hstep ?hend;case hstep=>
  intro i o ho vs W hS hd;obtain⟨hb,m0,m1⟩:=hS;have hT:=h.out.below hb;have hC:=hl.out.below hb;have hsz:w.heap.size+2≤W.heap.size:=m1.lt
  match i,ho with
  |0,ho|2,ho=>
   simp only[gZ,gS,Option.some.injEq]at ho;subst ho;simp only[acV,gA,gZ,gS,Act.put,sA,sZ,sS];have c0:=Blk.n0 m0;go_wp2;exact⟨rfl,.agg #[.slice A H.length c],rfl,rfl,⟨hb,m0,m1⟩,Below.refl _ _⟩
  |3,ho=>
   simp only[gZ,gS,Option.some.injEq]at ho;subst ho;simp only[acV,gA,gZ,gS,Act.put,sA,sZ,sS];go_wp2;exact⟨rfl,.slice Al l.length cl,rfl,rfl,⟨hb,m0,m1⟩,Below.refl _ _⟩
  |1,ho=>
   have d0:=hd 0 (by simp[jO]);simp only[iX]at d0;simp only[gZ,gS,Option.some.injEq]at ho;subst ho;simp only[acV,gA,gZ,gS,Act.put,sA,sZ,sS];rw[d0];go_wp2_with fail;refine(F8 A c H _ hT hrh.out hn.out).mono ?_;intro e W2 hO;obtain⟨v,rfl,hG,hb2⟩:=GVR.of h64 hsz hO;go_wp2;exact⟨rfl,_,rfl,hG,⟨hb.trans (hb2.mono hb.size),m0.below hb2 m0.lt,m1.below hb2 m1.lt⟩,hb2⟩
  |4,ho=>
   have d2:=hd 2 (by simp[jO]);have d3:=hd 3 (by simp[jO]);simp only[iX]at d2 d3;simp only[gZ,gS,Option.some.injEq]at ho;subst ho;simp only[acV,gA,gZ,gS,Act.put,sA,sZ,sS];rw[d2,d3];go_wp2_with fail;refine(ME A c H Al cl l _ hT hC hr.out).mono ?_;intro e W2 hO;obtain⟨v,rfl,hG,hb2⟩:=GVR.of h64 hsz hO;go_wp2;exact⟨rfl,_,rfl,hG,⟨hb.trans (hb2.mono hb.size),m0.below hb2 m0.lt,m1.below hb2 m1.lt⟩,hb2⟩
  |5,ho=>
   have g1:=hd 1 (by simp[jO]);have g3:=hd 4 (by simp[jO]);simp only[iX]at g1 g3;obtain⟨A1,c1,d1,q1,-⟩:=g1.gr h64;obtain⟨A3,c3,d3,q3,-⟩:=g3.gr h64;simp only[gZ,gS,Option.some.injEq]at ho;subst ho;simp only[acV,gA,gZ,gS,Act.put,sA,sZ,sS];rw[d1,d3];go_wp2_with fail;refine(jY H.length _ _ (d9 H) _ _ (wwE l) (Old W) _ q1 q3 (fun b hb=>hb)).mono ?_;intro e W2 hO;obtain⟨v,rfl,hG,hb2⟩:=GVR.of h64 hsz hO;go_wp2;exact⟨rfl,_,rfl,hG,⟨hb.trans (hb2.mono hb.size),m0.below hb2 m0.lt,m1.below hb2 m1.lt⟩,hb2⟩
  |6,ho=>
   simp only[gZ,gS,Option.some.injEq]at ho;subst ho;simp only[acV,gA,gZ,gS,Act.put,sA,sZ,sS];go_wp2;exact⟨rfl,_,rfl,⟨W.heap.size,by omega,rfl,_,_,Blk.new _ _ _⟩,⟨hb.alloc hb.size _,m0.alloc _,m1.alloc _⟩,(Below.refl _ _).alloc (Nat.le_refl _) _⟩
  |7,ho=>
   obtain⟨g,hg,d8,x,y,q8⟩:=hd 6 (by simp[jO]);obtain⟨A6,c6,d6,q6⟩:=hd 5 (by simp[jO]);simp only[gZ,gS,Option.some.injEq]at ho;subst ho;simp only[acV,gA,gZ,gS,Act.put,sA,sZ,sS];rw[d8,d6];have c0:=Blk.n0 q8;have c1:=Blk.n1 q8;have f0:=q8.frozen 0;have f1:=q8.frozen 1;go_wp2;have hq:=(q8.aH 0 (.int .i64 H.length)).aH 1 (.slice A6 H.length c6);have n1:w.heap.size≠g:=(by omega);have n2:w.heap.size+1≠g:=(by omega);refine⟨rfl,undef,rfl,⟨g,_,_,(show cK vs 7 undef 6=_ from d8),hg,(show cK vs 7 undef 5=_ from d6),by simpa using hq⟩,⟨(hb.setCell (p:=⟨g,0,none⟩) (by simp;omega) _).setCell (p:=⟨g,1,none⟩) (by simp;omega) _,(m0.far n1 _).far n1 _,(m1.far n2 _).far n2 _⟩,?_⟩;unfold iW;rw[if_pos rfl];refine⟨⟨rfl,rfl,rfl,by simp⟩,fun k hk=> ?_⟩;by_cases e:k=g
   ·subst e;exact .inr ⟨hg,_,_,q8,hq,by simp⟩
   ·exact .inl ((Below.heap_setCell _ ⟨g,1,none⟩ _ k e).trans (Below.heap_setCell _ ⟨g,0,none⟩ _ k e))
  |n+8,ho=>simp at ho
 case hend=>
  rintro vs W ⟨hb,m0,m1⟩ hd;obtain⟨g,x,y,d8,hg,d6,q9⟩:=hd 7 (by simp) (by simp);have hG5:=hd 5 (by simp) (by simp);simp only[iX]at hG5;obtain⟨A6,c6,d6',hgr,q6⟩:=hG5.gr h64;rw[d6]at d6';injection d6' with d6'
  simp only[Array.mk.injEq,List.cons.injEq,and_true]at d6';obtain⟨rfl,rfl⟩:=d6';clear hd hG5;simp only[acV,gA,gZ,gS,Act.put,sA,sZ,sS,List.length_cons,List.length_nil,Nat.reduceAdd];rw[d8,d6];have hT:=hide (h.out.below hb);have hC:=hide (hl.out.below hb);have c0:=Blk.n0 m0;clear k0 k1 d6 d8;go_wp2_with fail;refine(MH A c H Al cl l _ hT.out hC.out hr.out hn.out).mono ?_;intro e W2 hO;obtain⟨v,rfl,hGr,hb2⟩:=GVR.of h64 (Nat.le_refl _) hO;obtain⟨Ar,cr,rfl,UL,-⟩:=hGr.gr h64;clear c0 hT hC hO hGr;obtain⟨W3,hW3⟩:∃W3,W2.alloc (.cells #[.int .i64 H.length,.slice Ar H.length cr] 89)=W3:=⟨_,rfl⟩;have hB3:=ah (Below.refl W2.heap.size W2) hW3 (Nat.le_refl _);have k9:=Blk.newEq hW3;have hBW:=hb2.trans (hB3.mono hb2.size);have m1c:=m1.below hBW m1.lt;have q9c:=q9.below hBW q9.lt;have hGd:=hide (hgr.keep (Agree.below hBW (fun b h=>h)) (fun b (h:b<W.heap.size)=>(Nat.lt_of_lt_of_le h hBW.size:b<W3.heap.size)));have UM:=hide (hgr.keep (Agree.below hBW (fun b h=>h)) (fun b (h:b<W.heap.size)=>h));have hGo:=hide (UL.keep (Agree.below hB3 (fun b h=>h)) (fun b (h:b<W2.heap.size)=>(Nat.lt_of_lt_of_le h hB3.size:b<W3.heap.size)));have hbc:=hb.trans (hBW.mono hb.size);have hsz:=m1.lt;have hgl:=q9.lt;have hw2:=hb2.size;have hw3:=hB3.size;clear hBW hB3 hb2 hb m0 m1 q9 q6 hgr UL;by_cases h1:level=1
  ·have q3:(level==1)=true:=(by simpa using h1);have hfe:Hid (dW H level l=orE (orE (d9 H) (wwE l)) (lN H.length (orE (d9 H) (wwE l)) (rwE H l))):=hide (by rw[uF,if_pos h1]);clear h1;have a0:=Blk.n0 q9c;have a1:=Blk.n1 q9c;have b0:=Blk.n0 k9;have b1:=Blk.n1 k9;have hcp:=hide (F7 H.length A6 c6 (orE (d9 H) (wwE l)) Ar cr (rwE H l) (Old W3) W3 hGd.out hGo.out (fun b h=>h));go_wp2_with fail;clear a0 a1 b0 b1 hW3;refine hcp.out.mono ?_;rintro e W4 ⟨u,rfl,hR4,hb4⟩;obtain⟨Ac,cc,rfl,hG4⟩:=hR4.gr h64 (K:=fun b=>W3.heap.size≤b∧b<W4.heap.size) (fun g h1 h2=>⟨h1,h2⟩);have k94:=k9.below hb4 k9.lt;have c0:=Blk.n0 k94;have c1:=Blk.n1 k94;have f0:=k94.frozen 0;have f1:=k94.frozen 1;have VK:=k9.lt;have ng:g≠W2.heap.size:=(by omega);have nr:w.heap.size+1≠W2.heap.size:=(by omega);have m1d:=((m1c.below hb4 m1c.lt).far (p:=⟨W2.heap.size,0,none⟩) nr (.int .i64 H.length)).far (p:=⟨W2.heap.size,1,none⟩) nr (.slice Ac H.length cc);have q9d:=((q9c.below hb4 q9c.lt).far (p:=⟨W2.heap.size,0,none⟩) ng (.int .i64 H.length)).far (p:=⟨W2.heap.size,1,none⟩) ng (.slice Ac H.length cc);have k9d:=(k94.aH 0 (.int .i64 H.length)).aH 1 (.slice Ac H.length cc);simp only[sA,sZ,sS]at k9d;have hbd:=((hbc.trans (hb4.mono hbc.size)).setCell (p:=⟨W2.heap.size,0,none⟩) (by simp;omega) (.int .i64 H.length)).setCell (p:=⟨W2.heap.size,1,none⟩) (by simp;omega) (.slice Ac H.length cc);have Te:=hide (UM.out.keep (K':=Old W4) (((Agree.below hb4 (fun b h=>Nat.lt_of_lt_of_le h (Nat.le_trans hw2 hw3))).trans (Agree.setCell ⟨W2.heap.size,0,none⟩ (fun h=>by have h2:W2.heap.size<W.heap.size:=h;omega) (.int .i64 H.length))).trans (Agree.setCell ⟨W2.heap.size,1,none⟩ (fun h=>by have h2:W2.heap.size<W.heap.size:=h;omega) (.slice Ac H.length cc))) (fun b h=>Nat.lt_of_lt_of_le h (Nat.le_trans (Nat.le_trans hw2 hw3) hb4.size)));have Tf:=hide (hG4.keep (K':=Old W4) ((Agree.setCell ⟨W2.heap.size,0,none⟩ (fun h=>by have h2:=h.1;dsimp only at h2;omega) (.int .i64 H.length)).trans (Agree.setCell ⟨W2.heap.size,1,none⟩ (fun h=>by have h2:=h.1;dsimp only at h2;omega) (.slice Ac H.length cc))) (fun b h=>h.2));clear m1c q9c k9 k94 hcp hb4 hGd hGo UM hG4 hR4 hbc;obtain⟨Wd,hWd⟩:∃Wd,(W4.setCell ⟨W2.heap.size,0,none⟩ (.int .i64 H.length)).setCell ⟨W2.heap.size,1,none⟩ (.slice Ac H.length cc)=Wd:=⟨_,rfl⟩;have hsd:Wd.heap.size=W4.heap.size:=(by rw[←hWd];simp);rw[hWd]at m1d q9d k9d hbd Te Tf;have m1c:=m1d;have q9c:=q9d;have k9c:=k9d;have hbc:=hbd;have hGd:=Te;have hGo:=Tf;have hKK:=hide (fun b (h:Old W4 b)=>(by have h2:b<W4.heap.size:=h;omega:b<Wd.heap.size));clear m1d q9d k9d hbd Te Tf;have a0:=Blk.n0 q9c;have a1:=Blk.n1 q9c;have b0:=Blk.n0 k9c;have b1:=Blk.n1 k9c;have hcall:=hide (jY H.length A6 c6 (orE (d9 H) (wwE l)) Ac cc (lN H.length (orE (d9 H) (wwE l)) (rwE H l)) (Old W4) Wd hGd.out hGo.out hKK.out);go_wp2_with fail;clear a0 a1 b0 b1;refine hcall.out.mono ?_;rintro e W6 ⟨uz,rfl,hRz,hb6⟩;obtain⟨Az,cz,rfl,-⟩:=hRz.gr h64 (K:=fun _=>True) (fun _ _ _=>trivial);have m16:=m1c.below hb6 m1c.lt;have hb7:=hbc.trans (hb6.mono hbc.size);have j0:=Blk.n0 m16;have j1:=Blk.n1 m16;have jf:=m16.frozen 0;have jf1:=m16.frozen 1;have hml:=m1c.lt;clear hcall;go_wp2;exact bodyPost_ret (v:= .agg #[.int .i64 H.length,.slice Az H.length cz]) (by simp[results,Tryz.results28,go_sem,j0,j1]) rfl ⟨_,rfl,by rw[hfe.out];exact((hRz.far (p:=⟨w.heap.size+1,0,none⟩) hml _).far (p:=⟨w.heap.size+1,1,none⟩) hml _).base (by omega),(hb7.setCell (p:=⟨w.heap.size+1,0,none⟩) (by simp) _).setCell (p:=⟨w.heap.size+1,1,none⟩) (by simp) _⟩
  ·have q3:(level==1)=false:=(by simpa using h1);have hfe:Hid (dW H level l=orE (orE (d9 H) (wwE l)) (rwE H l)):=hide (by rw[uF,if_neg h1]);have k9c:=k9;have hKK:=hide (fun b (h:Old W3 b)=>h);clear h1 k9;have a0:=Blk.n0 q9c;have a1:=Blk.n1 q9c;have b0:=Blk.n0 k9c;have b1:=Blk.n1 k9c;have hcall:=hide (jY H.length A6 c6 (orE (d9 H) (wwE l)) Ar cr (rwE H l) (Old W3) W3 hGd.out hGo.out hKK.out);go_wp2_with fail;clear a0 a1 b0 b1;refine hcall.out.mono ?_;rintro e W6 ⟨uz,rfl,hRz,hb6⟩;obtain⟨Az,cz,rfl,-⟩:=hRz.gr h64 (K:=fun _=>True) (fun _ _ _=>trivial);have m16:=m1c.below hb6 m1c.lt;have hb7:=hbc.trans (hb6.mono hbc.size);have j0:=Blk.n0 m16;have j1:=Blk.n1 m16;have jf:=m16.frozen 0;have jf1:=m16.frozen 1;have hml:=m1c.lt;clear hcall;go_wp2;exact bodyPost_ret (v:= .agg #[.int .i64 H.length,.slice Az H.length cz]) (by simp[results,Tryz.results28,go_sem,j0,j1]) rfl ⟨_,rfl,by rw[hfe.out];exact((hRz.far (p:=⟨w.heap.size+1,0,none⟩) hml _).far (p:=⟨w.heap.size+1,1,none⟩) hml _).base (by omega),(hb7.setCell (p:=⟨w.heap.size+1,0,none⟩) (by simp) _).setCell (p:=⟨w.heap.size+1,1,none⟩) (by simp) _⟩
set_option maxHeartbeats 4000000
set_option maxRecDepth 100000 in
theorem jA(A:Option Addr)(c:Nat)(H:List Txn)(d:Cho)(w:World)(h:aC w (Old w) (.slice A H.length c) H)(hn:aA H):
 Calls Tryz.prog 85 #[.agg #[.slice A H.length c],.agg #[.int .i64 d.key,.int .i64 d.a,.int .i64 d.b]] w fun e w'=>e= .returned (.bool (dh H d))∧Below w.heap.size w w':=by
 obtain⟨W0,hW0⟩:∃W0,(w.alloc (.cells #[.slice A H.length c] 24)).alloc (.cells #[.int .i64 d.key,.int .i64 d.a,.int .i64 d.b] 62)=W0:=⟨_,rfl⟩;have hB:=aF hW0;have k0:=Blk.fG hW0;have k1:=Blk.eP hW0;have hh:=hide (fun W hb=>h.below (w':=W) hb);have c0:=Blk.n0 k0;have d0:=Blk.n0 k1;have d1:=Blk.n1 k1;have d2:=Blk.n2 k1;have hdf:dh H d=(decide (d.a≠d.b)&&wrB H d.a d.key&&wrB H d.b d.key):=rfl;obtain⟨dk,da,db⟩:=d;dsimp only at d0 d1 d2 hdf⊢;obtain⟨q,hq⟩:∃q,dh H ⟨dk,da,db⟩=q:=⟨_,rfl⟩;rw[hq];rw[hdf]at hq;clear hdf h;replace hq:=hide hq;go_enter Tryz.func85,Tryz.ntmps85;go_upto_region 2 with fail;clear hW0;replace hq:=hq.out;by_cases q0:da=db
 ·have q0b:(da==db)=true:=(by simpa using q0);have hr:(decide (da≠db)&&wrB H da dk&&wrB H db dk)=false:=(by simp[q0]);clear q0;obtain rfl:q=false:=hq.symm.trans hr;clear hr hq;go_wp2;go_ret;exact⟨rfl,hB⟩
 ·have q0b:(da==db)=false:=(by simpa using q0);by_cases q1:da<0
  ·have hr:(decide (da≠db)&&wrB H da dk&&wrB H db dk)=false:=(by unfold wrB;simp;omega);clear q0;obtain rfl:q=false:=hq.symm.trans hr;clear hr hq;go_wp2;go_ret;exact⟨rfl,hB⟩
  ·by_cases q2:da≥(H.length:Int)
   ·have hr:(decide (da≠db)&&wrB H da dk&&wrB H db dk)=false:=(by unfold wrB;simp;omega);clear q0;obtain rfl:q=false:=hq.symm.trans hr;clear hr hq;go_wp2;go_ret;exact⟨rfl,hB⟩
   ·by_cases q3:db<0
    ·have hr:(decide (da≠db)&&wrB H da dk&&wrB H db dk)=false:=(by unfold wrB;simp;omega);clear q0;obtain rfl:q=false:=hq.symm.trans hr;clear hr hq;go_wp2;go_ret;exact⟨rfl,hB⟩
    ·by_cases q4:db≥(H.length:Int)
     ·have hr:(decide (da≠db)&&wrB H da dk&&wrB H db dk)=false:=(by unfold wrB;simp;omega);clear q0;obtain rfl:q=false:=hq.symm.trans hr;clear hr hq;go_wp2;go_ret;exact⟨rfl,hB⟩
     ·obtain⟨a,rfl⟩:∃a:Nat,da=a:=⟨da.toNat,by omega⟩;obtain⟨b,rfl⟩:∃b:Nat,db=b:=⟨db.toNat,by omega⟩;have ha:a<H.length:=(by omega);have hb:b<H.length:=(by omega);have hr:(decide ((a:Int)≠(b:Int))&&wrB H (a:Int) dk&&wrB H (b:Int) dk)=(H[a].writes.contains dk&&H[b].writes.contains dk):=by
       rw[mZ ha,mZ hb,aQ ha,aQ hb,decide_eq_true q0,Bool.true_and]
      rw[hr]at hq;clear hr q0;replace hq:=hide hq;have ha0:(0:Int)≤(a:Int):=Int.natCast_nonneg _;have hb0:(0:Int)≤(b:Int):=Int.natCast_nonneg _;have ha1:(a:Int)<(H.length:Int):=(by omega);have hb1:(b:Int)<(H.length:Int):=(by omega);obtain⟨bt,off,Aw,cw,Ar,cr,rfl,hbK,e0,e1,e2,hws,-⟩:=aC.at_ (hh.out W0 hB) ha;have hwl:H[a].writes.length≤maxLen:=(by have:=(hn.2 _ (List.getElem_mem ha)).1;unfold maxLen;omega);have hcw:=hide (eH H[a].bL Aw cw H[a].writes (.slice Ar H[a].reads.length cr) dk (Old W0) W0 hws (fun b h=>h) hwl);have Nw:H[b].writes.length≤maxLen:=(by have:=(hn.2 _ (List.getElem_mem hb)).1;unfold maxLen;omega);clear hcw;obtain⟨x,hx⟩:∃x,H[a].writes.contains dk=x:=⟨_,rfl⟩;rw[hx]at hq;go_upto_region 4 with fail;refine bn [0,1,2,3,4,5,6,7] [8,9] (by kernel_rfl) (by kernel_rfl) (fun _ _ d _ _ h=>by cases d<;>exact h) ?_;simp only[List.filterMap_cons,List.filterMap_nil,gZ,gS];repeat still_step
      refine wpStill_nil ?_;go_wp2_with fail;refine(eH H[a].bL Aw cw H[a].writes (.slice Ar H[a].reads.length cr) dk (Old W0) _ (aM.keep hws (Agree.drewN _ _ _) (fun b h=>h)) (fun b h=>h) hwl).mono ?_;rintro e W2 ⟨rfl,hb2'⟩;have hb2:Below W0.heap.size W0 W2:=⟨hb2'.os,hb2'.tape,hb2'.output,hb2'.size,hb2'.block⟩;have hB2:=hB.trans (hb2.mono hB.size);replace k0:=k0.below hb2 k0.lt;replace k1:=k1.below hb2 k1.lt;have c0:=Blk.n0 k0;have d0:=Blk.n0 k1;have d1:=Blk.n1 k1;have d2:=Blk.n2 k1;rw[hx];clear hx hb2' hb2 e0 e1 e2 hws hwl;obtain⟨bt',off',Bw,cw',Br,cr',he,hbK,e0,e1,e2,hws,-⟩:=aC.at_ (hh.out W2 hB2) hb;simp only[Option.some.injEq,Addr.mk.injEq,and_true]at he;obtain⟨rfl,rfl⟩:=he;go_upto_region 5 with fail;refine bn [0,1,2,3,4,5,6,7] [8,9] (by kernel_rfl) (by kernel_rfl) (fun _ _ d _ _ h=>by cases d<;>exact h) ?_;simp only[List.filterMap_cons,List.filterMap_nil,gZ,gS];repeat still_step
      refine wpStill_nil ?_;go_wp2_with fail;refine(eH H[b].bL Bw cw' H[b].writes (.slice Br H[b].reads.length cr') dk (Old W2) _ (aM.keep hws (Agree.drewN _ _ _) (fun b h=>h)) (fun b h=>h) Nw).mono ?_;rintro e W3 ⟨rfl,Bz⟩;have hb3:Below W2.heap.size W2 W3:=⟨Bz.os,Bz.tape,Bz.output,Bz.size,Bz.block⟩;have hB3:=hB2.trans (hb3.mono hB2.size);obtain⟨y,hy⟩:∃y,H[b].writes.contains dk=y:=⟨_,rfl⟩;rw[hy]at hq⊢;clear hy Bz hb3 e0 e1 e2 hws Nw c0 d0 d1 d2;cases x with
      |true=>
       rw[Bool.true_and]at hq;go_wp2;go_ret;exact⟨bE hq.out,hB3⟩
      |false=>
       rw[Bool.false_and]at hq;go_wp2;go_ret;exact⟨bE hq.out,hB3⟩
set_option maxRecDepth 100000 in
theorem zZ(A:Option Addr)(c:Nat)(H:List Txn)(x y:Int)(w:World)(h:aC w (Old w) (.slice A H.length c) H)(hn:aA H):
 Calls Tryz.prog 163 #[.agg #[.slice A H.length c],.int .i64 x,.int .i64 y] w fun e w'=>e= .returned (.bool (oH H x y))∧Below w.heap.size w w':=by
 obtain⟨W0,hW0⟩:∃W0,w.alloc (.cells #[.slice A H.length c] 24)=W0:=⟨_,rfl⟩;have hB:=ah (Below.refl w.heap.size w) hW0 (Nat.le_refl _);have k0:=Blk.newEq hW0;have hrc:=hide (gP A c H W0 (h.below hB) hn);have c0:=Blk.n0 k0;obtain⟨q,hq⟩:∃q,oH H x y=q:=⟨_,rfl⟩;rw[hq];unfold oH at hq;obtain⟨r,hrr⟩:∃r,aG H=r:=⟨_,rfl⟩;rw[hrr]at hrc hq;replace hq:=hide hq;clear h hrr;go_enter Tryz.func163,Tryz.ntmps163;go_wp2_with fail;clear hW0;refine hrc.out.mono ?_;rintro e w1 ⟨rfl,hb1⟩;have hB1:=hB.trans (hb1.mono hB.size);replace k0:=k0.below hb1 k0.lt;have c0:=Blk.n0 k0;replace hq:=hq.out;clear hrc hb1 hB;cases r with
 |false=>
  have hr:(false&&decide (0≤x)&&decide (x<(H.length:Int))&&decide (0≤y)&&decide (y<(H.length:Int)))=false:=(by simp);obtain rfl:q=false:=hq.symm.trans hr;clear hr hq;go_wp2;go_ret;exact⟨by first|rfl|exact bE (by simp<;>omega),hB1⟩
 |true=>
  by_cases q1:x≥0
  ·by_cases q2:x<(H.length:Int)
   ·by_cases q3:y≥0
    ·by_cases q4:y<(H.length:Int)
     ·have hr:(true&&decide (0≤x)&&decide (x<(H.length:Int))&&decide (0≤y)&&decide (y<(H.length:Int)))=true:=(by simp;omega);obtain rfl:q=true:=hq.symm.trans hr;clear hr hq;go_wp2;go_ret;exact⟨bE (by simp<;>omega),hB1⟩
     ·have hr:(true&&decide (0≤x)&&decide (x<(H.length:Int))&&decide (0≤y)&&decide (y<(H.length:Int)))=false:=(by simp;omega);obtain rfl:q=false:=hq.symm.trans hr;clear hr hq;go_wp2;go_ret;exact⟨by first|rfl|exact bE (by simp<;>omega),hB1⟩
    ·have hr:(true&&decide (0≤x)&&decide (x<(H.length:Int))&&decide (0≤y)&&decide (y<(H.length:Int)))=false:=(by simp;omega);obtain rfl:q=false:=hq.symm.trans hr;clear hr hq;go_wp2;go_ret;exact⟨by first|rfl|exact bE (by simp<;>omega),hB1⟩
   ·have hr:(true&&decide (0≤x)&&decide (x<(H.length:Int))&&decide (0≤y)&&decide (y<(H.length:Int)))=false:=(by simp;omega);obtain rfl:q=false:=hq.symm.trans hr;clear hr hq;go_wp2;go_ret;exact⟨by first|rfl|exact bE (by simp<;>omega),hB1⟩
  ·have hr:(true&&decide (0≤x)&&decide (x<(H.length:Int))&&decide (0≤y)&&decide (y<(H.length:Int)))=false:=(by simp;omega);obtain rfl:q=false:=hq.symm.trans hr;clear hr hq;go_wp2;go_ret;exact⟨by first|rfl|exact bE (by simp<;>omega),hB1⟩
theorem MI{H:List Txn}{a b:Nat}{d:Cho}(ha:d.a=(a:Int))(hb:d.b=(b:Int))(h1:a<H.length)(h2:b<H.length):ku H a b d=dh H d:=by
 unfold ku dh;have e:decide ((a:Int)≠(b:Int))=decide (a≠b):=(by rw[Bool.eq_iff_iff];simp only[decide_eq_true_eq,ne_eq];omega);rw[ha,hb,mZ h1,mZ h2,e,decide_eq_true (rfl:(a:Int)=(a:Int)),decide_eq_true (rfl:(b:Int)=(b:Int)),Bool.true_and,Bool.true_and]
theorem PK{H:List Txn}{a b:Nat}{d:Cho}(h:d.a≠(a:Int)∨d.b≠(b:Int)):ku H a b d=false:=by
 unfold ku;rcases h with h|h<;>simp[h]
set_option maxRecDepth 100000 in
theorem rG(A:Option Addr)(c:Nat)(H:List Txn)(Al:Option Addr)(cl:Nat)(l:List Cho)(x y:Int)(w:World)(h:aC w (Old w) (.slice A H.length c) H)(hn:aA H)(hl:aV w (Old w) (.slice Al l.length cl) l)(hln:l.length≤1000000000):
 Calls Tryz.prog 154 #[.agg #[.slice A H.length c],.slice Al l.length cl,.int .i64 x,.int .i64 y] w fun e w'=>e= .returned (.bool (aL H l x y))∧Below w.heap.size w w':=by
 obtain⟨W0,hW0⟩:∃W0,w.alloc (.cells #[.slice A H.length c] 24)=W0:=⟨_,rfl⟩;have hB:=ah (Below.refl w.heap.size w) hW0 (Nat.le_refl _);have k0:=Blk.newEq hW0;have hh:=hide (fun W hb=>h.below (w':=W) hb);have hhl:=hide (fun W hb=>hl.below (w':=W) hb);have htw:=hide (zZ A c H x y W0 (h.below hB) hn);have c0:=Blk.n0 k0;obtain⟨q,hq⟩:∃q,aL H l x y=q:=⟨_,rfl⟩;rw[hq];unfold aL at hq;obtain⟨t,htt⟩:∃t,oH H x y=t:=⟨_,rfl⟩;rw[htt]at htw hq;replace hq:=hide hq;replace htt:=hide htt;replace hn:=hide hn;clear h hl;go_enter Tryz.func154,Tryz.ntmps154;go_wp2_with fail;clear hW0;refine htw.out.mono ?_;rintro e w1 ⟨rfl,hb1⟩;have hB1:=hB.trans (hb1.mono hB.size);replace k0:=k0.below hb1 k0.lt;have c0:=Blk.n0 k0;clear htw hb1 hB;cases t with
 |false=>
  obtain rfl:q=false:=hq.out.symm;clear hq htt;go_wp2;go_ret;exact⟨rfl,hB1⟩
 |true=>
  obtain⟨hr,a,b,rfl,rfl,ha,hb⟩:=pK.1 htt.out;have ha0:(0:Int)≤(a:Int):=Int.natCast_nonneg _;have hb0:(0:Int)≤(b:Int):=Int.natCast_nonneg _;have ha1:(a:Int)<(H.length:Int):=(by omega);have hb1:(b:Int)<(H.length:Int):=(by omega);have hqq:(soE H a b||xS H a b||mq H l a b)=q:=(by have:=hq.out;simpa[RH]using this);replace hqq:=hide hqq;clear hq htt hr;obtain⟨bt,off,Aw,cw,Ar,cr,rfl,hbK,e0,e1,e2,-,hrs⟩:=aC.at_ (hh.out w1 hB1) hb;obtain⟨bt',off',Bw,cw',Br,cr',he,-,g0,-,-,-,-⟩:=aC.at_ (hh.out w1 hB1) ha;simp only[Option.some.injEq,Addr.mk.injEq,and_true]at he;obtain⟨rfl,rfl⟩:=he;have hso:soE H a b=(decide (a<b)&&decide (H[a].bL=H[b].bL)):=by
   unfold soE;simp[ha,hb,aQ]
  have hre:xS H a b=H[b].reads.any fun r=>decide (r.b=(a:Int)):=by
   unfold xS;rw[aQ hb]
  rw[hso,hre]at hqq;have hrl:H[b].reads.length≤1000000:=(hn.out.2 _ (List.getElem_mem hb)).2;clear hso hre hrs;have hqs:(H[a].bL==H[b].bL)=decide (H[a].bL=H[b].bL):=(by rw[Bool.eq_iff_iff];simp);rw[←hqs]at hqq;clear hqs;have hcut:Hid (∀z,(decide (a<b)&&(H[a].bL==H[b].bL))=z→(decide ((a:Int)<(b:Int))=false∧decide (a<b)=false∧z=false)∨(decide ((a:Int)<(b:Int))=true∧decide (a<b)=true∧(H[a].bL==H[b].bL)=z)):=hide (by
   rintro z rfl;by_cases e:a<b
   ·exact .inr ⟨decide_eq_true (by omega),decide_eq_true e,by simp[e]⟩
   ·exact .inl ⟨decide_eq_false (by omega),decide_eq_false e,by simp[e]⟩)
  obtain⟨z,hz⟩:∃z,(decide (a<b)&&(H[a].bL==H[b].bL))=z:=⟨_,rfl⟩;have hcu:=hcut.out z hz;rw[hz]at hqq;clear hcut hz;go_upto_region 4 with fail;go_cut [36] (fun s36 wz=>s36= .bool z∧Below w1.heap.size w1 wz);case first=>
   rcases hcu with⟨q1,q0,rfl⟩|⟨q1,q0,q2⟩
   ·go_wp2;go_quiet (fail);go_wp2
    go_meet
    exact⟨rfl,⟨rfl,rfl,rfl,Nat.le_refl _,fun _ _=>rfl⟩⟩
   ·go_wp2;go_quiet (fail);go_wp2
    go_meet
    exact⟨rfl,⟨rfl,rfl,rfl,Nat.le_refl _,fun _ _=>rfl⟩⟩
  case rest=>
   obtain⟨rfl,hbc⟩:=hcut;have hB2:=hB1.trans (hbc.mono hB1.size);replace k0:=k0.below hbc k0.lt;clear hcu e0 e1 e2 g0 hbc hB1 c0;cases z with
   |true=>
    obtain rfl:q=true:=(by have:=hqq.out;simpa using this.symm);clear hqq;go_wp2;go_ret;exact⟨rfl,hB2⟩
   |false=>
    rw[Bool.false_or]at hqq;go_upto_region 7 with fail;go_loopw [10] (fun s10 wr=>∃i:Nat,i≤H[b].reads.length∧s10= .int .i64 i∧Hid (∀j (hj:j<H[b].reads.length),j<i→decide (H[b].reads[j].b=(a:Int))=false)∧Below w.heap.size w wr∧Blk wr w.heap.size 24 #[.slice (some ⟨bt,off,none⟩) H.length c]) (fun s10 _=>H[b].reads.length-(intOf s10).toNat);case atStart=>exact⟨0,Nat.zero_le _,by go_num,hide (fun j hj h=>absurd h (by omega)),hB2,k0⟩
    case round=>
     clear hB2 k0;obtain⟨i,hi,rfl,hall,hB2,k0⟩:=hrel;obtain⟨Wr,rfl⟩:∃Wr,Wr=wr:=⟨_,rfl⟩;have hi0:(0:Int)≤(i:Int):=Int.natCast_nonneg _;have c0:=Blk.n0 k0;obtain⟨bt2,off2,Aw2,cw2,Ar2,cr2,he,-,e0,e1,e2,-,hrs⟩:=aC.at_ (hh.out Wr hB2) hb;simp only[Option.some.injEq,Addr.mk.injEq,and_true]at he;obtain⟨rfl,rfl⟩:=he;by_cases hlt:i<H[b].reads.length
     ·have hi1:(i:Int)<(H[b].reads.length:Int):=(by omega);obtain⟨b3,QC,rfl,-,r0,r1⟩:=ItS.at_ hrs hlt;by_cases hh1:H[b].reads[i].b=(a:Int)
      ·have hhb:(H[b].reads[i].b==(a:Int))=true:=(by simpa using hh1);obtain rfl:q=true:=by
        have h1:(H[b].reads.any fun r=>decide (r.b=(a:Int)))=true:=List.any_eq_true.2 ⟨_,List.getElem_mem hlt,by simp[hh1]⟩;have:=hqq.out;rw[h1]at this;simpa using this.symm
       clear hqq hall hh1 hrs;go_wp2;go_ret;exact⟨rfl,hB2⟩
      ·have hhb:(H[b].reads[i].b==(a:Int))=false:=(by simpa using hh1);have bK:Hid (∀j (hj:j<H[b].reads.length),j<i+1→decide (H[b].reads[j].b=(a:Int))=false):=hide (fun j hj hji=>by
        rcases Nat.lt_or_ge j i with g|g
        ·exact hall.out j hj g
        ·obtain rfl:j=i:=(by omega);exact decide_eq_false hh1)
       clear hall hh1 hrs;go_wp2;go_roundw;case rel=>exact⟨i+1,by omega,by go_num,bK,hB2,k0⟩
       case measure=>simp[intOf]<;>omega
     ·obtain rfl:i=H[b].reads.length:=(by omega);have QK:Hid (mq H l a b=q):=hide (by
       have h1:(H[b].reads.any fun r=>decide (r.b=(a:Int)))=false:=by
        rw[List.any_eq_false];intro r hr;obtain⟨j,hj,rfl⟩:=List.getElem_of_mem hr;have:=hall.out j hj hj;simpa using this
       have:=hqq.out;rw[h1]at this;simpa using this)
      clear hqq hall hrs;go_upto_region 12 with fail;go_loopw [11] (fun s11 wr=>∃k:Nat,k≤l.length∧s11= .int .i64 k∧Hid (∀j (hj:j<l.length),j<k→ku H a b l[j]=false)∧Below w.heap.size w wr∧Blk wr w.heap.size 24 #[.slice (some ⟨bt,off,none⟩) H.length c]) (fun s11 _=>l.length-(intOf s11).toNat);case atStart=>exact⟨0,Nat.zero_le _,by go_num,hide (fun j hj h=>absurd h (by omega)),hB2,k0⟩
      case round=>
       clear hB2 k0 e0 e1 e2 c0;obtain⟨k,hk,rfl,hall,hB2,k0⟩:=hrel;obtain⟨Wk,rfl⟩:∃Wk,Wk=wr:=⟨_,rfl⟩;have hk0:(0:Int)≤(k:Int):=Int.natCast_nonneg _;have c0:=Blk.n0 k0;by_cases hkt:k<l.length
       ·have hk1:(k:Int)<(l.length:Int):=(by omega);obtain⟨b3,QC,rfl,-,d0,d1,d2⟩:=aV.at_ (hhl.out Wk hB2) hkt;have hst:Hid (ku H a b l[k]=false→∀j (hj:j<l.length),j<k+1→ku H a b l[j]=false):=hide (fun g j hj hji=>by
         rcases Nat.lt_or_ge j k with g2|g2
         ·exact hall.out j hj g2
         ·obtain rfl:j=k:=(by omega);exact g)
        have hyes:Hid (ku H a b l[k]=true→mq H l a b=true):=hide (fun g=>List.any_eq_true.2 ⟨_,List.getElem_mem hkt,g⟩);have hone:=hide (fun(g1:l[k].a=(a:Int)) (g2:l[k].b=(b:Int))=>MI g1 g2 ha hb);have MJ:=hide (fun(g1:l[k].a≠(a:Int)∨l[k].b≠(b:Int))=>PK (H:=H) g1);have hoc:=hide (jA (some ⟨bt,off,none⟩) c H l[k] Wk (hh.out Wk hB2) hn.out);clear hall;generalize l[k]=d at*;obtain⟨dk,da,db⟩:=d;dsimp only at d0 d1 d2 hone MJ hoc;by_cases q1:da=(a:Int)
        ·by_cases q2:db=(b:Int)
         ·have q1b:(da !=(a:Int))=false:=(by simp[q1]);have q2b:(db !=(b:Int))=false:=(by simp[q2]);have ho:=hone.out q1 q2;rw[ho]at hst hyes;obtain⟨o,ho⟩:∃o,dh H ⟨dk,da,db⟩=o:=⟨_,rfl⟩;rw[ho]at hst hyes;replace ho:=hide ho;clear hone MJ hoc q1 q2;go_upto_region 15 with fail;refine bn [0,1,2,3,4] [5,6] (by kernel_rfl) (by kernel_rfl) (fun _ _ d _ _ h=>by cases d<;>exact h) ?_;simp only[List.filterMap_cons,List.filterMap_nil,gZ,gS];repeat still_step
          refine wpStill_nil ?_;go_wp2_with fail;refine(jA (some ⟨bt,off,none⟩) c H ⟨dk,da,db⟩ _ (aC.keep (hh.out Wk hB2) (Agree.drewN _ _ _) (fun b h=>h)) hn.out).mono ?_;rintro e W5 ⟨rfl,nW⟩;have hb5:Below Wk.heap.size Wk W5:=⟨nW.os,nW.tape,nW.output,nW.size,nW.block⟩;have hB5:=hB2.trans (hb5.mono hB2.size);replace k0:=k0.below hb5 k0.lt;rw[ho.out];clear ho nW hb5 c0 d0 d1 d2;cases o with
          |true=>
           obtain rfl:q=true:=QK.out.symm.trans (hyes.out rfl);clear hst hyes QK;go_wp2;go_ret;exact⟨rfl,hB5⟩
          |false=>
           have bK:=hide (hst.out rfl);clear hst hyes;go_wp2;go_roundw;case rel=>exact⟨k+1,by omega,by go_num,bK,hB5,k0⟩
           case measure=>simp[intOf]<;>omega
         ·have q1b:(da !=(a:Int))=false:=(by simp[q1]);have q2b:(db !=(b:Int))=true:=(by simp[q2]);have bK:=hide (hst.out (MJ.out (.inr q2)));clear hone MJ hst hyes hoc q1 q2;go_wp2;go_roundw;case rel=>exact⟨k+1,by omega,by go_num,bK,hB2,k0⟩
          case measure=>simp[intOf]<;>omega
        ·have q1b:(da !=(a:Int))=true:=(by simp[q1]);have bK:=hide (hst.out (MJ.out (.inl q1)));clear hone MJ hst hyes hoc q1;go_wp2;go_roundw;case rel=>exact⟨k+1,by omega,by go_num,bK,hB2,k0⟩
         case measure=>simp[intOf]<;>omega
       ·obtain rfl:k=l.length:=(by omega);obtain rfl:q=false:=by
         have h1:mq H l a b=false:=by
          unfold mq;rw[List.any_eq_false];intro r hr;obtain⟨j,hj,rfl⟩:=List.getElem_of_mem hr;rw[hall.out j hj hj];exact Bool.false_ne_true
         exact QK.out.symm.trans h1
        clear QK hall;go_wp2;go_ret;exact⟨rfl,hB2⟩
set_option maxRecDepth 100000 in
theorem qQ(A:Option Addr)(c:Nat)(L:List Cho)(x:Cho)(w:World)(h:aV w (Old w) (.slice A L.length c) L)(hn:L.length≤1000000):
 Calls Tryz.prog 72 #[.slice A L.length c,.agg #[.int .i64 x.key,.int .i64 x.a,.int .i64 x.b]] w fun e w'=>e= .returned (.bool (L.contains x))∧Below w.heap.size w w':=by
 obtain⟨xk,xa,xb⟩:=x;dsimp only;obtain⟨W0,hW0⟩:∃W0,w.alloc (.cells #[.int .i64 xk,.int .i64 xa,.int .i64 xb] 62)=W0:=⟨_,rfl⟩;have hB:=ah (Below.refl w.heap.size w) hW0 (Nat.le_refl _);have k0:=Blk.newEq hW0;replace h:=hide h;obtain⟨r,hr⟩:∃r,L.contains (⟨xk,xa,xb⟩:Cho)=r:=⟨_,rfl⟩;have hyes:=hide (fun k (hk:k<L.length) (he:L[k]=(⟨xk,xa,xb⟩:Cho))=>show r=true by rw[←hr,List.contains_iff_mem,←he];exact List.getElem_mem hk);have hno:=hide (fun(hall:∀k,(hk:k<L.length)→L[k]≠(⟨xk,xa,xb⟩:Cho))=>show r=false by
  rw[←hr,←Bool.not_eq_true,List.contains_iff_mem];intro hm;obtain⟨k,hk,e⟩:=List.getElem_of_mem hm;exact hall k hk e)
 rw[hr];clear hr;go_enter Tryz.func72,Tryz.ntmps72;go_wp2_with fail;clear hW0;go_loopw [5] (fun s5 wr=>Blk wr w.heap.size 62 #[.int .i64 xk,.int .i64 xa,.int .i64 xb]∧Below w.heap.size w wr∧∃k:Nat,k≤L.length∧s5= .int .i64 k∧Hid (∀j,j<k→(hj:j<L.length)→L[j]≠(⟨xk,xa,xb⟩:Cho))) (fun s5 _=>L.length-(intOf s5).toNat);case atStart=>exact⟨k0,hB,0,Nat.zero_le _,by go_num,hide (fun j hj=>absurd hj (Nat.not_lt_zero _))⟩
 case round=>
  clear k0 hB;obtain⟨Wo,rfl⟩:∃Wo,Wo=wr:=⟨_,rfl⟩;obtain⟨k0,hB,k,hk,rfl,hall⟩:=hrel;have hk1:(0:Int)≤(k:Int):=Int.natCast_nonneg _;by_cases hlt:k<L.length
  ·have hk2:(k:Int)<(L.length:Int):=(by omega);obtain⟨b,off,rfl,-,d0,d1,d2⟩:=aV.at_ (h.out.below hB) hlt;have hy:=hide (hyes.out k hlt);have bK:Hid (L[k]≠(⟨xk,xa,xb⟩:Cho)→∀j,j<k+1→(hj:j<L.length)→L[j]≠(⟨xk,xa,xb⟩:Cho)):=hide (fun hne j hj hj2=>by
    by_cases e:j=k
    ·subst e;exact hne
    ·exact hall.out j (by omega) hj2)
   clear hyes hall;generalize L[k]=y at*;obtain⟨yk,ya,yb⟩:=y;dsimp only at d0 d1 d2;have e0:=Blk.n0 k0;have e1:=Blk.n1 k0;have e2:=Blk.n2 k0;by_cases heq:(⟨yk,ya,yb⟩:Cho)=⟨xk,xa,xb⟩
   ·obtain rfl:=hy.out heq;cases heq;clear bK hy hno;go_upto_region 4 with fail;go_region;go_wp2;go_ret;exact⟨rfl,aZ hB⟩
   ·have OV:=hide (bK.out heq);have kd:=k0.drew;have hBd:=aZ hB;have hw:(yk=xk)=False∨((yk=xk)∧(ya=xa)=False)∨((yk=xk)∧(ya=xa)∧(yb=xb)=False):=by
     by_cases g1:yk=xk
     ·by_cases g2:ya=xa
      ·by_cases g3:yb=xb
       ·exact absurd (by rw[g1,g2,g3]) heq
       ·exact .inr (.inr ⟨g1,g2,eq_false g3⟩)
      ·exact .inr (.inl ⟨g1,eq_false g2⟩)
     ·exact .inl (eq_false g1)
    clear bK hy hno heq;rcases hw with g1|⟨rfl,g2⟩|⟨rfl,rfl,g3⟩;all_goals
     go_upto_region 4 with fail;go_region;go_wp2;go_roundw;case rel=>exact⟨kd,hBd,k+1,by omega,by go_num,OV⟩
     case measure=>simp[intOf];omega
  ·obtain rfl:k=L.length:=(by omega);obtain rfl:=hno.out (fun j hj=>hall.out j hj hj);clear hall hyes hno;go_wp2;go_ret;exact⟨rfl,hB⟩
end Go.Proofs.YtpjechjoijjhpaaGreatDoor
