/-
  Walks: layer 12's reference: two graphs together.
-/
import Derived.StillTailTactics
import Derived.Test.YtfhnamomiaekdaaGreatDoorY06
import Derived.Test.YtfhnamomiaekdaaGreatDoorY05
import Derived.Test.YtfhnamomiaekdaaGreatDoorY02
import Derived.Test.YtfhnamomiaekdaaGreatDoorY03
import Derived.Test.YtfhnamomiaekdaaGreatDoorY08
import Derived.Test.YtfhnamomiaekdaaGreatDoorY13
set_option linter.unusedVariables false
set_option linter.unusedSimpArgs false
namespace Go.Proofs.YtfhnamomiaekdaaGreatDoor
open Go.RowKit Go.Inq
set_option maxHeartbeats 8000000
attribute [local go_sem↓] Go.wp_at_zero Go.wp_at_succ
theorem RGP.start{W1 W5:World}{B n:Nat}{E:aj}{A:Option Addr}{c:Nat}(h:RG W1 B n E (.slice A n c))(hn:n≤64)(e:W1.alloc (.cells #[.int .i64 n,.slice A n c] 140)=W5):RGP W5 B W1.heap.size n E A c:=by
 subst e;refine⟨Blk.new _ _ _,h.alloc _,fun g hg=> ?_,hn⟩;rcases h with⟨h1,h2⟩|⟨g',cap,cur,h1,h2,h3,r⟩
 ·subst hg;cases h2
 ·subst hg;simp only[Value.slice.injEq,Option.some.injEq]at h1;obtain⟨rfl,-⟩:=h1;exact h3.lt
set_option maxRecDepth 100000 in
theorem jA(n:Nat)(A:Option Addr)(c:Nat)(E:aj)(A2:Option Addr)(c2:Nat)(F:aj)(K:Nat→Prop)(w:World)(h:GrS w K n A c E)(h2:GrS w K n A2 c2 F)(hK:∀b,K b→b<w.heap.size):
 Calls Tryz.prog 135 #[.agg #[.int .i64 n,.slice A n c],.agg #[.int .i64 n,.slice A2 n c2]] w (xB w n (orE E F)):=by
 have dG:=h.n64;go_enter Tryz.func135,Tryz.ntmps135;go_upto_region 1 with fail;obtain⟨W0,hW0⟩:∃W0,((w.alloc (.cells #[.int .i64 n,.slice A n c] 140)).alloc (.cells #[.int .i64 n,.slice A2 n c2] 140)).alloc (.cells #[.int .i64 0,.slice none 0 0] 140)=W0:=⟨_,rfl⟩;rw[hW0];have hb:=dY hW0;have k1:=Blk.oz hW0;have k2:=Blk.mK hW0;have k3:=Blk.mM hW0;have s0:=qM hW0;have hg:=hide (h.keep (Agree.below hb hK) (fun b hb=>hb));have hg2:=hide (h2.keep (Agree.below hb hK) (fun b hb=>hb));have hKW:Hid (∀b,K b→b<W0.heap.size):=hide fun b hb=>(by have:=hK b hb;omega);clear hW0 h h2;have c0:=Blk.n0 k1;have c1:=Blk.n1 k1;replace s0:=hide s0;go_wp2_with fail;refine(iR n dG W0).mono ?_;rintro e w1 ⟨v,rfl,hR,hb1⟩;clear c0 c1;obtain⟨Av,cv,rfl,-⟩:=hR.gr dG (K:=fun _=>True) (fun _ _ _=>trivial);go_upto_region 2 with fail;obtain⟨W5,hW5⟩:∃W5,w1.alloc (.cells #[.int .i64 n,.slice Av n cv] 140)=W5:=⟨_,rfl⟩;rw[hW5];have hP:=RGP.start hR dG hW5;have hs1:=hb1.size;have hb5:=ah hb1 hW5 hs1;clear hW5 hR hb1;go_wp2_with fail;go_loopw [6] (fun s6 wr=>∃x:Nat,x≤n∧s6= .int .i64 x∧RGP wr W0.heap.size w1.heap.size n (eu (orE E F) x 0) Av cv∧Below W0.heap.size W0 wr) (fun s6 _=>n-(intOf s6).toNat);case atStart=>exact⟨0,Nat.zero_le _,by go_num,by rw[xC];exact hP,hb5⟩
 case round=>
  obtain⟨x,hx,rfl,hPr,hbr⟩:=hrel;have hx1:(0:Int)≤(x:Int):=Int.natCast_nonneg _;have c0:=hPr.c0;have c1:=hPr.c1;have k1r:=k1.below hbr k1.lt;have a0:=Blk.n0 k1r;by_cases hlt:x<n
  ·have hx2:(x:Int)<(n:Int):=(by omega);go_wp2_with fail;clear c0 c1 a0 k1r;go_loopw [7] (fun s7 wq=>∃y:Nat,y≤n∧s7= .int .i64 y∧RGP wq W0.heap.size w1.heap.size n (eu (orE E F) x y) Av cv∧Below W0.heap.size W0 wq) (fun s7 _=>n-(intOf s7).toNat);case atStart=>exact⟨0,Nat.zero_le _,by go_num,hPr,hbr⟩
   case round=>
    obtain⟨y,hy,rfl,hPq,hbq⟩:=hrel;have hy1:(0:Int)≤(y:Int):=Int.natCast_nonneg _;have k1q:=k1.below hbq k1.lt;have k2q:=k2.below hbq k2.lt;have a0:=Blk.n0 k1q;have a1:=Blk.n1 k1q;have b0:=Blk.n0 k2q;have b1:=Blk.n1 k2q;by_cases hlq:y<n
    ·have hy2:(y:Int)<(n:Int):=(by omega);have hgq:=hide (hg.out.keep (Agree.below hbq hKW.out) (fun b hb=>hb));have hc1:=hide (fZ n A c E x y K wr hgq.out (fun b hb=>Nat.lt_of_lt_of_le (hKW.out b hb) hbq.size) hlt hlq);have hor:Hid (orE E F x y=(E x y||F x y)):=hide rfl;have hst:=hide (xD (E:=orE E F) (x:=x) (y:=y));have hsk:=hide (qU (E:=orE E F) (x:=x) (y:=y));go_wp2_with fail;clear a0 b0;refine hc1.out.mono ?_;rintro e w2 ⟨rfl,hb2⟩;have hbz:=hbq.trans (hb2.mono hbq.size);have hPz:=hPq.below hb2 (Nat.le_refl _);have k2z:=k2.below hbz k2.lt;have b0:=Blk.n0 k2z;have b1:=Blk.n1 k2z;clear hc1;have hgz:=hide (hg2.out.keep (Agree.below hbz hKW.out) (fun b hb=>hb));have hc2:=hide (fZ n A2 c2 F x y K w2 hgz.out (fun b hb=>Nat.lt_of_lt_of_le (hKW.out b hb) hbz.size) hlt hlq);generalize E x y=e1 at*;generalize F x y=e2 at*;go_wp2_with fail;clear b0 b1 k2z;refine hc2.out.mono ?_;rintro e w3 ⟨rfl,hb3⟩;have hb4:=hbz.trans (hb3.mono hbz.size);have hP4:=hPz.below hb3 (Nat.le_refl _);clear hc2 hbz hPz hgz hgq hbq hPq hb3 hb2;cases e1<;>cases e2
     ·have hE2:=hide (hsk.out (by rw[hor.out];rfl));clear hst hsk hor hPr;go_wp2;go_roundw;case rel=>exact⟨y+1,by omega,by go_num,by rw[hE2.out];exact hP4,hb4⟩
      case measure=>simp[intOf];omega
     ·have hE2:=hide (hst.out (by rw[hor.out];rfl));obtain⟨g,rfl,hX⟩:=hP4.at_ hlt;have hP5:=hide (hX.add hlt hlq);have hb5:=hide (hb4.setCell (p:=⟨g,x,none⟩) hX.B (.int .u64 (eU (aV ((eu (orE E F) x y) x) n) (y:Int):Nat)));obtain⟨-,c0,c1,d0,df,gp,gl,-,h64⟩:=hX;clear hst hsk hor hPr hP4 hb4;generalize aV ((eu (orE E F) x y) x) n=s at*;go_upto_region 11 with fail;refine wp_region_still_tail 11 (by kernel_rfl) (by kernel_rfl) ?_;simp only[List.take_succ_cons,List.take_zero,List.drop_succ_cons,List.drop_zero];repeat still_step
      still_call ((d9 _ h64 _ _).mono fun _ _ h=>⟨h.1,h.2.symm⟩)
      repeat still_step
      refine wpStill_nil ?_;change wpList _ _ _ _ _ w3.drew;go_wp2;go_roundw;case rel=>exact⟨y+1,by omega,by go_num,by rw[hE2.out];exact hP5.out.drew,hb5.out.trans ⟨rfl,rfl,rfl,Nat.le_refl _,fun _ _=>rfl⟩⟩
      case measure=>simp[intOf];omega
     ·have hE2:=hide (hst.out (by rw[hor.out];rfl));obtain⟨g,rfl,hX⟩:=hP4.at_ hlt;have hP5:=hide (hX.add hlt hlq);have hb5:=hide (hb4.setCell (p:=⟨g,x,none⟩) hX.B (.int .u64 (eU (aV ((eu (orE E F) x y) x) n) (y:Int):Nat)));obtain⟨-,c0,c1,d0,df,gp,gl,-,h64⟩:=hX;clear hst hsk hor hPr hP4 hb4;generalize aV ((eu (orE E F) x y) x) n=s at*;go_upto_region 11 with fail;refine wp_region_still_tail 11 (by kernel_rfl) (by kernel_rfl) ?_;simp only[List.take_succ_cons,List.take_zero,List.drop_succ_cons,List.drop_zero];repeat still_step
      still_call ((d9 _ h64 _ _).mono fun _ _ h=>⟨h.1,h.2.symm⟩)
      repeat still_step
      refine wpStill_nil ?_;change wpList _ _ _ _ _ w3.drew;go_wp2;go_roundw;case rel=>exact⟨y+1,by omega,by go_num,by rw[hE2.out];exact hP5.out.drew,hb5.out.trans ⟨rfl,rfl,rfl,Nat.le_refl _,fun _ _=>rfl⟩⟩
      case measure=>simp[intOf];omega
     ·have hE2:=hide (hst.out (by rw[hor.out];rfl));obtain⟨g,rfl,hX⟩:=hP4.at_ hlt;have hP5:=hide (hX.add hlt hlq);have hb5:=hide (hb4.setCell (p:=⟨g,x,none⟩) hX.B (.int .u64 (eU (aV ((eu (orE E F) x y) x) n) (y:Int):Nat)));obtain⟨-,c0,c1,d0,df,gp,gl,-,h64⟩:=hX;clear hst hsk hor hPr hP4 hb4;generalize aV ((eu (orE E F) x y) x) n=s at*;go_upto_region 11 with fail;refine wp_region_still_tail 11 (by kernel_rfl) (by kernel_rfl) ?_;simp only[List.take_succ_cons,List.take_zero,List.drop_succ_cons,List.drop_zero];repeat still_step
      still_call ((d9 _ h64 _ _).mono fun _ _ h=>⟨h.1,h.2.symm⟩)
      repeat still_step
      refine wpStill_nil ?_;change wpList _ _ _ _ _ w3.drew;go_wp2;go_roundw;case rel=>exact⟨y+1,by omega,by go_num,by rw[hE2.out];exact hP5.out.drew,hb5.out.trans ⟨rfl,rfl,rfl,Nat.le_refl _,fun _ _=>rfl⟩⟩
      case measure=>simp[intOf];omega
    ·obtain rfl:y=n:=(by omega);have hP4:=hide (hPq.congr (F:=eu (orE E F) (x+1) 0) fun a b _ hb=>zy hb);clear hPq hPr;go_wp2;go_roundw;case rel=>exact⟨x+1,by omega,by go_num,hP4.out,hbq⟩
     case measure=>simp[intOf];omega
  ·obtain rfl:x=n:=(by omega);have hP4:=hPr.congr (F:=orE E F) fun a b ha _=>zA ha;have k3r:=k3.below hbr k3.lt;have f0:=k3r.frozen 0;have f1:=k3r.frozen 1;have e0:=k3r.cell 0;have e1:=k3r.cell 1;have hs0:=s0.out;have hs3:w.heap.size+1+1<W0.heap.size:=k3.lt;have hR:=hide (((hP4.rg.far (p:=⟨w.heap.size+1+1,0,none⟩) hs3 (.int .i64 x)).far (p:=⟨w.heap.size+1+1,1,none⟩) hs3 (.slice Av x cv)).base (B':=w.heap.size) (by omega));have hz:=hide (((hb.trans (hbr.mono hb.size)).setCell (p:=⟨w.heap.size+1+1,0,none⟩) (by simp;omega) (.int .i64 x)).setCell (p:=⟨w.heap.size+1+1,1,none⟩) (by simp;omega) (.slice Av x cv));have hq:=(k3r.aD 0 (.int .i64 x)).aD 1 (.slice Av x cv);simp only[sA,sZ,sS]at hq;have y0:=hq.cell 0;have y1:=hq.cell 1;simp only[gA,gZ,gS]at y0 y1 e0 e1;clear hq hs0 hs3;go_wp2_with fail;exact bodyPost_ret (v:= .agg #[.int .i64 x,.slice Av x cv]) (by simp[results,Tryz.results135,go_sem,y0,y1]) rfl ⟨_,rfl,hR.out,hz.out⟩
theorem Nj(H:List Txn)(a k:Nat)(hk:k≤a+1):eu (soE H) a k=eu (soE H) a 0:=by
 induction k with
 |zero=>rfl
 |succ k ih=>
  rw[qU,ih (by omega)];unfold soE;rw[decide_eq_false (by omega)];rfl
theorem O8{H:List Txn}{a b:Nat}(hab:a<b)(hb:b<H.length):soE H a b=decide ((H[a]'(by omega)).bL=H[b].bL):=by
 unfold soE;rw[decide_eq_true hab,aO (by omega),aO hb];rfl
set_option maxRecDepth 100000 in
theorem Ju(A:Option Addr)(c:Nat)(H:List Txn)(w:World)(h:aF w (Old w) (.slice A H.length c) H)(hr:aC H=true):
 Calls Tryz.prog 196 #[.agg #[.slice A H.length c]] w (xB w H.length (soE H)):=by
 have dG:H.length≤64:=(by have:=((aA H).1 hr).1;omega);clear hr;go_enter Tryz.func196,Tryz.ntmps196;go_upto_region 1 with fail;obtain⟨W0,hW0⟩:∃W0,(w.alloc (.cells #[.slice A H.length c] 24)).alloc (.cells #[.int .i64 0,.slice none 0 0] 140)=W0:=⟨_,rfl⟩;rw[hW0];have hb:=aG hW0;have k1:=Blk.fC hW0;have k3:=Blk.dQ hW0;have s0:=size_two hW0;have hT:=hide (h.below hb);clear hW0 h;have c0:=Blk.n0 k1;replace s0:=hide s0;go_wp2_with fail;refine(iR H.length dG W0).mono ?_;rintro e w1 ⟨v,rfl,hR,hb1⟩;clear c0;obtain⟨Av,cv,rfl,-⟩:=hR.gr dG (K:=fun _=>True) (fun _ _ _=>trivial);go_upto_region 2 with fail;obtain⟨W5,hW5⟩:∃W5,w1.alloc (.cells #[.int .i64 (H.length:Int),.slice Av H.length cv] 140)=W5:=⟨_,rfl⟩;rw[hW5];have hP:=RGP.start hR dG hW5;have hs1:=hb1.size;have hb5:=ah hb1 hW5 hs1;clear hW5 hR hb1;go_wp2_with fail;go_loopw [4] (fun s4 wr=>∃x:Nat,x≤H.length∧s4= .int .i64 x∧RGP wr W0.heap.size w1.heap.size H.length (eu (soE H) x 0) Av cv∧Below W0.heap.size W0 wr) (fun s4 _=>H.length-(intOf s4).toNat);case atStart=>exact⟨0,Nat.zero_le _,by go_num,by rw[xC];exact hP,hb5⟩
 case round=>
  obtain⟨x,hx,rfl,hPr,hbr⟩:=hrel;have hx1:(0:Int)≤(x:Int):=Int.natCast_nonneg _;have c0:=hPr.c0;have c1:=hPr.c1;by_cases hlt:x<H.length
  ·have hx2:(x:Int)<(H.length:Int):=(by omega);go_wp2_with fail;clear c0 c1;go_loopw [5] (fun s5 wq=>∃y:Nat,x+1≤y∧y≤H.length∧s5= .int .i64 y∧RGP wq W0.heap.size w1.heap.size H.length (eu (soE H) x y) Av cv∧Below W0.heap.size W0 wq) (fun s5 _=>H.length-(intOf s5).toNat);case atStart=>exact⟨x+1,Nat.le_refl _,hlt,by go_num,by rw[Nj H x (x+1) (Nat.le_refl _)];exact hPr,hbr⟩
   case round=>
    obtain⟨y,hxy,hy,rfl,hP4,hb4⟩:=hrel;have hy1:(0:Int)≤(y:Int):=Int.natCast_nonneg _;have c0:=hP4.c0;have c1:=hP4.c1;by_cases hlq:y<H.length
    ·have hy2:(y:Int)<(H.length:Int):=(by omega);have hst:=hide (xD (E:=soE H) (x:=x) (y:=y));have hsk:=hide (qU (E:=soE H) (x:=x) (y:=y));have hat:=hide (O8 (H:=H) (a:=x) (b:=y) (by omega) hlq);have hTq:=hT.out.below hb4;have k1q:=k1.below hb4 k1.lt;have a0:=k1q.cell 0;obtain⟨bt,ot,_,_,_,_,e,-,d1,-⟩:=hTq.at_ hlt;obtain⟨bt',ot',_,_,_,_,e',-,d2,-⟩:=hTq.at_ hlq;subst e;injection e' with e'
     injection e' with e1 e2
     subst e1 e2;generalize H[x].bL=p at*;generalize H[y].bL=q at*;generalize soE H x y=sb at*;simp only[gA,gZ,gS]at a0;clear hTq k1q hPr hbr;by_cases hpq:p=q
     ·have hpb:(p==q)=true:=(by simpa using hpq);have hE2:=hide (hst.out (by rw[hat.out];simpa using hpq));go_wp2_with fail;go_region;clear a0 d1 d2;replace hP4:=hP4.drew;replace hb4:=aX hb4;clear c0 c1;generalize wr.drew=w3 at*;obtain⟨g,rfl,hX⟩:=hP4.at_ hlt;have hP5:=hide (hX.add (y:=y) hlt hlq).drew;have hb5:=hide (aX (hb4.setCell (p:=⟨g,x,none⟩) hX.B (.int .u64 (eU (aV ((eu (soE H) x y) x) H.length) (y:Int):Nat))));obtain⟨-,c0,c1,d0,df,gp,gl,-,h64⟩:=hX;clear hst hsk hP4 hb4;generalize aV ((eu (soE H) x y) x) H.length=s at*;go_upto_region 9 with fail;refine wp_region_still_tail 11 (by kernel_rfl) (by kernel_rfl) ?_;simp only[List.take_succ_cons,List.take_zero,List.drop_succ_cons,List.drop_zero];repeat still_step
      still_call ((d9 _ h64 _ _).mono fun _ _ h=>⟨h.1,h.2.symm⟩)
      repeat still_step
      refine wpStill_nil ?_;change wpList _ _ _ _ _ (w3).drew;go_wp2;go_roundw;case rel=>exact⟨y+1,by omega,by omega,by go_num,by rw[hE2.out];exact hP5.out,hb5.out⟩
      case measure=>simp[intOf];omega
     ·have hpb:(p==q)=false:=(by simpa using hpq);have hE2:=hide (hsk.out (by rw[hat.out];simpa using hpq));clear hpq;go_wp2_with fail;go_region;clear a0 d1 d2;replace hP4:=hP4.drew;replace hb4:=aX hb4;go_wp2;go_roundw;case rel=>exact⟨y+1,by omega,by omega,by go_num,by rw[hE2.out];exact hP4,hb4⟩
      case measure=>simp[intOf];omega
    ·obtain rfl:y=H.length:=(by omega);have hP4:=hide (hP4.congr (F:=eu (soE H) (x+1) 0) fun a b _ hb=>zy hb);clear hPr;go_wp2;go_roundw;case rel=>exact⟨x+1,by omega,by go_num,hP4.out,hb4⟩
     case measure=>simp[intOf];omega
  ·obtain rfl:x=H.length:=(by omega);have hP4:=hPr.congr (F:=soE H) fun a b ha _=>zA ha;have k3r:=k3.below hbr k3.lt;have f0:=k3r.frozen 0;have f1:=k3r.frozen 1;have e0:=k3r.cell 0;have e1:=k3r.cell 1;have hs0:=s0.out;have hs3:w.heap.size+1<W0.heap.size:=k3.lt;have hR:=hide (((hP4.rg.far (p:=⟨w.heap.size+1,0,none⟩) hs3 (.int .i64 H.length)).far (p:=⟨w.heap.size+1,1,none⟩) hs3 (.slice Av H.length cv)).base (B':=w.heap.size) (by omega));have hz:=hide (((hb.trans (hbr.mono hb.size)).setCell (p:=⟨w.heap.size+1,0,none⟩) (by simp;try omega) (.int .i64 H.length)).setCell (p:=⟨w.heap.size+1,1,none⟩) (by simp;try omega) (.slice Av H.length cv));have hq:=(k3r.aD 0 (.int .i64 H.length)).aD 1 (.slice Av H.length cv);simp only[sA,sZ,sS]at hq;have y0:=hq.cell 0;have y1:=hq.cell 1;simp only[gA,gZ,gS]at y0 y1 e0 e1;clear hq hs0 hs3;go_wp2_with fail;exact bodyPost_ret (v:= .agg #[.int .i64 H.length,.slice Av H.length cv]) (by simp[results,Tryz.results196,go_sem,y0,y1]) rfl ⟨_,rfl,hR.out,hz.out⟩
def oZ(H:List Txn)(t i:Nat):aj:=fun a b=>decide (a≠b)&&((decide (b<t)&&(aL H b).reads.any fun r=>decide (r.b=(a:Int)))||(decide (b=t)&&((aL H b).reads.take i).any fun r=>decide (r.b=(a:Int))))
theorem Jv(H:List Txn):oZ H 0 0=noE:=by
 funext a b;simp[oZ,noE]
theorem Jw{H:List Txn}{t i s:Nat}{R:List It}(hR:(aL H t).reads=R)(hi:i<R.length)(hs:R[i].b=(s:Int))(hst:s≠t):oZ H t (i+1)=orE (oZ H t i) (gK s t):=by
 subst hR;funext a b;unfold oZ orE gK;by_cases e:b=t
 ·subst e;rw[List.take_succ_eq_append_getElem hi,List.any_append];simp only[List.any_cons,List.any_nil,Bool.or_false,hs];by_cases e2:a=s
  ·subst e2;simp[hst]
  ·have:¬((s:Int)=(a:Int)):=(by omega);simp[e2,this]
 ·simp[e]
theorem Jy{H:List Txn}{t i:Nat}{R:List It}(hR:(aL H t).reads=R)(hi:i<R.length)(hs:R[i].b<0):oZ H t (i+1)=oZ H t i:=by
 subst hR;funext a b;unfold oZ;by_cases e:b=t
 ·subst e;rw[List.take_succ_eq_append_getElem hi,List.any_append];have:¬(((aL H b).reads[i]).b=(a:Int)):=(by omega);simp[this]
 ·simp[e]
theorem Mc{H:List Txn}{t:Nat}{R:List It}(hR:(aL H t).reads=R):oZ H t R.length=oZ H (t+1) 0:=by
 subst hR;funext a b;unfold oZ;by_cases e:b=t
 ·subst e;rw[List.take_length];simp
 ·have:decide (b<t+1)=decide (b<t):=(by simp;omega);simp[e,this]
theorem Md{H:List Txn}{a b:Nat}(hb:b<H.length):oZ H H.length 0 a b=wrE H a b:=by
 unfold oZ wrE;simp[hb]
set_option maxRecDepth 100000 in
theorem Jz(A:Option Addr)(c:Nat)(H:List Txn)(w:World)(h:aF w (Old w) (.slice A H.length c) H)(hr:aC H=true)(hn:aB H):
 Calls Tryz.prog 197 #[.agg #[.slice A H.length c]] w (xB w H.length (wrE H)):=by
 have hok:=hide (((aA H).1 hr).2);have dG:H.length≤64:=(by have:=((aA H).1 hr).1;omega);clear hr;go_enter Tryz.func197,Tryz.ntmps197;go_upto_region 1 with fail;obtain⟨W0,hW0⟩:∃W0,(w.alloc (.cells #[.slice A H.length c] 24)).alloc (.cells #[.int .i64 0,.slice none 0 0] 140)=W0:=⟨_,rfl⟩;rw[hW0];have hb:=aG hW0;have k1:=Blk.fC hW0;have k3:=Blk.dQ hW0;have s0:=size_two hW0;have hT:=hide (h.below hb);clear hW0 h;have c0:=Blk.n0 k1;replace s0:=hide s0;go_wp2_with fail;refine(iR H.length dG W0).mono ?_;rintro e w1 ⟨v,rfl,hR,hb1⟩;clear c0;obtain⟨Av,cv,rfl,-⟩:=hR.gr dG (K:=fun _=>True) (fun _ _ _=>trivial);go_upto_region 2 with fail;obtain⟨W5,hW5⟩:∃W5,w1.alloc (.cells #[.int .i64 (H.length:Int),.slice Av H.length cv] 140)=W5:=⟨_,rfl⟩;rw[hW5];have hP:=RGP.start hR dG hW5;have hs1:=hb1.size;have hb5:=ah hb1 hW5 hs1;clear hW5 hR hb1;go_wp2_with fail;go_loopw [4] (fun s4 wr=>∃x:Nat,x≤H.length∧s4= .int .i64 x∧RGP wr W0.heap.size w1.heap.size H.length (oZ H x 0) Av cv∧Below W0.heap.size W0 wr) (fun s4 _=>H.length-(intOf s4).toNat);case atStart=>exact⟨0,Nat.zero_le _,by go_num,by rw[Jv];exact hP,hb5⟩
 case round=>
  obtain⟨x,hx,rfl,hPr,hbr⟩:=hrel;have hx1:(0:Int)≤(x:Int):=Int.natCast_nonneg _;have c0:=hPr.c0;have c1:=hPr.c1;by_cases hlt:x<H.length
  ·have hx2:(x:Int)<(H.length:Int):=(by omega);obtain⟨bt,ot,Aw,cw,Ar,cr,rfl,hKb,-,-,d2,-,hrs⟩:=hT.out.at_ hlt;replace d2:=(hbr.cell (p:=⟨bt,ot+x*3+2,none⟩) hKb).trans d2;have k1q:=k1.below hbr k1.lt;have a0:=Blk.n0 k1q;obtain⟨R,hR⟩:∃R,H[x].reads=R:=⟨_,rfl⟩;have hRt:(aL H x).reads=R:=(by rw[aO hlt];exact hR);have hth:=hide (fun r (hr:r∈R)=>(hok.out x hlt).there r (by rw[hR];exact hr));have hR9:R.length≤1000000:=(by rw[←hR];exact(hn.2 _ (List.getElem_mem hlt)).2);rw[hR]at hrs d2;clear hR;replace hRt:=hide hRt;replace hrs:=hide hrs;go_wp2_with fail;clear c0 c1 a0 d2 k1q;go_loopw [6] (fun s6 wq=>∃i:Nat,i≤R.length∧s6= .int .i64 i∧RGP wq W0.heap.size w1.heap.size H.length (oZ H x i) Av cv∧Below W0.heap.size W0 wq) (fun s6 _=>R.length-(intOf s6).toNat);case atStart=>exact⟨0,Nat.zero_le _,by go_num,hPr,hbr⟩
   case round=>
    obtain⟨i,hi,rfl,hP4,hb4⟩:=hrel;have hi1:(0:Int)≤(i:Int):=Int.natCast_nonneg _;by_cases hlq:i<R.length
    ·have hi2:(i:Int)<(R.length:Int):=(by omega);obtain⟨br,orr,rfl,-,-,z1⟩:=(hrs.out.below hb4).at_ hlq;have O9:=hide (hth.out _ (List.getElem_mem hlq));have hst:=hide (fun s=>Jw (s:=s) hRt.out hlq);have hsk:=hide (Jy hRt.out hlq);generalize R[i]=r at*;by_cases hneg:r.b<0
     ·have hE2:=hide (hsk.out hneg);have hnb:decide (r.b≥0)=false:=(by simp;omega);clear hst hsk O9 hneg;go_wp2;go_roundw;case rel=>exact⟨i+1,by omega,by go_num,by rw[hE2.out];exact hP4,hb4⟩
      case measure=>simp[intOf];omega
     ·obtain⟨s0,hs0,hsx,hsl⟩:∃s0:Nat,r.b=(s0:Int)∧s0≠x∧s0<H.length:=by
       rcases(qG H x r).1 O9.out with e|⟨k,hk,e,e2,-⟩
       ·omega
       ·exact⟨k,e,e2,hk⟩
      rw[hs0]at z1;have hE2:=hide (hst.out s0 hs0 hsx);have hnb:decide ((s0:Int)≥0)=true:=(by simp);have SY:(0:Int)≤(s0:Int):=Int.natCast_nonneg _;have S9:(s0:Int)<(H.length:Int):=(by omega);go_wp2_with fail;obtain⟨g,rfl,hX⟩:=hP4.at_ hsl;have hP5:=hide (hX.add (y:=x) hsl hlt).drew;have hb5:=hide (aX (hb4.setCell (p:=⟨g,s0,none⟩) hX.B (.int .u64 (eU (aV ((oZ H x i) s0) H.length) (x:Int):Nat))));obtain⟨-,c0,c1,d0,df,gp,gl,-,h64⟩:=hX;clear hst hsk hneg hs0 hsx O9 hP4 hb4;generalize aV ((oZ H x i) s0) H.length=s at*;go_upto_region 10 with fail;refine wp_region_still_tail 19 (by kernel_rfl) (by kernel_rfl) ?_;simp only[List.take_succ_cons,List.take_zero,List.drop_succ_cons,List.drop_zero];repeat still_step
      still_call ((d9 _ h64 _ _).mono fun _ _ h=>⟨h.1,h.2.symm⟩)
      repeat still_step
      refine wpStill_nil ?_;change wpList _ _ _ _ _ (wr).drew;go_wp2;go_roundw;case rel=>exact⟨i+1,by omega,by go_num,by rw[hE2.out];exact hP5.out,hb5.out⟩
      case measure=>simp[intOf];omega
    ·obtain rfl:i=R.length:=(by omega);rw[Mc hRt.out]at hP4;clear hPr;go_wp2;go_roundw;case rel=>exact⟨x+1,by omega,by go_num,hP4,hb4⟩
     case measure=>simp[intOf];omega
  ·obtain rfl:x=H.length:=(by omega);have hP4:=hPr.congr (F:=wrE H) fun a b _ hb=>Md hb;have k3r:=k3.below hbr k3.lt;have f0:=k3r.frozen 0;have f1:=k3r.frozen 1;have e0:=k3r.cell 0;have e1:=k3r.cell 1;have hs0:=s0.out;have hs3:w.heap.size+1<W0.heap.size:=k3.lt;have hR:=hide (((hP4.rg.far (p:=⟨w.heap.size+1,0,none⟩) hs3 (.int .i64 H.length)).far (p:=⟨w.heap.size+1,1,none⟩) hs3 (.slice Av H.length cv)).base (B':=w.heap.size) (by omega));have hz:=hide (((hb.trans (hbr.mono hb.size)).setCell (p:=⟨w.heap.size+1,0,none⟩) (by simp;try omega) (.int .i64 H.length)).setCell (p:=⟨w.heap.size+1,1,none⟩) (by simp;try omega) (.slice Av H.length cv));have hq:=(k3r.aD 0 (.int .i64 H.length)).aD 1 (.slice Av H.length cv);simp only[sA,sZ,sS]at hq;have y0:=hq.cell 0;have y1:=hq.cell 1;simp only[gA,gZ,gS]at y0 y1 e0 e1;clear hq hs0 hs3;go_wp2_with fail;exact bodyPost_ret (v:= .agg #[.int .i64 H.length,.slice Av H.length cv]) (by simp[results,Tryz.results197,go_sem,y0,y1]) rfl ⟨_,rfl,hR.out,hz.out⟩
set_option maxHeartbeats 4000000
theorem eF(ts:Int)(A:Option Addr)(c:Nat)(l:List Int)(vr:Value)(x:Int)(K:Nat→Prop)(w:World)(h:aI w K (.slice A l.length c) l)(hK:∀b,K b→b<w.heap.size)(hn:l.length≤maxLen):
 Calls Tryz.prog 189 #[.agg #[.int .i64 ts,.slice A l.length c,vr],.int .i64 x] w fun e w'=>e= .returned (.bool (l.contains x))∧Below w.heap.size w w':=by
 unfold maxLen at hn;have hA:Below w.heap.size w (w.alloc (.cells #[.int .i64 ts,.slice A l.length c,vr] 109)):=(Below.refl _ _).alloc (Nat.le_refl _) _;have kt:Blk (w.alloc (.cells #[.int .i64 ts,.slice A l.length c,vr] 109)) w.heap.size 109 #[.int .i64 ts,.slice A l.length c,vr]:=Blk.new _ _ _;have h1:=aI.keep h (Agree.below hA hK) (fun b h=>h);have y0:=Blk.n1 kt;have hno:(∀j (hj:j<l.length),l[j]≠x)→l.contains x=false:=fun g=>by
  rw[←Bool.not_eq_true,List.contains_iff_mem];intro hm;obtain⟨j,hj,e⟩:=List.getElem_of_mem hm;exact g j hj e
 have hyes:∀j (hj:j<l.length),x=l[j]→l.contains x=true:=fun j hj e=>by
  rw[List.contains_iff_mem,e];exact List.getElem_mem hj
 generalize l.contains x=cb at*;replace hno:=hide hno;replace hyes:=hide hyes;go_enter Tryz.func189,Tryz.ntmps189;go_wp2_with fail;generalize w.alloc (.cells #[.int .i64 ts,.slice A l.length c,vr] 109)=W at*
 go_loop [5] (fun s5=>∃k:Nat,k≤l.length∧s5= .int .i64 k∧Hid (∀j (hj:j<l.length),j<k→l[j]≠x)) (fun s5=>l.length-(intOf s5).toNat)
 case atStart=>exact⟨0,Nat.zero_le _,by go_num,fun j hj h=>absurd h (by omega)⟩
 case round=>
  obtain⟨k,hk,rfl,hall⟩:=hrel;have hk1:(0:Int)≤(k:Int):=Int.natCast_nonneg _;by_cases hlt:k<l.length
  ·have hi2:(k:Int)<(l.length:Int):=(by omega);obtain⟨b,off,rfl,_,hc⟩:=h1.at_ hlt;have hh:=hide (fun g=>hyes.out k hlt g);have hst:Hid (l[k]≠x→∀j (hj:j<l.length),j<k+1→l[j]≠x):=fun g j hj hjk=>by
    by_cases e:j=k
    ·subst e;exact g
    ·exact hall.out j hj (by omega)
   clear hall;by_cases he:x=l[k]
   ·have hb:(l[k]==x)=true:=(by simpa using he.symm);have hr:=hide (hh.out he);clear he hh hst;go_wp2;go_ret;exact⟨by rw[hr.out];rfl,hA⟩
   ·have hb:(l[k]==x)=false:=(by simpa using fun e=>he e.symm);have hn2:=hide (hst.out (fun e=>he e.symm));clear he hh hst;go_wp2
    go_round
    case rel=>exact⟨k+1,by omega,by go_num,hn2⟩
    case measure=>simp[intOf];omega
  ·have hr:=hide (hno.out fun j hj=>hall.out j hj (by omega));go_wp2;go_ret;exact⟨by rw[hr.out];rfl,hA⟩
theorem Me{H:List Txn}{n:Nat}(h:n<H.length){j:Nat}(hj:j<H[n].writes.length)(hb:wF H[n].writes j=false):(txF H n).all id=false:=by
 rw[tZ h];refine pI (List.prefix_refl _) (List.mem_append.2 (.inl (List.mem_append.2 (.inl ?_))));unfold wFs;exact List.mem_map.2 ⟨j,by simpa using hj,hb⟩
theorem Mf{H:List Txn}{n:Nat}(h:n<H.length){j:Nat}(hj:j<H[n].reads.length)(hb:rF H n H[n].reads j=false):(txF H n).all id=false:=by
 rw[tZ h];refine pI (List.prefix_refl _) (List.mem_append.2 (.inl (List.mem_append.2 (.inr ?_))));unfold rFs;exact List.mem_map.2 ⟨j,by simpa using hj,hb⟩
theorem Mg{H:List Txn}{n:Nat}(h:n<H.length)(hb:eG H[n].bL 8=false):(txF H n).all id=false:=by
 rw[tZ h];exact pI (List.prefix_refl _) (List.mem_append.2 (.inr (by simp[hb])))
theorem Nk{H:List Txn}{n:Nat}(h:n<H.length)(hs:eG H[n].bL 8=true)(hw:∀j,j<H[n].writes.length→wF H[n].writes j=true)(hr:∀j,j<H[n].reads.length→rF H n H[n].reads j=true):(txF H n).all id=true:=by
 rw[tZ h,List.all_append,List.all_append];have h1:(wFs H[n].writes H[n].writes.length).all id=true:=by
  rw[List.all_eq_true];intro b hb;unfold wFs at hb;obtain⟨j,hj,rfl⟩:=List.mem_map.1 hb;exact hw j (by simpa using hj)
 have h2:(rFs H n H[n].reads H[n].reads.length).all id=true:=by
  rw[List.all_eq_true];intro b hb;unfold rFs at hb;obtain⟨j,hj,rfl⟩:=List.mem_map.1 hb;exact hr j (by simpa using hj)
 rw[h1,h2];simp[hs]
theorem Dx{l:List Int}(h:0<l.length):wF l 0=(decide (0≤l[0])&&decide (l[0]<16)):=by
 rw[zf h,show l.take 0=[] from rfl,GU];congr 1
theorem GL{l:List Int}{m:Nat}(h:m+1<l.length):wF l (m+1)=(decide (l[m]<l[m+1])&&decide (l[m+1]<16)):=by
 rw[zf h,List.take_succ_eq_append_getElem (by omega),mD]
theorem Mh{l:List Int}:∀{m:Nat} (h:m<l.length),(∀j,j≤m→wF l j=true)→0≤l[m]
 |0,h,hall=>by
  have:=hall 0 (Nat.le_refl _);rw[Dx h,Bool.and_eq_true,decide_eq_true_eq]at this;exact this.1
 |m+1,h,hall=>by
  have ih:=Mh (m:=m) (by omega) fun j hj=>hall j (by omega);have:=hall (m+1) (Nat.le_refl _);rw[GL h,Bool.and_eq_true,decide_eq_true_eq]at this;omega
theorem Mi{H:List Txn}{n:Nat}{l:List It}{j:Nat}(h:j<l.length):rF H n l j=(wF (l.map (·.a)) j&&jh H n l[j]):=by
 rw[J3 h,zf (by rw[List.length_map];exact h),List.getElem_map,List.map_take]
theorem N9{l:List Int}{i:Nat}(h:i<l.length)(hall:∀j,j<i→wF l j=true):wF l i=true↔0≤l[i]∧l[i]<16∧∀m (hm:m+1=i),l[m]'(by omega)<l[i]:=by
 cases i with
 |zero=>
  rw[Dx h,Bool.and_eq_true,decide_eq_true_eq,decide_eq_true_eq];exact⟨fun g=>⟨g.1,g.2,fun m hm=>by omega⟩,fun g=>⟨g.1,g.2.1⟩⟩
 |succ m=>
  have hp:=Mh (m:=m) (by omega) fun j hj=>hall j (by omega);rw[GL h,Bool.and_eq_true,decide_eq_true_eq,decide_eq_true_eq];refine⟨fun g=>⟨by omega,g.2,fun m' hm=> ?_⟩,fun g=>⟨g.2.2 m rfl,g.2.1⟩⟩;obtain rfl:m'=m:=(by omega);exact g.1
theorem fD{B:Nat}{w W:World}(h:Below B w W)(n:Nat):Below B w (W.drewN n):=h.trans ⟨rfl,rfl,rfl,Nat.le_refl _,fun _ _=>rfl⟩
def Mj(l:List Txn):Prop:=l.length≤9223372036854775807∧∀t∈l,t.writes.length≤9223372036854775807∧t.reads.length≤9223372036854775807
theorem aB.len{l:List Txn}(h:aB l):Mj l:=⟨by have:=h.1;omega,fun t ht=>by have:=h.2 t ht;omega⟩
set_option maxHeartbeats 16000000 in
set_option maxRecDepth 100000 in
theorem JA(A:Option Addr)(c:Nat)(H:List Txn)(n:Nat)(w:World)(h:aF w (Old w) (.slice A H.length c) H)(hn:n<H.length)(hs:Mj H):
 Calls Tryz.prog 126 #[.agg #[.slice A H.length c],.int .i64 n] w fun e w'=>e= .returned (.bool ((txF H n).all id))∧Below w.heap.size w w':=by
 have hH:=hs.1;obtain⟨hsw,hsr⟩:=hs.2 _ (List.getElem_mem hn);have Qy:=hide (fun m hm=>(hs.2 _ (List.getElem_mem (l:=H) (n:=m) hm)).1);have hnw:=hide (fun j hj hb=>Me hn (j:=j) hj hb);have hnr:=hide (fun j hj hb=>Mf hn (j:=j) hj hb);have hns:=hide (fun hb=>Mg hn hb);have hyes:=hide (fun a b c=>Nk hn a b c);obtain⟨b,off,Aw,cw,Ar,cr,rfl,hbK,d0,d1,d2,hws,hrs⟩:=aF.at_ h hn;generalize ht:H[n]=t at*;replace ht:=hide ht;obtain⟨ts,ws,rs⟩:=t;dsimp only at*;have hW1:Below w.heap.size w (w.alloc (.cells #[.slice (some ⟨b,off,none⟩) H.length c] 24)):=(Below.refl _ _).alloc (Nat.le_refl _) _;have kH:Blk (w.alloc (.cells #[.slice (some ⟨b,off,none⟩) H.length c] 24)) w.heap.size 24 #[.slice (some ⟨b,off,none⟩) H.length c]:=Blk.new _ _ _;have e0:=(hW1.cell (p:=⟨b,off+n*3,none⟩) hbK).trans d0;have e1:=(hW1.cell (p:=⟨b,off+n*3+1,none⟩) hbK).trans d1;have e2:=(hW1.cell (p:=⟨b,off+n*3+2,none⟩) hbK).trans d2;have z0:=Blk.n0 kH;have hB2:=hW1.alloc hW1.size (.cells #[.int .i64 ts,.slice Aw ws.length cw,.slice Ar rs.length cr] 109);have kT:Blk ((w.alloc (.cells #[.slice (some ⟨b,off,none⟩) H.length c] 24)).alloc (.cells #[.int .i64 ts,.slice Aw ws.length cw,.slice Ar rs.length cr] 109)) (w.heap.size+1) 109 #[.int .i64 ts,.slice Aw ws.length cw,.slice Ar rs.length cr]:=by
  have:=Blk.new (w.alloc (.cells #[.slice (some ⟨b,off,none⟩) H.length c] 24)) 109 #[.int .i64 ts,.slice Aw ws.length cw,.slice Ar rs.length cr];simp only[World.size_alloc]at this;exact this
 have kH2:=kH.alloc (.cells #[.int .i64 ts,.slice Aw ws.length cw,.slice Ar rs.length cr] 109);have hn1:(0:Int)≤(n:Int):=Int.natCast_nonneg _;have hn2:(n:Int)<(H.length:Int):=(by omega);have t0:=Blk.n0 kT;by_cases g0:ts<0
 ·have g0b:decide (ts<0)=true:=(by simpa using g0);have hno:=hide (hns.out (by simp[eG];omega));go_enter Tryz.func126,Tryz.ntmps126;go_wp2;go_ret;exact⟨by rw[hno.out];rfl,hB2⟩
 have g0b:decide (ts<0)=false:=(by simpa using g0);by_cases g1:7<ts
 ·have g1b:decide (ts>7)=true:=(by simpa using g1);have hno:=hide (hns.out (by simp[eG];omega));go_enter Tryz.func126,Tryz.ntmps126;go_wp2;go_ret;exact⟨by rw[hno.out];rfl,hB2⟩
 have g1b:decide (ts>7)=false:=(by simpa using g1);have zY:=hide (hyes.out (by simp[eG];omega));clear hyes hns;go_enter Tryz.func126,Tryz.ntmps126;go_wp2_with fail;clear d0 d1 d2 e0 e1 e2 z0 t0 g0b g1b kH hW1;generalize(w.alloc (.cells #[.slice (some ⟨b,off,none⟩) H.length c] 24)).alloc (.cells #[.int .i64 ts,.slice Aw ws.length cw,.slice Ar rs.length cr] 109)=W2 at*;go_loopw [6] (fun s6 wr=>∃i:Nat,i≤ws.length∧s6= .int .i64 i∧Hid (∀j,j<i→wF ws j=true)∧Below w.heap.size w wr∧Blk wr (w.heap.size+1) 109 #[.int .i64 ts,.slice Aw ws.length cw,.slice Ar rs.length cr]∧Blk wr w.heap.size 24 #[.slice (some ⟨b,off,none⟩) H.length c]) (fun s6 _=>ws.length-(intOf s6).toNat);case atStart=>exact⟨0,Nat.zero_le _,by go_num,fun j h=>absurd h (by omega),hB2,kT,kH2⟩
 case round=>
  clear hB2 kT kH2;obtain⟨i,hi,rfl,hall,hb,kT,kH⟩:=hrel;have hi1:(0:Int)≤(i:Int):=Int.natCast_nonneg _;have e1:=Blk.n1 kT;by_cases hlt:i<ws.length
  ·have hi2:(i:Int)<(ws.length:Int):=(by omega);have hW:=aI.keep hws (Agree.below hb fun b h=>h) (fun b h=>h);have hcm:=hide (fun m (hm:m<ws.length)=>aI.at_ hW hm);obtain⟨bw,ow,rfl,hbw,ec⟩:=aI.at_ hW hlt;have hwf:=N9 hlt hall.out;have hbad:=hide (fun g=>hnw.out i hlt g);have hgo:Hid (wF ws i=true→∀j,j<i+1→wF ws j=true):=fun g j hj=>by
    by_cases e:j=i
    ·subst e;exact g
    ·exact hall.out j (by omega)
   by_cases k1:ws[i]<0
   ·have k1b:decide (ws[i]<0)=true:=(by simpa using k1);replace hwf:=hide hwf;have hno:=hide (hbad.out (by rw[←Bool.not_eq_true,hwf.out];intro g;have:=g.1;omega));clear hbad hwf hgo;go_wp2_with fail;go_quiet (fail);go_wp2;go_ret;exact⟨by rw[hno.out];rfl,fD hb nq⟩
   ·have k1b:decide (ws[i]<0)=false:=(by simpa using k1);by_cases k2:15<ws[i]
    ·have k2b:decide (ws[i]>15)=true:=(by simpa using k2);replace hwf:=hide hwf;have hno:=hide (hbad.out (by rw[←Bool.not_eq_true,hwf.out];intro g;have:=g.2.1;omega));clear hbad hwf hgo;go_wp2_with fail;go_quiet (fail);go_wp2;go_ret;exact⟨by rw[hno.out];rfl,fD hb nq⟩
    ·have k2b:decide (ws[i]>15)=false:=(by simpa using k2);by_cases hi0:i=0
     ·have k3b:decide ((i:Int)>0)=false:=(by simp;omega);have k3c:decide (0<i)=false:=(by simp;omega);replace hwf:=hide hwf;replace hi0:=hide hi0;have yA:=hide (hgo.out (hwf.out.2 ⟨by omega,by omega,fun m hm=>by have:=hi0.out;omega⟩));clear hbad hwf hgo;go_wp2_with fail;go_quiet (fail);go_wp2;go_roundw;case rel=>exact⟨i+1,by omega,by go_num,yA,fD hb nq,kT,kH⟩
      case measure=>simp[intOf];omega
     ·obtain⟨m,hm⟩:∃m,m+1=i:=⟨i-1,by omega⟩;have k3b:decide ((i:Int)>0)=true:=(by simp;omega);have k3c:decide (0<i)=true:=(by simp;omega);have k3d:0<i:=(by omega);have hq:IntKind.i64.wrap ((i:Int)-1)=(m:Int):=(by rw[IntKind.wrap_i64];omega);have hm1:(0:Int)≤(m:Int):=Int.natCast_nonneg _;have hm2:(m:Int)<(ws.length:Int):=(by omega);obtain⟨bw',ow',hA,_,em⟩:=hcm.out m (by omega);injection hA with hA
      injection hA with hA1 hA2
      subst hA1 hA2;have hmi:=hide hm;by_cases k4:ws[i]≤ws[m]'(by omega)
      ·have k4b:decide ((ws[m]'(by omega))≥ws[i])=true:=(by simpa using k4);replace hwf:=hide hwf;have hno:=hide (hbad.out (by rw[←Bool.not_eq_true,hwf.out];intro g;have:=g.2.2 m hmi.out;omega));clear hbad hwf hgo;go_wp2_with fail;go_quiet (fail);go_wp2;go_ret;exact⟨by rw[hno.out];rfl,fD hb nq⟩
      ·have k4b:decide ((ws[m]'(by omega))≥ws[i])=false:=(by simpa using k4);replace hwf:=hide hwf;have yA:=hide (hgo.out (hwf.out.2 ⟨by omega,by omega,fun m' hm'=>by obtain rfl:m'=m:=by{have:=hmi.out;omega};omega⟩));clear hbad hwf hgo;go_wp2_with fail;go_quiet (fail);go_wp2;go_roundw;case rel=>exact⟨i+1,by omega,by go_num,yA,fD hb nq,kT,kH⟩
       case measure=>simp[intOf];omega
  ·obtain rfl:i=ws.length:=(by omega);have Qz:=hide (fun hr=>zY.out hall.out hr);have e2:=Blk.n2 kT;go_wp2;clear e1 e2 hall zY hi hlt hi1;go_loopw [7] (fun s7 wr=>∃i:Nat,i≤rs.length∧s7= .int .i64 i∧Hid (∀j,j<i→rF H n rs j=true)∧Below w.heap.size w wr∧Blk wr (w.heap.size+1) 109 #[.int .i64 ts,.slice Aw ws.length cw,.slice Ar rs.length cr]∧Blk wr w.heap.size 24 #[.slice (some ⟨b,off,none⟩) H.length c]) (fun s7 _=>rs.length-(intOf s7).toNat);case atStart=>exact⟨0,Nat.zero_le _,by go_num,fun j h=>absurd h (by omega),hb,kT,kH⟩
   case round=>
    clear hb kT kH;obtain⟨i,hi,rfl,hall,hb,kT,kH⟩:=hrel;have hi1:(0:Int)≤(i:Int):=Int.natCast_nonneg _;have e2:=Blk.n2 kT;by_cases hlt:i<rs.length
    ·have hi2:(i:Int)<(rs.length:Int):=(by omega);have hR:=ItS.keep hrs (Agree.below hb fun b h=>h) (fun b h=>h);have hcm:=hide (fun m (hm:m<rs.length)=>ItS.at_ hR hm);obtain⟨br,or_,rfl,hbr,ec0,ec1⟩:=ItS.at_ hR hlt;have hrk:=hide (Mi (H:=H) (n:=n) hlt);have hwf:=N9 (l:=rs.map (·.a)) (i:=i) (by rw[List.length_map];exact hlt) fun j hj=>by
      have:=hall.out j hj;rw[Mi (by omega),Bool.and_eq_true]at this;exact this.1
     rw[List.getElem_map]at hwf;have hth:=hide (qG H n rs[i]);have hbad:=hide (fun g=>hnr.out i hlt g);have hgo:Hid (rF H n rs i=true→∀j,j<i+1→rF H n rs j=true):=fun g j hj=>by
      by_cases e:j=i
      ·subst e;exact g
      ·exact hall.out j (by omega)
     have hmk:=hide (fun m (hm:m<rs.length)=>List.getElem_map (fun x:It=>x.a) (l:=rs) (i:=m) (h:=by rw[List.length_map];exact hm));generalize hrx:rs[i]=x at*;replace hrx:=hide hrx;obtain⟨xa,xb⟩:=x;dsimp only at ec0 ec1 hwf hth;have hbA:=hb.alloc hb.size (.cells #[.int .i64 xa,.int .i64 xb] 106);have kTA:=kT.alloc (.cells #[.int .i64 xa,.int .i64 xb] 106);have kHA:=kH.alloc (.cells #[.int .i64 xa,.int .i64 xb] 106);have kX:=Blk.new wr 106 #[.int .i64 xa,.int .i64 xb];have u0:=Blk.n0 kX;have u1:=Blk.n1 kX;have y2:=Blk.n2 kTA;have z0:=Blk.n0 kHA;replace hwf:=hide hwf;go_wp2_with fail;clear ec0 ec1 e2 hb kT kH;generalize hWA:wr.alloc (.cells #[.int .i64 xa,.int .i64 xb] 106)=WA at*;replace hcm:=hide (fun m (hm:m<rs.length)=>ItS.at_ (ItS.keep hrs (Agree.below hbA fun b h=>h) (fun b h=>h)) hm);clear hWA hR;generalize wr.heap.size=N8 at*;by_cases k1:xa<0
     ·have k1b:decide (xa<0)=true:=(by simpa using k1);have hno:=hide (hbad.out (by rw[hrk.out,Bool.and_eq_false_iff];left;rw[←Bool.not_eq_true,hwf.out];intro g;have:=g.1;omega));clear hbad hwf hgo hth hrk;go_quiet (fail);go_wp2;go_ret;exact⟨by rw[hno.out];rfl,fD hbA nq⟩
     ·have k1b:decide (xa<0)=false:=(by simpa using k1);by_cases k2:15<xa
      ·have k2b:decide (xa>15)=true:=(by simpa using k2);have hno:=hide (hbad.out (by rw[hrk.out,Bool.and_eq_false_iff];left;rw[←Bool.not_eq_true,hwf.out];intro g;have:=g.2.1;omega));clear hbad hwf hgo hth hrk;go_quiet (fail);go_wp2;go_ret;exact⟨by rw[hno.out];rfl,fD hbA nq⟩
      ·have k2b:decide (xa>15)=false:=(by simpa using k2);by_cases hi0:i=0
       ·have k3b:decide ((i:Int)>0)=false:=(by simp;omega);have k3c:decide (0<i)=false:=(by simp;omega);have hwt:=hide (hwf.out.2 ⟨by omega,by omega,fun m hm=>by omega⟩);clear hi0;by_cases g5:xb< -1
        ·have g5b:decide (xb< -1)=true:=(by simpa using g5);have hno:=hide (hbad.out (by rw[hrk.out,Bool.and_eq_false_iff];right;rw[←Bool.not_eq_true,hth.out];exact fun g=>g.elim (fun e=>by omega) (fun⟨k,hk,e,_⟩=>by omega)));clear hbad hwf hgo hth hrk;go_quiet (fail);go_wp2;go_ret;exact⟨by rw[hno.out];rfl,fD hbA nq⟩
        ·have g5b:decide (xb< -1)=false:=(by simpa using g5);by_cases g6:(H.length:Int)≤xb
         ·have g6b:decide (xb≥(H.length:Int))=true:=(by simpa using g6);have hno:=hide (hbad.out (by rw[hrk.out,Bool.and_eq_false_iff];right;rw[←Bool.not_eq_true,hth.out];exact fun g=>g.elim (fun e=>by omega) (fun⟨k,hk,e,_⟩=>by omega)));clear hbad hwf hgo hth hrk;go_quiet (fail);go_wp2;go_ret;exact⟨by rw[hno.out];rfl,fD hbA nq⟩
         ·have g6b:decide (xb≥(H.length:Int))=false:=(by simpa using g6);by_cases g7:xb=(n:Int)
          ·have g7b:(xb==(n:Int))=true:=(by simpa using g7);replace g7:=hide g7;have hno:=hide (hbad.out (by rw[hrk.out,Bool.and_eq_false_iff];right;rw[←Bool.not_eq_true,hth.out];have g7:=g7.out;exact fun g=>g.elim (fun e=>by omega) (fun⟨k,hk,e,hkn,_⟩=>by omega)));clear hbad hwf hgo hth hrk;go_quiet (fail);go_wp2;go_ret;exact⟨by rw[hno.out];rfl,fD hbA nq⟩
          ·have g7b:(xb==(n:Int))=false:=(by simpa using g7);by_cases g8:xb<0
           ·have g8b:decide (xb<0)=true:=(by simpa using g8);have yA:=hide (hgo.out (by rw[hrk.out,hwt.out,hth.out.2 (.inl (by omega))];rfl));clear hbad hwf hgo hth hrk hwt;go_quiet (fail);go_wp2;go_roundw;case rel=>exact⟨i+1,by omega,by go_num,yA,fD hbA nq,kTA,kHA⟩
            case measure=>simp[intOf];omega
           ·have g8b:decide (xb<0)=false:=(by simpa using g8);have hm':xb.toNat<H.length:=(by omega);have hm3:0≤xb:=(by omega);have hm4:xb<(H.length:Int):=(by omega);obtain⟨b',off',Aw',cw',Ar',cr',hA',PO,p0,p1,p2,Kc,_⟩:=aF.at_ (aF.keep h (Agree.below hbA fun b h=>h) (fun b h=>h)) hm';injection hA' with hA'
            injection hA' with hA1 hA2
            subst hA1 hA2;have hl':=Qy.out xb.toNat hm';have hrf:rF H n rs i=(H[xb.toNat].writes.contains xa):=by
             rw[hrk.out,hwt.out,Bool.true_and,Bool.eq_iff_iff,hth.out,List.contains_iff_mem];refine⟨?_,fun g=> .inr ⟨xb.toNat,hm',by omega,by omega,g⟩⟩;rintro(e|⟨k,hk,e,_,g⟩)
             ·omega
             ·obtain rfl:k=xb.toNat:=(by omega);exact g
            have Ml:=hide (fun(g:H[xb.toNat].writes.contains xa=false)=>hbad.out (hrf.trans g));have yA:=hide (fun(g:H[xb.toNat].writes.contains xa=true)=>hgo.out (hrf.trans g));clear hbad hwf hgo hth hrk hwt hrf g5 g6 g7;generalize H[xb.toNat].writes=ws' at*;generalize H[xb.toNat].bL=ts' at*;go_quiet (fail);go_wp2_with fail;refine aY [0,1,2,3,4,5,6,7] [8,9] (by kernel_rfl) (by kernel_rfl) (fun _ _ d _ _ h=>by cases d<;>exact h) ?_;simp only[List.filterMap_cons,List.filterMap_nil,gZ,gS];repeat still_step
            refine wpStill_nil ?_;go_wp2_with fail;refine(eF ts' Aw' cw' ws' _ xa (Old w) (WA.drewN (nq+1)) (aI.keep Kc (Agree.drewN _ _ _) (fun b h=>h)) (fun b h=>Nat.lt_of_lt_of_le h hbA.size) (by unfold maxLen;omega)).mono ?_;rintro e W9 ⟨rfl,hb9⟩;have kT9:=Blk.below (w:=WA) kTA ⟨hb9.os,hb9.tape,hb9.output,hb9.size,hb9.block⟩ kTA.lt;have kH9:=Blk.below (w:=WA) kHA ⟨hb9.os,hb9.tape,hb9.output,hb9.size,hb9.block⟩ kHA.lt;have hbF:=(fD hbA (nq+1)).trans (hb9.mono hbA.size);generalize ws'.contains xa=cb at*;cases cb with
            |false=>
             have hno:=hide (Ml.out rfl);go_wp2;go_ret;exact⟨by rw[hno.out];rfl,hbF⟩
            |true=>
             have Pb:=hide (yA.out rfl);go_wp2;go_roundw;case rel=>exact⟨i+1,by omega,by go_num,Pb,hbF,kT9,kH9⟩
             case measure=>simp[intOf];omega
       ·obtain⟨m,hm⟩:∃m,m+1=i:=⟨i-1,by omega⟩;have k3b:decide ((i:Int)>0)=true:=(by simp;omega);have k3c:decide (0<i)=true:=(by simp;omega);have k3d:0<i:=(by omega);have hq:IntKind.i64.wrap ((i:Int)-1)=(m:Int):=(by rw[IntKind.wrap_i64];omega);have hm1:(0:Int)≤(m:Int):=Int.natCast_nonneg _;have hm2:(m:Int)<(rs.length:Int):=(by omega);obtain⟨bw',ow',hA,_,em,_⟩:=hcm.out m (by omega);injection hA with hA
        injection hA with hA1 hA2
        subst hA1 hA2;have hme:=hmk.out m (by omega);generalize(rs[m]'(by omega)).a=pv at*;replace hme:=hide hme;have hmi:=hide hm;clear hi0;by_cases k4:xa≤pv
        ·have k4b:decide (pv≥xa)=true:=(by simpa using k4);have hno:=hide (hbad.out (by rw[hrk.out,Bool.and_eq_false_iff];left;rw[←Bool.not_eq_true,hwf.out];intro g;have:=g.2.2 m hmi.out;rw[hme.out]at this;omega));clear hbad hwf hgo hth hrk;go_quiet (fail);go_wp2;go_ret;exact⟨by rw[hno.out];rfl,fD hbA nq⟩
        ·have k4b:decide (pv≥xa)=false:=(by simpa using k4);have hwt:=hide (hwf.out.2 ⟨by omega,by omega,fun m' hm'=>by
          obtain rfl:m'=m:=(by have:=hmi.out;omega);rw[hme.out];omega⟩)
         by_cases g5:xb< -1
         ·have g5b:decide (xb< -1)=true:=(by simpa using g5);have hno:=hide (hbad.out (by rw[hrk.out,Bool.and_eq_false_iff];right;rw[←Bool.not_eq_true,hth.out];exact fun g=>g.elim (fun e=>by omega) (fun⟨k,hk,e,_⟩=>by omega)));clear hbad hwf hgo hth hrk;go_quiet (fail);go_wp2;go_ret;exact⟨by rw[hno.out];rfl,fD hbA nq⟩
         ·have g5b:decide (xb< -1)=false:=(by simpa using g5);by_cases g6:(H.length:Int)≤xb
          ·have g6b:decide (xb≥(H.length:Int))=true:=(by simpa using g6);have hno:=hide (hbad.out (by rw[hrk.out,Bool.and_eq_false_iff];right;rw[←Bool.not_eq_true,hth.out];exact fun g=>g.elim (fun e=>by omega) (fun⟨k,hk,e,_⟩=>by omega)));clear hbad hwf hgo hth hrk;go_quiet (fail);go_wp2;go_ret;exact⟨by rw[hno.out];rfl,fD hbA nq⟩
          ·have g6b:decide (xb≥(H.length:Int))=false:=(by simpa using g6);by_cases g7:xb=(n:Int)
           ·have g7b:(xb==(n:Int))=true:=(by simpa using g7);replace g7:=hide g7;have hno:=hide (hbad.out (by rw[hrk.out,Bool.and_eq_false_iff];right;rw[←Bool.not_eq_true,hth.out];have g7:=g7.out;exact fun g=>g.elim (fun e=>by omega) (fun⟨k,hk,e,hkn,_⟩=>by omega)));clear hbad hwf hgo hth hrk;go_quiet (fail);go_wp2;go_ret;exact⟨by rw[hno.out];rfl,fD hbA nq⟩
           ·have g7b:(xb==(n:Int))=false:=(by simpa using g7);by_cases g8:xb<0
            ·have g8b:decide (xb<0)=true:=(by simpa using g8);have yA:=hide (hgo.out (by rw[hrk.out,hwt.out,hth.out.2 (.inl (by omega))];rfl));clear hbad hwf hgo hth hrk hwt;go_quiet (fail);go_wp2;go_roundw;case rel=>exact⟨i+1,by omega,by go_num,yA,fD hbA nq,kTA,kHA⟩
             case measure=>simp[intOf];omega
            ·have g8b:decide (xb<0)=false:=(by simpa using g8);have hm':xb.toNat<H.length:=(by omega);have hm3:0≤xb:=(by omega);have hm4:xb<(H.length:Int):=(by omega);obtain⟨b',off',Aw',cw',Ar',cr',hA',PO,p0,p1,p2,Kc,_⟩:=aF.at_ (aF.keep h (Agree.below hbA fun b h=>h) (fun b h=>h)) hm';injection hA' with hA'
             injection hA' with hA1 hA2
             subst hA1 hA2;have hl':=Qy.out xb.toNat hm';have hrf:rF H n rs i=(H[xb.toNat].writes.contains xa):=by
              rw[hrk.out,hwt.out,Bool.true_and,Bool.eq_iff_iff,hth.out,List.contains_iff_mem];refine⟨?_,fun g=> .inr ⟨xb.toNat,hm',by omega,by omega,g⟩⟩;rintro(e|⟨k,hk,e,_,g⟩)
              ·omega
              ·obtain rfl:k=xb.toNat:=(by omega);exact g
             have Ml:=hide (fun(g:H[xb.toNat].writes.contains xa=false)=>hbad.out (hrf.trans g));have yA:=hide (fun(g:H[xb.toNat].writes.contains xa=true)=>hgo.out (hrf.trans g));clear hbad hwf hgo hth hrk hwt hrf g5 g6 g7;generalize H[xb.toNat].writes=ws' at*;generalize H[xb.toNat].bL=ts' at*;go_quiet (fail);go_wp2_with fail;refine aY [0,1,2,3,4,5,6,7] [8,9] (by kernel_rfl) (by kernel_rfl) (fun _ _ d _ _ h=>by cases d<;>exact h) ?_;simp only[List.filterMap_cons,List.filterMap_nil,gZ,gS];repeat still_step
             refine wpStill_nil ?_;go_wp2_with fail;refine(eF ts' Aw' cw' ws' _ xa (Old w) (WA.drewN (nq+1)) (aI.keep Kc (Agree.drewN _ _ _) (fun b h=>h)) (fun b h=>Nat.lt_of_lt_of_le h hbA.size) (by unfold maxLen;omega)).mono ?_;rintro e W9 ⟨rfl,hb9⟩;have kT9:=Blk.below (w:=WA) kTA ⟨hb9.os,hb9.tape,hb9.output,hb9.size,hb9.block⟩ kTA.lt;have kH9:=Blk.below (w:=WA) kHA ⟨hb9.os,hb9.tape,hb9.output,hb9.size,hb9.block⟩ kHA.lt;have hbF:=(fD hbA (nq+1)).trans (hb9.mono hbA.size);generalize ws'.contains xa=cb at*;cases cb with
             |false=>
              have hno:=hide (Ml.out rfl);go_wp2;go_ret;exact⟨by rw[hno.out];rfl,hbF⟩
             |true=>
              have Pb:=hide (yA.out rfl);go_wp2;go_roundw;case rel=>exact⟨i+1,by omega,by go_num,Pb,hbF,kT9,kH9⟩
              case measure=>simp[intOf];omega
    ·obtain rfl:i=rs.length:=(by omega);have hr:=hide (Qz.out hall.out);go_wp2;go_ret;exact⟨by rw[hr.out];rfl,hb⟩
set_option maxHeartbeats 8000000
def uL(t w:Nat)(P:Nat→Bool):aj:=fun a b=>decide (a=t)&&(decide (b<w)&&P b)
theorem JB(E:aj)(t:Nat)(P:Nat→Bool):orE E (uL t 0 P)=E:=by
 funext a b;simp[orE,uL]
theorem JC{E:aj}{t w:Nat}{P:Nat→Bool}(h:P w=true):orE E (uL t (w+1) P)=orE (orE E (uL t w P)) (gK t w):=by
 funext a b;unfold orE uL gK;by_cases e:b=w
 ·subst e;simp[h]
 ·have:decide (b<w+1)=decide (b<w):=(by simp;omega);simp[e,this]
theorem JD{E:aj}{t w:Nat}{P:Nat→Bool}(h:P w=false):orE E (uL t (w+1) P)=orE E (uL t w P):=by
 funext a b;unfold orE uL;by_cases e:b=w
 ·subst e;simp[h]
 ·have:decide (b<w+1)=decide (b<w):=(by simp;omega);simp[this]
def inP(H:List Txn)(t:Nat)(r:It)(b:Nat):Bool:=decide (t≠b)&&(decide (r.b= -1)&&(aL H b).writes.contains r.a)
def nT(H:List Txn)(t i:Nat):aj:=fun a b=>(decide (a<t)&&(aL H a).reads.any fun r=>inP H a r b)||(decide (a=t)&&((aL H a).reads.take i).any fun r=>inP H a r b)
theorem JE(H:List Txn):nT H 0 0=noE:=by
 funext a b;simp[nT,noE]
theorem JF{H:List Txn}{t i:Nat}{R:List It}(hR:(aL H t).reads=R)(hi:i<R.length){n a b:Nat}(hb:b<n):orE (nT H t i) (uL t n (inP H t R[i])) a b=nT H t (i+1) a b:=by
 subst hR;unfold orE nT uL;by_cases e:a=t
 ·subst e;rw[List.take_succ_eq_append_getElem hi,List.any_append];simp[hb]
 ·simp[e]
theorem Mq{H:List Txn}{t:Nat}{R:List It}(hR:(aL H t).reads=R):nT H t R.length=nT H (t+1) 0:=by
 subst hR;funext a b;unfold nT;by_cases e:a=t
 ·subst e;rw[List.take_length];simp
 ·have:decide (a<t+1)=decide (a<t):=(by simp;omega);simp[e,this]
theorem Mr{H:List Txn}{a b:Nat}(ha:a<H.length):nT H H.length 0 a b=lK H a b:=by
 unfold nT lK inP;simp only[ha,decide_true,Bool.true_and,List.take_zero,List.any_nil,Bool.and_false,Bool.or_false];rw[Bool.eq_iff_iff];simp only[List.any_eq_true,Bool.and_eq_true];constructor
 ·rintro⟨r,h1,h2,h3⟩;exact⟨h2,r,h1,h3⟩
 ·rintro⟨h2,r,h1,h3⟩;exact⟨r,h1,h2,h3⟩
set_option maxRecDepth 100000 in
theorem Dy(A:Option Addr)(c:Nat)(H:List Txn)(w:World)(h:aF w (Old w) (.slice A H.length c) H)(hr:aC H=true)(hn:aB H):
 Calls Tryz.prog 198 #[.agg #[.slice A H.length c]] w (xB w H.length (lK H)):=by
 have dG:H.length≤64:=(by have:=((aA H).1 hr).1;omega);clear hr;go_enter Tryz.func198,Tryz.ntmps198;go_upto_region 1 with fail;obtain⟨W0,hW0⟩:∃W0,(w.alloc (.cells #[.slice A H.length c] 24)).alloc (.cells #[.int .i64 0,.slice none 0 0] 140)=W0:=⟨_,rfl⟩;rw[hW0];have hb:=aG hW0;have k1:=Blk.fC hW0;have k3:=Blk.dQ hW0;have s0:=size_two hW0;have hT:=hide (h.below hb);clear hW0 h;have c0:=Blk.n0 k1;replace s0:=hide s0;go_wp2_with fail;refine(iR H.length dG W0).mono ?_;rintro e w1 ⟨v,rfl,hR,hb1⟩;clear c0;obtain⟨Av,cv,rfl,-⟩:=hR.gr dG (K:=fun _=>True) (fun _ _ _=>trivial);go_upto_region 2 with fail;obtain⟨W5,hW5⟩:∃W5,w1.alloc (.cells #[.int .i64 (H.length:Int),.slice Av H.length cv] 140)=W5:=⟨_,rfl⟩;rw[hW5];have hP:=RGP.start hR dG hW5;have hs1:=hb1.size;have hb5:=ah hb1 hW5 hs1;clear hW5 hR hb1;go_wp2_with fail;go_loopw [4] (fun s4 wr=>∃x:Nat,x≤H.length∧s4= .int .i64 x∧RGP wr W0.heap.size w1.heap.size H.length (nT H x 0) Av cv∧Below W0.heap.size W0 wr) (fun s4 _=>H.length-(intOf s4).toNat);case atStart=>exact⟨0,Nat.zero_le _,by go_num,by rw[JE];exact hP,hb5⟩
 case round=>
  obtain⟨x,hx,rfl,hPr,hbr⟩:=hrel;have hx1:(0:Int)≤(x:Int):=Int.natCast_nonneg _;have c0:=hPr.c0;have c1:=hPr.c1;by_cases hlt:x<H.length
  ·have hx2:(x:Int)<(H.length:Int):=(by omega);obtain⟨bt,ot,Aw,cw,Ar,cr,hA,hKb,-,-,d2,-,hrs⟩:=hT.out.at_ hlt;subst hA;replace d2:=(hbr.cell (p:=⟨bt,ot+x*3+2,none⟩) hKb).trans d2;have k1q:=k1.below hbr k1.lt;have a0:=Blk.n0 k1q;obtain⟨R,hR⟩:∃R,H[x].reads=R:=⟨_,rfl⟩;have hRt:(aL H x).reads=R:=(by rw[aO hlt];exact hR);have hR9:R.length≤1000000:=(by rw[←hR];exact(hn.2 _ (List.getElem_mem hlt)).2);rw[hR]at hrs d2;clear hR;replace hRt:=hide hRt;replace hrs:=hide hrs;go_wp2_with fail;clear c0 c1 a0 d2 k1q;go_loopw [6] (fun s6 wq=>∃i:Nat,i≤R.length∧s6= .int .i64 i∧RGP wq W0.heap.size w1.heap.size H.length (nT H x i) Av cv∧Below W0.heap.size W0 wq) (fun s6 _=>R.length-(intOf s6).toNat);case atStart=>exact⟨0,Nat.zero_le _,by go_num,hPr,hbr⟩
   case round=>
    obtain⟨i,hi,rfl,hPi,hbi⟩:=hrel;have hi1:(0:Int)≤(i:Int):=Int.natCast_nonneg _;by_cases hlq:i<R.length
    ·have hi2:(i:Int)<(R.length:Int):=(by omega);clear hPr;have hend:=hide (fun a b (hb:b<H.length)=>JF (a:=a) hRt.out hlq hb);have hRi:Hid (∀wq,Below W0.heap.size W0 wq→∃b off,Ar=some ⟨b,off,none⟩∧wq.cell? ⟨b,off+i*2,none⟩=some (.int .i64 R[i].a)∧wq.cell? ⟨b,off+i*2+1,none⟩=some (.int .i64 R[i].b)):=hide fun wq hq=>by
      obtain⟨b,off,g1,-,g2,g3⟩:=(hrs.out.below hq).at_ hlq;exact⟨b,off,g1,g2,g3⟩
     generalize R[i]=r at*;go_wp2_with fail;go_loopw [7] (fun s7 wq=>∃y:Nat,y≤H.length∧s7= .int .i64 y∧RGP wq W0.heap.size w1.heap.size H.length (orE (nT H x i) (uL x y (inP H x r))) Av cv∧Below W0.heap.size W0 wq) (fun s7 _=>H.length-(intOf s7).toNat);case atStart=>exact⟨0,Nat.zero_le _,by go_num,by rw[JB];exact hPi,hbi⟩
     case round=>
      obtain⟨y,hy,rfl,hPy,hby⟩:=hrel;have hy1:(0:Int)≤(y:Int):=Int.natCast_nonneg _;have c0:=hPy.c0;by_cases hly:y<H.length
      ·have hy2:(y:Int)<(H.length:Int):=(by omega);obtain⟨br,orr,rfl,z0,-⟩:=hRi.out _ hby;obtain⟨bt',ot',Aw',cw',Ar',cr',e',hKb',d0,d1,d2,hws,-⟩:=(hT.out.below hby).at_ hly;injection e' with e'
       injection e' with e1 e2
       subst e1 e2;have k1y:=k1.below hby k1.lt;have a0:=Blk.n0 k1y;have hwl:H[y].writes.length≤maxLen:=(by have:=(hn.2 _ (List.getElem_mem hly)).1;unfold maxLen;omega);have hst:=hide (JC (E:=nT H x i) (t:=x) (w:=y) (P:=inP H x r));have hsk:=hide (JD (E:=nT H x i) (t:=x) (w:=y) (P:=inP H x r));have Dz:Hid (inP H x r y=(decide (x≠y)&&(decide (r.b= -1)&&H[y].writes.contains r.a))):=hide (by unfold inP;rw[aO hly]);have hcw:=hide (eF H[y].bL Aw' cw' H[y].writes (.slice Ar' H[y].reads.length cr') r.a (Old wr) wr.drew (hws.keep (Agree.drew _ _) (fun b h=>h)) (fun b h=>h) hwl);generalize H[y].writes=L at*;generalize H[y].bL=sy at*;generalize H[y].reads=Ry at*;generalize L.contains r.a=cb at*;go_wp2_with fail;refine wp_region_still_tail 10 (by kernel_rfl) (by kernel_rfl) ?_;simp only[List.take_succ_cons,List.take_zero,List.drop_succ_cons,List.drop_zero];repeat still_step
       refine wpStill_nil ?_;go_wp2_with fail;refine hcw.out.mono ?_;rintro e w3 ⟨rfl,hb3⟩;have hb4:=(aX hby).trans (hb3.mono hby.size);have hP4:=hPy.drew.below hb3 (Nat.le_refl _);obtain⟨br',or',e',-,z1⟩:=hRi.out _ hb4;injection e' with e'
       injection e' with e1 e2
       subst e1 e2;clear hcw hPy hPi hbi hby hb3 a0 d0 d1 d2 hws c0 k1y z0;cases cb with
       |false=>
        have hE2:=hide (hsk.out (by rw[Dz.out];simp));clear hst hsk Dz;go_wp2;go_roundw;case rel=>exact⟨y+1,by omega,by go_num,by rw[hE2.out];exact hP4,hb4⟩
        case measure=>simp[intOf];omega
       |true=>
        by_cases hm1:r.b= -1
        ·have hmb:(r.b==(-1))=true:=(by simpa using hm1);by_cases hxy:x=y
         ·have hxb:((y:Int) !=(x:Int))=false:=(by subst hxy;simp);have hE2:=hide (hsk.out (by rw[Dz.out];simp[hxy]));clear hst hsk Dz hm1 hxy;go_wp2;go_roundw;case rel=>exact⟨y+1,by omega,by go_num,by rw[hE2.out];exact hP4,hb4⟩
          case measure=>simp[intOf];omega
         ·have hxb:((y:Int) !=(x:Int))=true:=(by simp;omega);have hE2:=hide (hst.out (by rw[Dz.out];simp[hxy,hm1]));go_wp2_with fail;clear z1 hmb hxb hm1 hxy;obtain⟨g,rfl,hX⟩:=hP4.at_ hlt;have hP5:=hide (hX.add (y:=y) hlt hly).drew;have hb5:=hide (aX (hb4.setCell (p:=⟨g,x,none⟩) hX.B (.int .u64 (eU (aV ((orE (nT H x i) (uL x y (inP H x r))) x) H.length) (y:Int):Nat))));obtain⟨-,c0,c1,d0,df,gp,gl,-,h64⟩:=hX;clear hst hsk Dz hP4 hb4;generalize aV ((orE (nT H x i) (uL x y (inP H x r))) x) H.length=s at*;go_upto_region 14 with fail;refine wp_region_still_tail 11 (by kernel_rfl) (by kernel_rfl) ?_;simp only[List.take_succ_cons,List.take_zero,List.drop_succ_cons,List.drop_zero];repeat still_step
          still_call ((d9 _ h64 _ _).mono fun _ _ h=>⟨h.1,h.2.symm⟩)
          repeat still_step
          refine wpStill_nil ?_;change wpList _ _ _ _ _ (w3).drew;go_wp2;go_roundw;case rel=>exact⟨y+1,by omega,by go_num,by rw[hE2.out];exact hP5.out,hb5.out⟩
          case measure=>simp[intOf];omega
        ·have hmb:(r.b==(-1))=false:=(by simpa using hm1);have hE2:=hide (hsk.out (by rw[Dz.out];simp[hm1]));clear hst hsk Dz hm1;go_wp2;go_roundw;case rel=>exact⟨y+1,by omega,by go_num,by rw[hE2.out];exact hP4,hb4⟩
         case measure=>simp[intOf];omega
      ·obtain rfl:y=H.length:=(by omega);have hP4:=hide (hPy.congr (F:=nT H x (i+1)) fun a b _ hb=>hend.out a b hb);clear hPy hPi;go_wp2;go_roundw;case rel=>exact⟨i+1,by omega,by go_num,hP4.out,hby⟩
       case measure=>simp[intOf];omega
    ·obtain rfl:i=R.length:=(by omega);rw[Mq hRt.out]at hPi;clear hPr;go_wp2;go_roundw;case rel=>exact⟨x+1,by omega,by go_num,hPi,hbi⟩
     case measure=>simp[intOf];omega
  ·obtain rfl:x=H.length:=(by omega);have hP4:=hPr.congr (F:=lK H) fun a b ha _=>Mr ha;have k3r:=k3.below hbr k3.lt;have f0:=k3r.frozen 0;have f1:=k3r.frozen 1;have e0:=k3r.cell 0;have e1:=k3r.cell 1;have hs0:=s0.out;have hs3:w.heap.size+1<W0.heap.size:=k3.lt;have hR:=hide (((hP4.rg.far (p:=⟨w.heap.size+1,0,none⟩) hs3 (.int .i64 H.length)).far (p:=⟨w.heap.size+1,1,none⟩) hs3 (.slice Av H.length cv)).base (B':=w.heap.size) (by omega));have hz:=hide (((hb.trans (hbr.mono hb.size)).setCell (p:=⟨w.heap.size+1,0,none⟩) (by simp;try omega) (.int .i64 H.length)).setCell (p:=⟨w.heap.size+1,1,none⟩) (by simp;try omega) (.slice Av H.length cv));have hq:=(k3r.aD 0 (.int .i64 H.length)).aD 1 (.slice Av H.length cv);simp only[sA,sZ,sS]at hq;have y0:=hq.cell 0;have y1:=hq.cell 1;simp only[gA,gZ,gS]at y0 y1 e0 e1;clear hq hs0 hs3;go_wp2_with fail;exact bodyPost_ret (v:= .agg #[.int .i64 H.length,.slice Av H.length cv]) (by simp[results,Tryz.results198,go_sem,y0,y1]) rfl ⟨_,rfl,hR.out,hz.out⟩
def eP(n:Nat)(E F:aj)(x y z:Nat):aj:=fun a c=>(List.range n).any fun b=>(E a b&&F b c)&&(decide (a<x)||(decide (a=x)&&(decide (b<y)||(decide (b=y)&&decide (c<z)))))
theorem dD{n:Nat}{E F:aj}{x y z a c:Nat}:eP n E F x y z a c=true↔∃b,b<n∧(E a b=true∧F b c=true)∧(a<x∨(a=x∧(b<y∨(b=y∧c<z)))):=by
 unfold eP;simp[List.any_eq_true]
theorem DC(n:Nat)(E F:aj):eP n E F 0 0 0=noE:=by
 funext a c;rw[Bool.eq_iff_iff,dD];simp[noE]
theorem DF{n:Nat}{E F:aj}{x y z:Nat}(hy:y<n)(h1:E x y=true)(h2:F y z=true):eP n E F x y (z+1)=orE (eP n E F x y z) (gK x z):=by
 funext a c;rw[Bool.eq_iff_iff];unfold orE gK;rw[Bool.or_eq_true,dD,dD];simp;constructor
 ·rintro⟨b,hb,h3,h4⟩;by_cases e:a=x∧b=y∧c=z
  ·exact .inr ⟨e.1,e.2.2⟩
  ·exact .inl ⟨b,hb,h3,by omega⟩
 ·rintro(⟨b,hb,h3,h4⟩|⟨rfl,rfl⟩)
  ·exact⟨b,hb,h3,by omega⟩
  ·exact⟨y,hy,⟨h1,h2⟩,by omega⟩
theorem DI{n:Nat}{E F:aj}{x y z:Nat}(h:F y z=false):eP n E F x y (z+1)=eP n E F x y z:=by
 funext a c;rw[Bool.eq_iff_iff,dD,dD];constructor
 ·rintro⟨b,hb,h3,h4⟩;by_cases e:b=y∧c=z
  ·rw[e.1,e.2,h]at h3;cases h3.2
  ·exact⟨b,hb,h3,by omega⟩
 ·rintro⟨b,hb,h3,h4⟩;exact⟨b,hb,h3,by omega⟩
theorem FR{n:Nat}{E F:aj}{x y a c:Nat}(hc:c<n):eP n E F x y n a c=eP n E F x (y+1) 0 a c:=by
 rw[Bool.eq_iff_iff,dD,dD];constructor
 ·rintro⟨b,hb,h3,h4⟩;exact⟨b,hb,h3,by omega⟩
 ·rintro⟨b,hb,h3,h4⟩;exact⟨b,hb,h3,by omega⟩
theorem JG{n:Nat}{E F:aj}{x y:Nat}(h:E x y=false):eP n E F x (y+1) 0=eP n E F x y 0:=by
 funext a c;rw[Bool.eq_iff_iff,dD,dD];constructor
 ·rintro⟨b,hb,h3,h4⟩;by_cases e:a=x∧b=y
  ·rw[e.1,e.2,h]at h3;cases h3.1
  ·exact⟨b,hb,h3,by omega⟩
 ·rintro⟨b,hb,h3,h4⟩;exact⟨b,hb,h3,by omega⟩
theorem DJ{n:Nat}{E F:aj}{x a c:Nat}:eP n E F x n 0 a c=eP n E F (x+1) 0 0 a c:=by
 rw[Bool.eq_iff_iff,dD,dD];constructor
 ·rintro⟨b,hb,h3,h4⟩;exact⟨b,hb,h3,by omega⟩
 ·rintro⟨b,hb,h3,h4⟩;exact⟨b,hb,h3,by omega⟩
theorem FT{n:Nat}{E F:aj}{a c:Nat}(ha:a<n):eP n E F n 0 0 a c=j6 n E F a c:=by
 rw[Bool.eq_iff_iff,dD];unfold j6;rw[List.any_eq_true];constructor
 ·rintro⟨b,hb,h3,_⟩;exact⟨b,List.mem_range.2 hb,by rw[h3.1,h3.2];rfl⟩
 ·rintro⟨b,hb,h3⟩;rw[Bool.and_eq_true]at h3;exact⟨b,List.mem_range.1 hb,h3,.inl ha⟩
set_option maxRecDepth 100000 in
theorem DK(n:Nat)(A:Option Addr)(c:Nat)(E:aj)(A2:Option Addr)(c2:Nat)(F:aj)(K:Nat→Prop)(w:World)(h:GrS w K n A c E)(h2:GrS w K n A2 c2 F)(hK:∀b,K b→b<w.heap.size):
 Calls Tryz.prog 139 #[.agg #[.int .i64 n,.slice A n c],.agg #[.int .i64 n,.slice A2 n c2]] w (xB w n (j6 n E F)):=by
 have dG:=h.n64;go_enter Tryz.func139,Tryz.ntmps139;go_upto_region 1 with fail;obtain⟨W0,hW0⟩:∃W0,((w.alloc (.cells #[.int .i64 n,.slice A n c] 140)).alloc (.cells #[.int .i64 n,.slice A2 n c2] 140)).alloc (.cells #[.int .i64 0,.slice none 0 0] 140)=W0:=⟨_,rfl⟩;rw[hW0];have hb:=dY hW0;have k1:=Blk.oz hW0;have k2:=Blk.mK hW0;have k3:=Blk.mM hW0;have s0:=qM hW0;have hg:=hide (h.keep (Agree.below hb hK) (fun b hb=>hb));have hg2:=hide (h2.keep (Agree.below hb hK) (fun b hb=>hb));have hKW:Hid (∀b,K b→b<W0.heap.size):=hide fun b hb=>(by have:=hK b hb;omega);clear hW0 h h2;have c0:=Blk.n0 k1;have c1:=Blk.n1 k1;replace s0:=hide s0;go_wp2_with fail;refine(iR n dG W0).mono ?_;rintro e w1 ⟨v,rfl,hR,hb1⟩;clear c0 c1;obtain⟨Av,cv,rfl,-⟩:=hR.gr dG (K:=fun _=>True) (fun _ _ _=>trivial);go_upto_region 2 with fail;obtain⟨W5,hW5⟩:∃W5,w1.alloc (.cells #[.int .i64 n,.slice Av n cv] 140)=W5:=⟨_,rfl⟩;rw[hW5];have hP:=RGP.start hR dG hW5;have hs1:=hb1.size;have hb5:=ah hb1 hW5 hs1;clear hW5 hR hb1;go_wp2_with fail;go_loopw [6] (fun s6 wr=>∃x:Nat,x≤n∧s6= .int .i64 x∧RGP wr W0.heap.size w1.heap.size n (eP n E F x 0 0) Av cv∧Below W0.heap.size W0 wr) (fun s6 _=>n-(intOf s6).toNat);case atStart=>exact⟨0,Nat.zero_le _,by go_num,by rw[DC];exact hP,hb5⟩
 case round=>
  obtain⟨x,hx,rfl,hPr,hbr⟩:=hrel;have hx1:(0:Int)≤(x:Int):=Int.natCast_nonneg _;have c0:=hPr.c0;have c1:=hPr.c1;have k1r:=k1.below hbr k1.lt;have a0:=Blk.n0 k1r;by_cases hlt:x<n
  ·have hx2:(x:Int)<(n:Int):=(by omega);go_wp2_with fail;clear c0 c1 a0 k1r;go_loopw [7] (fun s7 wq=>∃y:Nat,y≤n∧s7= .int .i64 y∧RGP wq W0.heap.size w1.heap.size n (eP n E F x y 0) Av cv∧Below W0.heap.size W0 wq) (fun s7 _=>n-(intOf s7).toNat);case atStart=>exact⟨0,Nat.zero_le _,by go_num,hPr,hbr⟩
   case round=>
    obtain⟨y,hy,rfl,hPq,hbq⟩:=hrel;have hy1:(0:Int)≤(y:Int):=Int.natCast_nonneg _;have k1q:=k1.below hbq k1.lt;have a0:=Blk.n0 k1q;have a1:=Blk.n1 k1q;by_cases hlq:y<n
    ·have hy2:(y:Int)<(n:Int):=(by omega);have hgq:=hide (hg.out.keep (Agree.below hbq hKW.out) (fun b hb=>hb));have hc1:=hide (fZ n A c E x y K wr hgq.out (fun b hb=>Nat.lt_of_lt_of_le (hKW.out b hb) hbq.size) hlt hlq);have hno:=hide (JG (n:=n) (E:=E) (F:=F) (x:=x) (y:=y));have hyes:=hide (fun z (h1:E x y=true) (h2:F y z=true)=>DF (n:=n) hlq h1 h2);generalize E x y=e1 at*;go_wp2_with fail;clear a0 a1;refine hc1.out.mono ?_;rintro e w2 ⟨rfl,hb2⟩;have hbz:=hbq.trans (hb2.mono hbq.size);have hPz:=hPq.below hb2 (Nat.le_refl _);clear hc1 hPq hPr k1q;cases e1 with
     |false=>
      have hE2:=hide (hno.out rfl);clear hno hyes;go_wp2;go_roundw;case rel=>exact⟨y+1,by omega,by go_num,by rw[hE2.out];exact hPz,hbz⟩
      case measure=>simp[intOf];omega
     |true=>
      clear hno;go_wp2_with fail;go_loopw [9] (fun s9 wq=>∃z:Nat,z≤n∧s9= .int .i64 z∧RGP wq W0.heap.size w1.heap.size n (eP n E F x y z) Av cv∧Below W0.heap.size W0 wq) (fun s9 _=>n-(intOf s9).toNat);case atStart=>exact⟨0,Nat.zero_le _,by go_num,hPz,hbz⟩
      case round=>
       obtain⟨z,hz,rfl,hPz,hbz⟩:=hrel;have hz1:(0:Int)≤(z:Int):=Int.natCast_nonneg _;have k1z:=k1.below hbz k1.lt;have k2z:=k2.below hbz k2.lt;have a0:=Blk.n0 k1z;have b0:=Blk.n0 k2z;have b1:=Blk.n1 k2z;by_cases hlz:z<n
       ·have hz2:(z:Int)<(n:Int):=(by omega);have hgz:=hide (hg2.out.keep (Agree.below hbz hKW.out) (fun b hb=>hb));have hc2:=hide (fZ n A2 c2 F y z K wr hgz.out (fun b hb=>Nat.lt_of_lt_of_le (hKW.out b hb) hbz.size) hlq hlz);have hst:=hide (hyes.out z trivial);have hsk:=hide (DI (n:=n) (E:=E) (F:=F) (x:=x) (y:=y) (z:=z));generalize F y z=e2 at*;go_wp2_with fail;clear b0 b1 k2z a0 k1z;refine hc2.out.mono ?_;rintro e w3 ⟨rfl,hb3⟩;have hb4:=hbz.trans (hb3.mono hbz.size);have hP4:=hPz.below hb3 (Nat.le_refl _);clear hc2 hbz hPz hgz hgq hbq hb3 hb2;cases e2 with
        |false=>
         have hE2:=hide (hsk.out rfl);clear hst hsk;go_wp2;go_roundw;case rel=>exact⟨z+1,by omega,by go_num,by rw[hE2.out];exact hP4,hb4⟩
         case measure=>simp[intOf];omega
        |true=>
         have hE2:=hide (hst.out rfl);obtain⟨g,rfl,hX⟩:=hP4.at_ hlt;have hP5:=hide (hX.add (y:=z) hlt hlz).drew;have hb5:=hide (aX (hb4.setCell (p:=⟨g,x,none⟩) hX.B (.int .u64 (eU (aV ((eP n E F x y z) x) n) (z:Int):Nat))));obtain⟨-,c0,c1,d0,df,gp,gl,-,h64⟩:=hX;clear hst hsk hP4 hb4;generalize aV ((eP n E F x y z) x) n=s at*;go_upto_region 15 with fail;refine wp_region_still_tail 11 (by kernel_rfl) (by kernel_rfl) ?_;simp only[List.take_succ_cons,List.take_zero,List.drop_succ_cons,List.drop_zero];repeat still_step
         still_call ((d9 _ h64 _ _).mono fun _ _ h=>⟨h.1,h.2.symm⟩)
         repeat still_step
         refine wpStill_nil ?_;change wpList _ _ _ _ _ (w3).drew;go_wp2;go_roundw;case rel=>exact⟨z+1,by omega,by go_num,by rw[hE2.out];exact hP5.out,hb5.out⟩
         case measure=>simp[intOf];omega
       ·obtain rfl:z=n:=(by omega);have hP4:=hide (hPz.congr (F:=eP z E F x (y+1) 0) fun a b _ hb=>FR hb);clear hPz;go_wp2;go_roundw;case rel=>exact⟨y+1,by omega,by go_num,hP4.out,hbz⟩
        case measure=>simp[intOf];omega
    ·obtain rfl:y=n:=(by omega);have hP4:=hide (hPq.congr (F:=eP y E F (x+1) 0 0) fun a b _ hb=>DJ);clear hPq hPr;go_wp2;go_roundw;case rel=>exact⟨x+1,by omega,by go_num,hP4.out,hbq⟩
     case measure=>simp[intOf];omega
  ·obtain rfl:x=n:=(by omega);have hP4:=hPr.congr (F:=j6 x E F) fun a b ha _=>FT ha;have k3r:=k3.below hbr k3.lt;have f0:=k3r.frozen 0;have f1:=k3r.frozen 1;have e0:=k3r.cell 0;have e1:=k3r.cell 1;have hs0:=s0.out;have hs3:w.heap.size+1+1<W0.heap.size:=k3.lt;have hR:=hide (((hP4.rg.far (p:=⟨w.heap.size+1+1,0,none⟩) hs3 (.int .i64 x)).far (p:=⟨w.heap.size+1+1,1,none⟩) hs3 (.slice Av x cv)).base (B':=w.heap.size) (by omega));have hz:=hide (((hb.trans (hbr.mono hb.size)).setCell (p:=⟨w.heap.size+1+1,0,none⟩) (by simp;try omega) (.int .i64 x)).setCell (p:=⟨w.heap.size+1+1,1,none⟩) (by simp;try omega) (.slice Av x cv));have hq:=(k3r.aD 0 (.int .i64 x)).aD 1 (.slice Av x cv);simp only[sA,sZ,sS]at hq;have y0:=hq.cell 0;have y1:=hq.cell 1;simp only[gA,gZ,gS]at y0 y1 e0 e1;clear hq hs0 hs3;go_wp2_with fail;exact bodyPost_ret (v:= .agg #[.int .i64 x,.slice Av x cv]) (by simp[results,Tryz.results139,go_sem,y0,y1]) rfl ⟨_,rfl,hR.out,hz.out⟩
set_option maxHeartbeats 4000000
def GVR(base n:Nat)(E:aj)(v:Value)(W:World):Prop:=∃A c,v= .agg #[.int .i64 n,.slice A n c]∧RG W base n E (.slice A n c)
def nI(b:Nat)(W W':World):Prop:=
 (W'.os=W.os∧W'.tape=W.tape∧W'.output=W.output∧W.heap.size≤W'.heap.size)∧∀k,k<W.heap.size→W'.heap[k]?=W.heap[k]?∨(b≤k∧∃cs cs',W.heap[k]?=some (.cells cs 140 (0,0))∧W'.heap[k]?=some (.cells cs' 140 (0,0))∧cs'.size=2)
theorem nI.of_below{b:Nat}{W W':World}(h:Below W.heap.size W W'):nI b W W':=⟨⟨h.os,h.tape,h.output,h.size⟩,fun k hk=> .inl (h.block k hk)⟩
theorem nI.blk{b g:Nat}{t:TypeId}{cs:Array Value}{W W':World}(h:nI b W W')(hk:Blk W g t cs)(ht:t≠140):Blk W' g t cs:=by
 rcases h.2 g hk.lt with e|⟨_,cs1,_,e,_⟩
 ·exact e.trans hk
 ·rw[show W.heap[g]?=_ from hk]at e;injection e with e
  injection e with _ e
  exact absurd e ht
theorem GVR.var{base n b:Nat}{E:aj}{v:Value}{W W':World}(h:GVR base n E v W)(hb:nI b W W'):GVR base n E v W':=by
 obtain⟨A,c,h1,h2⟩:=h;refine⟨A,c,h1,?_⟩;rcases h2 with h2|⟨g,cap,cur,h2,h3,h4,r⟩
 ·exact .inl h2
 ·exact .inr ⟨g,cap,cur,h2,h3,hb.blk h4 (by decide),r⟩
theorem GVR.of{W0 W:World}{base n:Nat}{E:aj}{e:Ending}(hn:n≤64)(hB:base≤W0.heap.size)(h:xB W0 n E e W):∃v,e= .returned v∧GVR base n E v W∧Below W0.heap.size W0 W:=by
 obtain⟨u,rfl,hR,hb⟩:=h;obtain⟨A,c,rfl,-⟩:=hR.gr hn (K:=fun _=>True) (fun _ _ _=>trivial);exact⟨_,rfl,⟨A,c,rfl,hR.base hB⟩,hb⟩
theorem GVR.gr{W:World}{base n:Nat}{E:aj}{v:Value}(hn:n≤64)(h:GVR base n E v W):∃A c,v= .agg #[.int .i64 n,.slice A n c]∧GrS W (Old W) n A c E∧RG W base n E (.slice A n c):=by
 obtain⟨A,c,rfl,hR⟩:=h;obtain⟨A',c',e,hg⟩:=hR.gr hn (K:=Old W) (fun g _ h=>h);simp only[Value.slice.injEq,true_and]at e;obtain⟨rfl,rfl⟩:=e;exact⟨A,c,rfl,hg,hR⟩
def yB(b:Nat)(v:Value)(W:World):Prop:=∃g,b≤g∧v= .pointer (some ⟨g,0,none⟩)∧∃x y,Blk W g 140 #[x,y]
theorem yB.var{b b':Nat}{v:Value}{W W':World}(h:yB b v W)(hs:nI b' W W'):yB b v W':=by
 obtain⟨g,h1,h2,x,y,h3⟩:=h;rcases hs.2 g h3.lt with e|⟨_,cs,cs',_,e2,e3⟩
 ·exact⟨g,h1,h2,x,y,e.trans h3⟩
 ·refine⟨g,h1,h2,cs'[0]'(by omega),cs'[1]'(by omega),?_⟩;have:cs'=#[cs'[0]'(by omega),cs'[1]'(by omega)]:=by
   refine Array.ext (by simp[e3]) fun i h1 h2=> ?_;simp at h2
   match i,h2 with
   |0,_=>rfl
   |1,_=>rfl
  unfold Blk;rw[←this];exact e2
def iW(H:List Txn)(A:Option Addr)(c base:Nat):Nat→(Nat→Value)→World→Prop
 |0,vs,_=>vs 0= .agg #[.slice A H.length c]
 |1,vs,W=>GVR base H.length (soE H) (vs 1) W
 |2,vs,_=>vs 2= .agg #[.slice A H.length c]
 |3,vs,W=>GVR base H.length (wrE H) (vs 3) W
 |4,vs,W=>GVR base H.length (dX H) (vs 4) W
 |5,vs,W=>yB base (vs 5) W
 |6,vs,W=>∃g x y,vs 5= .pointer (some ⟨g,0,none⟩)∧base≤g∧vs 4= .agg #[x,y]∧Blk W g 140 #[x,y]
 |_,_,_=>True
def jX:Nat→List Nat
 |1=>[0]
 |3=>[2]
 |4=>[1,3]
 |6=>[5,4]
 |_=>[]
theorem Ms{H:List Txn}{A:Option Addr}{c base:Nat}:∀j (vs vs':Nat→Value) w,(∀k,k=j∨k∈jX j→vs k=vs' k)→iW H A c base j vs w→iW H A c base j vs' w:=by
 intro j vs vs' w hk h
 match j,h with
 |0,h|1,h|2,h|3,h|4,h|5,h=>
  simp only[iW]at h⊢;rw[←hk _ (.inl rfl)];exact h
 |6,h=>
  simp only[iW]at h⊢;rw[←hk 5 (.inr (by simp[jX])),←hk 4 (.inr (by simp[jX]))];exact h
 |n+7,_=>trivial
def iM(s base:Nat)(i:Nat)(W W':World):Prop:=if i=s then nI base W W' else Below W.heap.size W W'
theorem iM.var{s base i:Nat}{W W':World}(h:iM s base i W W'):nI base W W':=by
 unfold iM at h;split at h
 ·exact h
 ·exact nI.of_below h
theorem FU{H:List Txn}{A:Option Addr}{c base:Nat}:∀i j (vs:Nat→Value) w w',j≠i→j∉(fun _=>[]:Nat→List Nat) i→iW H A c base j vs w→iM 6 base i w w'→iW H A c base j vs w':=by
 intro i j vs w w' hne _ h hs;have hv:=hs.var
 match j,h with
 |0,h|2,h=>exact h
 |1,h|3,h|4,h=>
  simp only[iW]at h⊢;exact h.var hv
 |5,h=>
  simp only[iW]at h⊢;exact yB.var h hv
 |6,h=>
  unfold iM at hs;rw[if_neg (fun e=>hne e.symm)]at hs;simp only[iW]at h⊢;obtain⟨g,x,y,h1,h2,h3,h4⟩:=h;exact⟨g,x,y,h1,h2,h3,h4.below hs h4.lt⟩
 |n+7,_=>trivial
theorem FV:∀i,7≤i→jX i=[]:=by
 intro i hi
 match i,hi with
 |n+7,_=>rfl
set_option maxRecDepth 100000 in
theorem DL(A:Option Addr)(c:Nat)(H:List Txn)(w:World)(h:aF w (Old w) (.slice A H.length c) H)(hr:aC H=true)(hn:aB H):
 Calls Tryz.prog 136 #[.agg #[.slice A H.length c]] w (xB w H.length (dX H)):=by
 obtain⟨W0,hW0⟩:∃W0,(w.alloc (.cells #[.slice A H.length c] 24)).alloc (.cells #[.int .i64 0,.slice none 0 0] 140)=W0:=⟨_,rfl⟩;have hB:=aG hW0;have k0:=Blk.fC hW0;have k1:=Blk.dQ hW0;have h32:H.length≤64:=(by have:=((aA H).1 hr).1;omega);go_enter Tryz.func136,Tryz.ntmps136;go_wp2_with fail;clear hW0;refine gT (iW H A c (w.heap.size+2)) (fun W=>Below w.heap.size w W∧Blk W w.heap.size 24 #[.slice A H.length c]∧Blk W (w.heap.size+1) 140 #[.int .i64 0,.slice none 0 0]) (iM 6 (w.heap.size+2)) jX (by kernel_rfl) (by kernel_rfl) (by kernel_rfl) FV (fun _=>[]) (by kernel_rfl) Ms FU ⟨hB.drew,k0,k1⟩ ?hstep ?hend;case hstep=>
  intro i o ho vs W hS hd;obtain⟨hb,m0,m1⟩:=hS;have hT:=h.below hb;have hsz:w.heap.size+2≤W.heap.size:=m1.lt
  match i,ho with
  |0,ho|2,ho=>
   simp only[gZ,gS,Option.some.injEq]at ho;subst ho;simp only[acV,gA,gZ,gS,Act.put,sA,sZ,sS];have c0:=Blk.n0 m0;go_wp2;exact⟨rfl,.agg #[.slice A H.length c],rfl,rfl,⟨hb,m0,m1⟩,Below.refl _ _⟩
  |1,ho=>
   have d0:=hd 0 (by simp[jX]);simp only[iW]at d0;simp only[gZ,gS,Option.some.injEq]at ho;subst ho;simp only[acV,gA,gZ,gS,Act.put,sA,sZ,sS];rw[d0];go_wp2_with fail;refine(Ju A c H _ hT hr).mono ?_;intro e W2 hO;obtain⟨v,rfl,hG,hb2⟩:=GVR.of h32 hsz hO;go_wp2;exact⟨rfl,_,rfl,hG,⟨hb.trans (hb2.mono hb.size),m0.below hb2 m0.lt,m1.below hb2 m1.lt⟩,hb2⟩
  |3,ho=>
   have d0:=hd 2 (by simp[jX]);simp only[iW]at d0;simp only[gZ,gS,Option.some.injEq]at ho;subst ho;simp only[acV,gA,gZ,gS,Act.put,sA,sZ,sS];rw[d0];go_wp2_with fail;refine(Jz A c H _ hT hr hn).mono ?_;intro e W2 hO;obtain⟨v,rfl,hG,hb2⟩:=GVR.of h32 hsz hO;go_wp2;exact⟨rfl,_,rfl,hG,⟨hb.trans (hb2.mono hb.size),m0.below hb2 m0.lt,m1.below hb2 m1.lt⟩,hb2⟩
  |4,ho=>
   have g1:=hd 1 (by simp[jX]);have g3:=hd 3 (by simp[jX]);simp only[iW]at g1 g3;obtain⟨A1,c1,d1,q1,-⟩:=g1.gr h32;obtain⟨A3,c3,d3,q3,-⟩:=g3.gr h32;simp only[gZ,gS,Option.some.injEq]at ho;subst ho;simp only[acV,gA,gZ,gS,Act.put,sA,sZ,sS];rw[d1,d3];go_wp2_with fail;refine(jA H.length _ _ (soE H) _ _ (wrE H) (Old W) _ q1 q3 (fun b hb=>hb)).mono ?_;intro e W2 hO;obtain⟨v,rfl,hG,hb2⟩:=GVR.of h32 hsz hO;go_wp2;exact⟨rfl,_,rfl,hG,⟨hb.trans (hb2.mono hb.size),m0.below hb2 m0.lt,m1.below hb2 m1.lt⟩,hb2⟩
  |5,ho=>
   simp only[gZ,gS,Option.some.injEq]at ho;subst ho;simp only[acV,gA,gZ,gS,Act.put,sA,sZ,sS];go_wp2;exact⟨rfl,_,rfl,⟨W.heap.size,by omega,rfl,_,_,Blk.new _ _ _⟩,⟨hb.alloc hb.size _,m0.alloc _,m1.alloc _⟩,(Below.refl _ _).alloc (Nat.le_refl _) _⟩
  |6,ho=>
   obtain⟨g,hg,d8,x,y,q8⟩:=hd 5 (by simp[jX]);obtain⟨A6,c6,d6,q6⟩:=hd 4 (by simp[jX]);simp only[gZ,gS,Option.some.injEq]at ho;subst ho;simp only[acV,gA,gZ,gS,Act.put,sA,sZ,sS];rw[d8,d6];have c0:=Blk.n0 q8;have c1:=Blk.n1 q8;have f0:=q8.frozen 0;have f1:=q8.frozen 1;go_wp2;have hq:=(q8.aD 0 (.int .i64 H.length)).aD 1 (.slice A6 H.length c6);have n1:w.heap.size≠g:=(by omega);have n2:w.heap.size+1≠g:=(by omega);refine⟨rfl,undef,rfl,⟨g,_,_,(show dh vs 6 undef 5=_ from d8),hg,(show dh vs 6 undef 4=_ from d6),by simpa using hq⟩,⟨(hb.setCell (p:=⟨g,0,none⟩) (by simp;omega) _).setCell (p:=⟨g,1,none⟩) (by simp;omega) _,(m0.far n1 _).far n1 _,(m1.far n2 _).far n2 _⟩,?_⟩;unfold iM;rw[if_pos rfl];refine⟨⟨rfl,rfl,rfl,by simp⟩,fun k hk=> ?_⟩;by_cases e:k=g
   ·subst e;exact .inr ⟨hg,_,_,q8,hq,by simp⟩
   ·exact .inl ((Below.heap_setCell _ ⟨g,1,none⟩ _ k e).trans (Below.heap_setCell _ ⟨g,0,none⟩ _ k e))
  |n+7,ho=>simp at ho
 case hend=>
  rintro vs W ⟨hb,m0,m1⟩ hd;obtain⟨g,x,y,d8,hg,d6,q9⟩:=hd 6 (by simp) (by simp);obtain⟨A6,c6,d6',q6⟩:=hd 4 (by simp) (by simp);rw[d6]at d6';injection d6' with d6'
  simp only[Array.mk.injEq,List.cons.injEq,and_true]at d6';obtain⟨rfl,rfl⟩:=d6';clear hd;simp only[acV,gA,gZ,gS,Act.put,sA,sZ,sS,List.length_cons,List.length_nil,Nat.reduceAdd];rw[d8,d6];have c0:=Blk.n0 q9;have c1:=Blk.n1 q9;have j0:=Blk.n0 m1;have j1:=Blk.n1 m1;have jf:=m1.frozen 0;have jf1:=m1.frozen 1;go_wp2;have kF0:=((q6.far (p:=⟨w.heap.size+1,0,none⟩) (by simp) (.int .i64 H.length)).far (p:=⟨w.heap.size+1,1,none⟩) (by simp) (.slice A6 H.length c6)).base (B':=w.heap.size) (by omega);have hF:=((hb.setCell (p:=⟨w.heap.size+1,0,none⟩) (by simp) (.int .i64 H.length)).setCell (p:=⟨w.heap.size+1,1,none⟩) (by simp) (.slice A6 H.length c6));exact bodyPost_ret (v:= .agg #[.int .i64 H.length,.slice A6 H.length c6]) (by simp[results,Tryz.results136,go_sem,j0,j1]) rfl ⟨_,rfl,kF0,hF⟩
set_option maxHeartbeats 8000000
set_option maxRecDepth 100000 in
theorem JH(A:Option Addr)(c:Nat)(H:List Txn)(Al:Option Addr)(cl:Nat)(l:List Cho)(w:World)(h:aF w (Old w) (.slice A H.length c) H)(hl:bq w (Old w) (.slice Al l.length cl) l)(hr:cB H l=true):
 Calls Tryz.prog 137 #[.agg #[.slice A H.length c],.slice Al l.length cl] w (xB w H.length (wwE l)):=by
 have dG:H.length≤64:=(by have:=((aA H).1 (gD hr)).1;omega);have hll:=jT hr;have hcn:=hide (fun x hx=>mZ hr (x:=x) hx);clear hr;go_enter Tryz.func137,Tryz.ntmps137;go_upto_region 1 with fail;obtain⟨W0,hW0⟩:∃W0,(w.alloc (.cells #[.slice A H.length c] 24)).alloc (.cells #[.int .i64 0,.slice none 0 0] 140)=W0:=⟨_,rfl⟩;rw[hW0];have hb:=aG hW0;have k1:=Blk.fC hW0;have k3:=Blk.dQ hW0;have s0:=size_two hW0;have hT:=hide (h.below hb);clear hW0 h;have c0:=Blk.n0 k1;replace s0:=hide s0;go_wp2_with fail;refine(iR H.length dG W0).mono ?_;rintro e w1 ⟨v,rfl,hR,hb1⟩;clear c0;obtain⟨Av,cv,rfl,-⟩:=hR.gr dG (K:=fun _=>True) (fun _ _ _=>trivial);go_upto_region 2 with fail;obtain⟨W5,hW5⟩:∃W5,w1.alloc (.cells #[.int .i64 (H.length:Int),.slice Av H.length cv] 140)=W5:=⟨_,rfl⟩;rw[hW5];have hP:=RGP.start hR dG hW5;have hs1:=hb1.size;have hb5:=ah hb1 hW5 hs1;clear hW5 hR hb1;go_wp2_with fail;have hl0:=hide (hl.below hb);clear hl;go_loopw [6] (fun s6 wr=>∃k:Nat,k≤l.length∧s6= .int .i64 k∧RGP wr W0.heap.size w1.heap.size H.length (wwE (l.take k)) Av cv∧Below W0.heap.size W0 wr) (fun s6 _=>l.length-(intOf s6).toNat);case atStart=>exact⟨0,Nat.zero_le _,by go_num,by rw[List.take_zero,Gu];exact hP,hb5⟩
 case round=>
  obtain⟨k,hk,rfl,hP4,hb4⟩:=hrel;have hk1:(0:Int)≤(k:Int):=Int.natCast_nonneg _;by_cases hlt:k<l.length
  ·have hk2:(k:Int)<(l.length:Int):=(by omega);obtain⟨b,off,rfl,_,-,y1,y2⟩:=(hl0.out.below hb4).at_ hlt;obtain⟨xa,xb,ha,hb',ha2,hb2⟩:=hcn.out _ (List.getElem_mem hlt);have hE2:=hide (CF hlt ha hb');rw[ha]at y1;rw[hb']at y2;have ha3:(xa:Int)<(H.length:Int):=(by omega);have ha4:(0:Int)≤(xa:Int):=Int.natCast_nonneg _;clear ha hb';go_wp2_with fail;obtain⟨g,rfl,hX⟩:=hP4.at_ ha2;have hP5:=hide (hX.add (y:=xb) ha2 hb2).drew;have hb5:=hide (aX (hb4.setCell (p:=⟨g,xa,none⟩) hX.B (.int .u64 (eU (aV ((wwE (l.take k)) xa) H.length) (xb:Int):Nat))));obtain⟨-,c0,c1,d0,df,gp,gl,-,h64⟩:=hX;clear hP hP4 hb4;generalize aV ((wwE (l.take k)) xa) H.length=s at*;go_upto_region 5 with fail;refine wp_region_still_tail 23 (by kernel_rfl) (by kernel_rfl) ?_;simp only[List.take_succ_cons,List.take_zero,List.drop_succ_cons,List.drop_zero];repeat still_step
   still_call ((d9 _ h64 _ _).mono fun _ _ h=>⟨h.1,h.2.symm⟩)
   repeat still_step
   refine wpStill_nil ?_;change wpList _ _ _ _ _ (wr).drew;go_wp2;go_roundw;case rel=>exact⟨k+1,by omega,by go_num,by rw[←hE2.out];exact hP5.out,hb5.out⟩
   case measure=>simp[intOf];omega
  ·obtain rfl:k=l.length:=(by omega);rw[List.take_length]at hP4;have hbr:=hb4;have c0:=hP4.c0;have c1:=hP4.c1;have k3r:=k3.below hbr k3.lt;have f0:=k3r.frozen 0;have f1:=k3r.frozen 1;have e0:=k3r.cell 0;have e1:=k3r.cell 1;have hs0:=s0.out;have hs3:w.heap.size+1<W0.heap.size:=k3.lt;have hR:=hide (((hP4.rg.far (p:=⟨w.heap.size+1,0,none⟩) hs3 (.int .i64 H.length)).far (p:=⟨w.heap.size+1,1,none⟩) hs3 (.slice Av H.length cv)).base (B':=w.heap.size) (by omega));have hz:=hide (((hb.trans (hbr.mono hb.size)).setCell (p:=⟨w.heap.size+1,0,none⟩) (by simp;try omega) (.int .i64 H.length)).setCell (p:=⟨w.heap.size+1,1,none⟩) (by simp;try omega) (.slice Av H.length cv));have hq:=(k3r.aD 0 (.int .i64 H.length)).aD 1 (.slice Av H.length cv);simp only[sA,sZ,sS]at hq;have y0:=hq.cell 0;have y1:=hq.cell 1;simp only[gA,gZ,gS]at y0 y1 e0 e1;clear hq hs0 hs3;go_wp2_with fail;exact bodyPost_ret (v:= .agg #[.int .i64 H.length,.slice Av H.length cv]) (by simp[results,Tryz.results137,go_sem,y0,y1]) rfl ⟨_,rfl,hR.out,hz.out⟩
set_option maxHeartbeats 4000000
theorem Mt{H:List Txn}{n:Nat}(h:n<H.length)(hb:(txF H n).all id=false):aC H=false:=by
 rw[←Bool.not_eq_true,aA];rintro⟨_,g⟩;rw[(Ai h).2 (g n h)]at hb;cases hb
theorem FW{H:List Txn}(h:32<H.length):aC H=false:=by
 rw[←Bool.not_eq_true,aA];rintro⟨g,_⟩;omega
theorem JI{H:List Txn}(h:¬32<H.length)(hall:∀n,n<H.length→(txF H n).all id=true):aC H=true:=
 (aA H).2 ⟨by omega,fun j hj=>(Ai hj).1 (hall j hj)⟩
set_option maxRecDepth 100000 in
theorem vg(A:Option Addr)(c:Nat)(H:List Txn)(w:World)(h:aF w (Old w) (.slice A H.length c) H)(hs:Mj H):
 Calls Tryz.prog 68 #[.agg #[.slice A H.length c]] w fun e w'=>e= .returned (.bool (aC H))∧Below w.heap.size w w':=by
 have hH:=hs.1;have hA:Below w.heap.size w (w.alloc (.cells #[.slice A H.length c] 24)):=(Below.refl _ _).alloc (Nat.le_refl _) _;have kH:Blk (w.alloc (.cells #[.slice A H.length c] 24)) w.heap.size 24 #[.slice A H.length c]:=Blk.new _ _ _;have y0:=Blk.n0 kH;by_cases h32:32<H.length
 ·have hb:decide ((H.length:Int)>32)=true:=(by simp;omega);have hr:=hide (FW h32);clear h32;go_enter Tryz.func68,Tryz.ntmps68;go_wp2;go_ret;exact⟨by rw[hr.out];rfl,hA⟩
 ·have hb:decide ((H.length:Int)>32)=false:=(by simp;omega);have hno:=hide (fun n hn g=>Mt (H:=H) (n:=n) hn g);have hyes:=hide (JI h32);clear h32;go_enter Tryz.func68,Tryz.ntmps68;go_wp2_with fail;clear y0;generalize w.alloc (.cells #[.slice A H.length c] 24)=W0 at*;go_loopw [3,4] (fun s3 _ wr=>∃n:Nat,n≤H.length∧s3= .int .i64 n∧Hid (∀j,j<n→(txF H j).all id=true)∧Below w.heap.size w wr∧Blk wr w.heap.size 24 #[.slice A H.length c]) (fun s3 _ _=>H.length-(intOf s3).toNat);case atStart=>exact⟨0,Nat.zero_le _,by go_num,fun j h=>absurd h (by omega),hA,kH⟩
  case round=>
   clear hA kH;obtain⟨n,hn,rfl,hall,hB,kH⟩:=hrel;have hn1:(0:Int)≤(n:Int):=Int.natCast_nonneg _;have y0:=Blk.n0 kH;by_cases hlt:n<H.length
   ·have hn2:(n:Int)<(H.length:Int):=(by omega);have hc:=JA A c H n wr (aF.keep h (Agree.below hB fun b h=>h) (fun b h=>Nat.lt_of_lt_of_le h hB.size)) hlt hs;have qh:=hide (hno.out n hlt);have hst:Hid ((txF H n).all id=true→∀j,j<n+1→(txF H j).all id=true):=fun g j hj=>by
     by_cases e:j=n
     ·subst e;exact g
     ·exact hall.out j (by omega)
    generalize(txF H n).all id=tb at*;go_wp2_with fail;refine hc.mono ?_;clear hc;rintro e w1 ⟨rfl,hb1⟩;have kH1:=kH.below hb1 kH.lt;have hB1:=hB.trans (hb1.mono hB.size);cases tb with
    |false=>
     have hr:=hide (qh.out rfl);go_wp2;go_ret;exact⟨by rw[hr.out];rfl,hB1⟩
    |true=>
     have rZ:=hide (hst.out rfl);go_wp2;go_roundw;case rel=>exact⟨n+1,by omega,by go_num,rZ,hB1,kH1⟩
     case measure=>simp[intOf];omega
   ·have hr:=hide (hyes.out fun j hj=>hall.out j (by omega));go_wp2;go_ret;exact⟨by rw[hr.out];rfl,hB⟩
theorem gG(A:Option Addr)(c:Nat)(H:List Txn)(w:World)(h:aF w (Old w) (.slice A H.length c) H)(hs:aB H):
 Calls Tryz.prog 68 #[.agg #[.slice A H.length c]] w fun e w'=>e= .returned (.bool (aC H))∧Below w.heap.size w w':=vg A c H w h hs.len
set_option maxHeartbeats 8000000
def jq(R:List It)(key:Int):Int×Bool:=match R.find? (fun r=>r.a==key)with
 |some r=>(r.b,true)
 |none=>(0,false)
theorem JJ{R:List It}{key:Int}{i:Nat}(hi:i<R.length)(h0:(R.take i).any (fun r=>r.a==key)=false)(h:(R[i].a==key)=true):jq R key=(R[i].b,true):=by
 unfold jq;have:R.find? (fun r=>r.a==key)=some R[i]:=by
  rw[List.find?_eq_some_iff_getElem];refine⟨h,i,hi,rfl,fun j hj=> ?_⟩;rw[List.any_eq_false]at h0;exact Bool.not_eq_true' _▸Bool.eq_false_iff.2 (h0 R[j] (List.mem_take_iff_getElem.2 ⟨j,by omega,rfl⟩))
 rw[this]
theorem FX{R:List It}{key:Int}(h:R.any (fun r=>r.a==key)=false):jq R key=(0,false):=by
 unfold jq;have:R.find? (fun r=>r.a==key)=none:=by
  rw[List.find?_eq_none];intro r hr;exact(List.any_eq_false.1 h) r hr
 rw[this]
set_option maxRecDepth 100000 in
theorem vv(A:Option Addr)(c:Nat)(H:List Txn)(t:Nat)(key:Int)(w:World)(h:aF w (Old w) (.slice A H.length c) H)(hr:aC H=true)(hn:aB H)(ht:t<H.length):
 Calls Tryz.prog 231 #[.agg #[.slice A H.length c],.int .i64 (t:Int),.int .i64 key] w fun e w'=>e= .returned (.tuple #[.int .i64 (jq H[t].reads key).1,.bool (jq H[t].reads key).2])∧Below w.heap.size w w':=by
 obtain⟨W0,hW0⟩:∃W0,w.alloc (.cells #[.slice A H.length c] 24)=W0:=⟨_,rfl⟩;have hb:=ah (Below.refl w.heap.size w) hW0 (Nat.le_refl _);have k1:=Blk.newEq hW0;have h0:=h.below hb;have c0:=Blk.n0 k1;have hg1:decide ((t:Int)<0)=false:=(by simp);have hg2:decide ((t:Int)≥(H.length:Int))=false:=(by simp;omega);have ht1:(0:Int)≤(t:Int):=Int.natCast_nonneg _;have ht2:(t:Int)<(H.length:Int):=(by omega);have hR9:H[t].reads.length≤1000000:=(hn.2 _ (List.getElem_mem ht)).2;have hrc:=hide (gG A c H W0 h0 hn);rw[hr]at hrc;clear h;have hhit:=hide (fun i=>JJ (R:=H[t].reads) (key:=key) (i:=i));have lG:=hide (FX (R:=H[t].reads) (key:=key));generalize jq H[t].reads key=F at*;obtain⟨F1,F2⟩:=F;go_enter Tryz.func231,Tryz.ntmps231;go_wp2_with fail;refine hrc.out.mono ?_;rintro e w1 ⟨rfl,hb1⟩;have hb2:=hb.trans (hb1.mono hb.size);replace k1:=k1.below hb1 k1.lt;obtain⟨bt,ot,Aw,cw,Ar,cr,hA,hKb,-,-,d2,-,hrs⟩:=(h0.below hb1).at_ ht;subst hA;clear c0 hrc h0 hb1 hW0 hr;have c0:=Blk.n0 k1;generalize H[t].reads=R at*;replace hb2:=hide hb2;replace hrs:=hide hrs;go_wp2_with fail;clear c0 d2 k1
 go_loop [10] (fun s10=>∃i:Nat,i≤R.length∧s10= .int .i64 i∧Hid ((R.take i).any (fun r=>r.a==key)=false)) (fun s10=>R.length-(intOf s10).toNat)
 case atStart=>exact⟨0,Nat.zero_le _,by go_num,hide (by simp)⟩
 case round=>
  obtain⟨i,hi,rfl,hc⟩:=hrel;have hi1:(0:Int)≤(i:Int):=Int.natCast_nonneg _;by_cases hlt:i<R.length
  ·have hi2:(i:Int)<(R.length:Int):=(by omega);obtain⟨br,orr,rfl,-,z0,z1⟩:=hrs.out.at_ hlt;have hst:Hid ((R.take (i+1)).any (fun r=>r.a==key)=((R.take i).any (fun r=>r.a==key)||R[i].a==key)):=hide (by rw[take_snoc' hlt,List.any_append];simp);have hh:=hide (fun g=>hhit.out i hlt hc.out g);generalize R[i]=r at*;obtain⟨ra,rb⟩:=r;dsimp only at*;cases hy:(ra==key)with
   |true=>
    have hr:=hh.out hy;simp only[Prod.mk.injEq]at hr;obtain⟨rfl,rfl⟩:=hr;clear hh hst lG hhit;replace hc:=hide hc;go_wp2;exact bodyPost_ret (v:= .tuple #[.int .i64 F1,.bool true]) (by simp[results,Tryz.results231,go_sem]) rfl ⟨rfl,hb2.out⟩
   |false=>
    have hr:Hid ((R.take (i+1)).any (fun r=>r.a==key)=false):=hide (by rw[hst.out,hc.out,hy];rfl);clear hh hst;replace hc:=hide hc;go_wp2
    go_round
    case rel=>exact⟨i+1,by omega,by go_num,hr⟩
    case measure=>simp[intOf];omega
  ·obtain rfl:i=R.length:=(by omega);have hr:=lG.out (by have:=hc.out;rwa[List.take_length]at this);simp only[Prod.mk.injEq]at hr;obtain⟨rfl,rfl⟩:=hr;clear lG hhit;replace hc:=hide hc;go_wp2;exact bodyPost_ret (v:= .tuple #[.int .i64 0,.bool false]) (by simp[results,Tryz.results231,go_sem]) rfl ⟨rfl,hb2.out⟩
def lD(H:List Txn)(key src:Int)(n:Nat):List Nat:=(List.range n).filter fun t=>jq (aL H t).reads key==(src,true)
def FY(H:List Txn)(key src:Int):List Nat:=lD H key src H.length
theorem FZ(H:List Txn)(key src:Int)(n:Nat):lD H key src (n+1)=lD H key src n++(if jq (aL H n).reads key==(src,true)then[n]else[]):=by
 unfold lD;rw[List.range_succ,List.filter_append];congr 1;rw[List.filter_cons,List.filter_nil]
theorem zZ{R:List It}{key src:Int}(h:(R.map (·.a)).Pairwise (·<·)):jq R key=(src,true)↔∃r∈R,r.a=key∧r.b=src:=by
 unfold jq;cases hf:R.find? (fun r=>r.a==key)with
 |none=>
  rw[List.find?_eq_none]at hf;constructor
  ·intro e;cases e
  ·rintro⟨r,h1,h2,_⟩;exact absurd (by simpa using h2) (hf r h1)
 |some r=>
  have h1:=List.find?_some hf;have h2:=List.mem_of_find?_eq_some hf;have h1:r.a=key:=(by simpa using h1);dsimp only;rw[Prod.mk.injEq];constructor
  ·rintro⟨e,-⟩;exact⟨r,h2,h1,e⟩
  ·rintro⟨q,h3,h4,h5⟩;refine⟨?_,rfl⟩;obtain⟨i,hi,e1⟩:=List.getElem_of_mem h2;obtain⟨j,hj,e2⟩:=List.getElem_of_mem h3;rw[List.pairwise_iff_getElem]at h;rcases Nat.lt_trichotomy i j with g|g|g
   ·have:=h i j (by simpa using hi) (by simpa using hj) g;simp only[List.getElem_map,e1,e2]at this;omega
   ·subst g;rw[←e1,e2];exact h5
   ·have:=h j i (by simpa using hj) (by simpa using hi) g;simp only[List.getElem_map,e1,e2]at this;omega
theorem DN{H:List Txn}(hr:aC H=true){key src:Int}{t:Nat}:t∈FY H key src↔t<H.length∧∃r∈(aL H t).reads,r.a=key∧r.b=src:=by
 unfold FY lD;rw[List.mem_filter,List.mem_range,beq_iff_eq];constructor
 ·rintro⟨h1,h2⟩;exact⟨h1,(zZ (by rw[aO h1];exact(((aA H).1 hr).2 t h1).J5)).1 h2⟩
 ·rintro⟨h1,h2⟩;exact⟨h1,(zZ (by rw[aO h1];exact(((aA H).1 hr).2 t h1).J5)).2 h2⟩
theorem z8(H:List Txn)(key src:Int)(n:Nat):(lD H key src n).length≤n:=Nat.le_trans (List.length_filter_le _ _) (by simp)
set_option maxRecDepth 100000 in
theorem yC(A:Option Addr)(c:Nat)(H:List Txn)(key src:Int)(w:World)(h:aF w (Old w) (.slice A H.length c) H)(hr:aC H=true)(hn:aB H):
 Calls Tryz.prog 199 #[.agg #[.slice A H.length c],.int .i64 key,.int .i64 src] w (yR w (au (FY H key src))):=by
 obtain⟨ii,hii,hi1,hi2,hi3⟩:=info_parts gW;have h32:H.length≤32:=((aA H).1 hr).1;obtain⟨W0,hW0⟩:∃W0,w.alloc (.cells #[.slice A H.length c] 24)=W0:=⟨_,rfl⟩;have hB:=ah (Below.refl w.heap.size w) hW0 (Nat.le_refl _);have k0:=Blk.newEq hW0;go_enter Tryz.func199,Tryz.ntmps199;go_wp2_with fail;clear hW0;go_loopw [7,8] (fun s7 s8 wr=>∃k:Nat,k≤H.length∧s8= .int .i64 k∧aS wr (w.heap.size+1) s7 (au (lD H key src k))∧Below w.heap.size w wr∧Blk wr w.heap.size 24 #[.slice A H.length c]) (fun _ s8 _=>H.length-(intOf s8).toNat);case atStart=>exact⟨0,Nat.zero_le _,by go_num,aS.nil _ _,hB,k0⟩
 case round=>
  clear k0 hB;obtain⟨k,hk,rfl,hown,hb,k0⟩:=hrel;have hk1:(0:Int)≤(k:Int):=Int.natCast_nonneg _;have c0:=Blk.n0 k0;by_cases hlt:k<H.length
  ·have hk2:(k:Int)<(H.length:Int):=(by omega);have hst:=hide (FZ H key src k);rw[aO hlt]at hst;have hcnt:=z8 H key src k;have hsn:=hide (gX (lD H key src k) k);have hlq:=hide (aN (lD H key src k));have hcall:=hide (vv A c H k key wr (h.below hb) hr hn hlt);generalize jq H[k].reads key=F at*;obtain⟨F1,F2⟩:=F;obtain⟨Av,cv,rfl⟩:=hown.form;replace hown:=hide hown;replace hr:=hide hr;go_wp2_with fail;clear c0;refine hcall.out.mono ?_;rintro e w2 ⟨rfl,hb2⟩;have hb3:=hb.trans (hb2.mono hb.size);have k3:=k0.below hb2 k0.lt;have hown3:=hide (own_below hown.out hb2 (Nat.le_refl _));have hsz2:=hb3.size;clear hcall hown hb2;by_cases hyes:F2=true∧F1=src
   ·obtain⟨rfl,rfl⟩:=hyes;have rZ:Hid (lD H key F1 (k+1)=lD H key F1 k++[k]):=hide (by rw[hst.out];simp);clear hst;generalize lD H key F1 k=L at*;have hkL:(au L).length+1≤maxLen:=(by rw[hlq.out];unfold maxLen;omega);have hkb:((au L).length+1)*8≤140737488355328:=(by rw[hlq.out];omega);generalize au L=D at*;go_wp2_with (at_builtin;go_loud (refine aT (enc:=Go.Inq.encI) rfl (.tmp 31) (.tmp 33) 33 rfl (w.heap.size+1) 3 ii _ 1 8 Tryz.underlying33 hii hi1 hi2 hi3 rfl (by decide) (.slice Av D.length cv) D rfl hown3.out (fun _=>rfl) (k:Int) _ rfl rfl Go.Inq.fH hkL hkb k3.lt w w.heap.size (by omega) hb3 ?_);intro v1 w6 hown1 hg1 hb1 ji);have k6:=(k3.alloc (.cells #[.int .i64 (k:Int)] 3)).grown hg1 (fun e=>by have:=(hown3.out.lt _ e.symm).1;omega);go_roundw;case rel=>exact⟨k+1,by omega,by go_num,by rw[rZ.out,hsn.out];exact hown1,hb1,k6⟩
    case measure=>simp[intOf];omega
   ·have rZ:Hid (lD H key src (k+1)=lD H key src k):=hide (by rw[hst.out,if_neg (by simp only[beq_iff_eq,Prod.mk.injEq];exact fun g=>hyes ⟨g.2,g.1⟩)];simp);clear hst;cases F2 with
    |false=>
     go_wp2;go_roundw;case rel=>exact⟨k+1,by omega,by go_num,by rw[rZ.out];exact hown3.out,hb3,k3⟩
     case measure=>simp[intOf];omega
    |true=>
     have hne:(F1==src)=false:=(by simpa using hyes);clear hyes;go_wp2;go_roundw;case rel=>exact⟨k+1,by omega,by go_num,by rw[rZ.out];exact hown3.out,hb3,k3⟩
     case measure=>simp[intOf];omega
  ·obtain rfl:k=H.length:=(by omega);go_wp2;go_ret;exact⟨_,rfl,own_base' hown (by omega),hb⟩
end Go.Proofs.YtfhnamomiaekdaaGreatDoor
