/-
  Walks: layer 31's reference: what a path chooses.
-/
import Derived.Test.YtpjechjoijjhpaaGreatDoorZ05
import Derived.Test.YtpjechjoijjhpaaGreatDoorZ09
import Derived.Test.YtpjechjoijjhpaaGreatDoorZ02
import Derived.Test.YtpjechjoijjhpaaGreatDoorZ31
import Derived.Test.YtpjechjoijjhpaaGreatDoorZ03
import Derived.Test.YtpjechjoijjhpaaGreatDoorZ14
import Derived.Test.YtpjechjoijjhpaaGreatDoorZ12
import Derived.Test.YtpjechjoijjhpaaGreatDoorZ30
import Derived.Test.YtpjechjoijjhpaaGreatDoorZ01
set_option linter.unusedVariables false
set_option linter.unusedSimpArgs false
namespace Go.Proofs.YtpjechjoijjhpaaGreatDoor
open Go.RowKit Go.Inq
set_option maxHeartbeats 4000000
attribute [local go_sem↓] Go.wp_at_zero Go.wp_at_succ
theorem Jl{path:List Mk}{k:Nat}(hk:k<path.length):aK (path.take (k+1))=aK (path.take k)++[path[k].chosen]:=by
 rw[List.take_succ_eq_append_getElem hk,yV]
set_option maxRecDepth 100000 in
theorem lI(A:Option Addr)(c:Nat)(path:List Mk)(w:World)(h:MkS w (Old w) (.slice A path.length c) path)(hn:path.length≤1000000):
 Calls Tryz.prog 17 #[.slice A path.length c] w (ED w (aK path)):=by
 obtain⟨ic,hic,hi1,hi2,hi3⟩:=info_parts gY;have hstp:=hide (fun k (hk:k<path.length)=>Jl hk);have h0:=hide h;clear h;go_enter Tryz.func17,Tryz.ntmps17;go_wp2_with fail;go_loopw [3,4] (fun s3 s4 wr=>∃k:Nat,k≤path.length∧s4= .int .i64 k∧bG wr w.heap.size s3 (aK (path.take k))∧Below w.heap.size w wr) (fun _ s4 _=>path.length-(intOf s4).toNat);case atStart=>exact⟨0,Nat.zero_le _,by go_num,World.ownsRow_nil _ _ _ _,Below.refl _ _⟩
 case round=>
  obtain⟨Wo,rfl⟩:∃Wo,Wo=wr:=⟨_,rfl⟩;obtain⟨k,hk,rfl,hO,hb⟩:=hrel;have hk1:(0:Int)≤(k:Int):=Int.natCast_nonneg _;obtain⟨Av,cv,rfl⟩:=bG.form hO;by_cases hlt:k<path.length
  ·have hk2:(k:Int)<(path.length:Int):=(by omega);obtain⟨b,off,Ay,cy,rfl,hbK,d⟩:=MkS.at_ h0.out hlt;have d0:=(hb.cell (p:=⟨b,off+k*5,none⟩) hbK).trans d.d0;have d1:=(hb.cell (p:=⟨b,off+k*5+1,none⟩) hbK).trans d.d1;have d2:=(hb.cell (p:=⟨b,off+k*5+2,none⟩) hbK).trans d.d2;have d3:=(hb.cell (p:=⟨b,off+k*5+3,none⟩) hbK).trans d.d3;have hst:=hide (hstp.out k hlt);have hMl:(aK (path.take k)).length≤1000000:=(by rw[fT,List.length_take];omega);clear d hstp;generalize path[k]=m at*;obtain⟨⟨mk,ma,mb⟩,mr,md⟩:=m;dsimp only at d0 d1 d2 d3;generalize aK (path.take k)=M at*;obtain⟨W1,hW1⟩:∃W1,Wo.alloc (.cells #[.int .i64 mk,.int .i64 ma,.int .i64 mb] 62)=W1:=⟨_,rfl⟩;have hb1:=ah (Below.refl Wo.heap.size Wo) hW1 (Nat.le_refl _);have k1:=Blk.newEq hW1;have d3':W1.cell? _=_:=(hb1.cell (p:=⟨b,off+k*5+3,none⟩) (Nat.lt_of_lt_of_le hbK hb.size)).trans d3;have hbX:=hb.trans (hb1.mono hb.size);have hO1:=own_below hO hb1 (Nat.le_refl _);replace hW1:=hide hW1;replace hO:=hide hO;go_upto_region 6 with fail;rw[hW1.out];clear hW1 d0 d1 d2 d3 hbK;cases mr with
   |false=>
    have hch:Hid ((⟨⟨mk,ma,mb⟩,false,md⟩:Mk).chosen=⟨mk,ma,mb⟩):=hide rfl;rw[hch.out]at hst;have c0:=Blk.n0 k1;have c1:=Blk.n1 k1;have c2:=Blk.n2 k1;clear hch hb1 k1 hb hO;replace hO1:=hide hO1;have hsz:=hbX.size;go_wp2_with (at_builtin;go_loud (refine aN (W:=W1) (enc:=dX) rfl (.tmp 24) (.tmp 26) 52 rfl w.heap.size 62 ic _ 3 24 Tryz.underlying52 hic hi1 hi2 hi3 rfl (by decide) (.slice Av M.length cv) M rfl hO1.out (fun _=>rfl) (⟨mk,ma,mb⟩:Cho) _ rfl rfl bR (by simp[maxLen];omega) (by omega) hsz w w.heap.size (Nat.le_refl _) hbX ?_);intro v9 w9 uV hg9 hb9 WM;rw[←hst.out]at uV;replace uV:=hide uV);go_roundw;case rel=>exact⟨k+1,by omega,by go_num,uV.out,hb9⟩
    case measure=>simp[intOf];omega
   |true=>
    have hch:Hid ((⟨⟨mk,ma,mb⟩,true,md⟩:Mk).chosen=⟨mk,mb,ma⟩):=hide rfl;rw[hch.out]at hst;have c0:=Blk.n0 k1;have c1:=Blk.n1 k1;have c2:=Blk.n2 k1;have hs1:=hb1.size;clear hch hO1 hbX;go_wp2_with fail;refine Calls.mono (iJ mk ma mb W1) ?_;rintro e w2 ⟨rfl,hb2⟩;have k2:=k1.below hb2 k1.lt;have z0:=Blk.n0 k2;have z1:=Blk.n1 k2;have z2:=Blk.n2 k2;have f0:=k2.frozen 0;have f1:=k2.frozen 1;have f2:=k2.frozen 2;obtain⟨W3,hW3⟩:∃W3,((w2.setCell ⟨Wo.heap.size,0,none⟩ (.int .i64 mk)).setCell ⟨Wo.heap.size,1,none⟩ (.int .i64 mb)).setCell ⟨Wo.heap.size,2,none⟩ (.int .i64 ma)=W3:=⟨_,rfl⟩;have k3:Blk W3 Wo.heap.size 62 #[.int .i64 mk,.int .i64 mb,.int .i64 ma]:=by
     rw[←hW3];exact((k2.aH 0 (.int .i64 mk)).aH 1 (.int .i64 mb)).aH 2 (.int .i64 ma)
    have hb3:Below Wo.heap.size Wo W3:=by
     rw[←hW3];exact(((hb1.trans (hb2.mono hs1)).setCell (p:=⟨Wo.heap.size,0,none⟩) (Nat.le_refl _) _).setCell (p:=⟨Wo.heap.size,1,none⟩) (Nat.le_refl _) _).setCell (p:=⟨Wo.heap.size,2,none⟩) (Nat.le_refl _) _
    have hbX:=hb.trans (hb3.mono hb.size);have hO3:=own_below hO.out hb3 (Nat.le_refl _);replace hW3:=hide hW3;clear c0 c1 c2 k1 k2 hb1 hb2 hs1;go_upto_region 8 with fail;rw[hW3.out];clear hW3 z0 z1 z2 f0 f1 f2 hb3 hO hb;have c0:=Blk.n0 k3;have c1:=Blk.n1 k3;have c2:=Blk.n2 k3;clear k3;replace hO3:=hide hO3;have hsz:=hbX.size;go_wp2_with (at_builtin;go_loud (refine aN (W:=W3) (enc:=dX) rfl (.tmp 24) (.tmp 26) 52 rfl w.heap.size 62 ic _ 3 24 Tryz.underlying52 hic hi1 hi2 hi3 rfl (by decide) (.slice Av M.length cv) M rfl hO3.out (fun _=>rfl) (⟨mk,mb,ma⟩:Cho) _ rfl rfl bR (by simp[maxLen];omega) (by omega) hsz w w.heap.size (Nat.le_refl _) hbX ?_);intro v9 w9 uV hg9 hb9 WM;rw[←hst.out]at uV;replace uV:=hide uV);go_roundw;case rel=>exact⟨k+1,by omega,by go_num,uV.out,hb9⟩
    case measure=>simp[intOf];omega
  ·obtain rfl:k=path.length:=(by omega);rw[List.take_length]at hO;have hOd:=hide hO;clear hO hstp h0;go_wp2;go_ret;refine⟨_,?_,hOd.out,hb⟩;show Ending.returned (.slice Av (aK (path.take path.length)).length cv)=_;rw[List.take_length]
set_option maxRecDepth 100000 in
theorem iY(A:Option Addr)(c:Nat)(L:List Fct)(w:World)(h:bM w (Old w) (.slice A L.length c) L)(hn:L.length≤1000000):
 Calls Tryz.prog 27 #[.slice A L.length c] w (ED w (ay L)):=by
 obtain⟨ic,hic,hi1,hi2,hi3⟩:=info_parts gY;have hst:=hide (fun k (hk:k<L.length)=>vR hk);have hall:=hide (show ay (L.take L.length)=ay L by rw[List.take_length]);replace h:=hide h;go_enter Tryz.func27,Tryz.ntmps27;go_wp2_with fail;go_loopw [3,4] (fun s3 s4 wr=>∃k:Nat,k≤L.length∧s4= .int .i64 k∧bG wr w.heap.size s3 (ay (L.take k))∧Below w.heap.size w wr) (fun _ s4 _=>L.length-(intOf s4).toNat);case atStart=>exact⟨0,Nat.zero_le _,by go_num,bG.nil _ _,Below.refl _ _⟩
 case round=>
  obtain⟨Wo,rfl⟩:∃Wo,Wo=wr:=⟨_,rfl⟩;obtain⟨k,hk,rfl,hown,hb⟩:=hrel;have hk1:(0:Int)≤(k:Int):=Int.natCast_nonneg _;by_cases hlt:k<L.length
  ·have hk2:(k:Int)<(L.length:Int):=(by omega);obtain⟨b,off,Ay,cy,rfl,-,d⟩:=(h.out.below hb).at_ hlt;obtain⟨d0,d1,d2,-,-,-,-,-⟩:=d;have hs:=hide (hst.out k hlt);have hl2:(ay (L.take k)).length≤1000000:=(by rw[bN,List.length_take];omega);generalize L[k]=f at*;obtain⟨⟨fk,fa,fb⟩,fd,fi,fj,fy⟩:=f;dsimp only at d0 d1 d2 hs;obtain⟨Av,cv,rfl⟩:=hown.form;generalize ay (L.take k)=M at*;have oL:=hb.size;have hown2:=hide hown;clear hown;go_wp2_with (at_builtin;refine aN (enc:=dX) rfl (.tmp 11) (.tmp 17) 52 rfl w.heap.size 62 ic _ 3 24 Tryz.underlying52 hic hi1 hi2 hi3 rfl (by decide) (.slice Av M.length cv) M rfl hown2.out (fun _=>rfl) (⟨fk,fa,fb⟩:Cho) _ rfl rfl bR (by simp[maxLen];omega) (by omega) oL w w.heap.size (Nat.le_refl _) hb ?_;intro v1 w6 hown1 hg1 hb1 jN);go_wp2;go_roundw;case rel=>exact⟨k+1,by omega,by go_num,by rw[hs.out];exact hown1,hb1⟩
   case measure=>simp[intOf];omega
  ·obtain rfl:k=L.length:=(by omega);rw[hall.out]at hown;go_wp2;go_ret;exact⟨_,rfl,hown,hb⟩
set_option maxHeartbeats 8000000
theorem Jm{H:List Txn}{level:Int}{L:List Fct}{f:Fct}(hk:f.kind=1∨f.kind=3):bQ H level L f=(kI H level&&dh H f.c&&decide (f.cyc=[])&&(if f.kind=1 then axB H f else ou H f)):=by
 unfold bQ oI;rcases hk with e|e
 ·rw[if_pos e,if_pos e,decide_eq_false (show¬f.kind=4 by omega)];rfl
 ·rw[if_neg (show¬f.kind=1 by omega),if_neg (show¬f.kind=2 by omega),if_pos e,if_neg (show¬f.kind=1 by omega),decide_eq_false (show¬f.kind=4 by omega)];rfl
set_option maxHeartbeats 4000000
set_option maxRecDepth 100000 in
theorem xM(A:Option Addr)(c:Nat)(H:List Txn)(x y:Int)(w:World)(h:aC w (Old w) (.slice A H.length c) H)(hn:aA H):
 Calls Tryz.prog 127 #[.agg #[.slice A H.length c],.int .i64 x,.int .i64 y] w fun e w'=>e= .returned (.bool (aL H [] x y))∧Below w.heap.size w w':=by
 obtain⟨W0,hW0⟩:∃W0,w.alloc (.cells #[.slice A H.length c] 24)=W0:=⟨_,rfl⟩;have hB:=ah (Below.refl w.heap.size w) hW0 (Nat.le_refl _);have k0:=Blk.newEq hW0;have hd:=hide (rG A c H none 0 [] x y W0 (h.below hB) hn (SlR.nil _ _ _ _ _ _) (by simp));have c0:=Blk.n0 k0;generalize aL H [] x y=q at*;clear h;go_enter Tryz.func127,Tryz.ntmps127;go_wp2_with fail;clear hW0;refine Calls.mono hd.out ?_;rintro e w1 ⟨rfl,hb1⟩;go_wp2;go_ret;exact⟨rfl,hB.trans (hb1.mono hB.size)⟩
theorem MO{R:List It}(hr:(R.map (·.a)).Pairwise (·<·))(key s:Int):(R.any fun x=>decide (x.a=key)&&decide (x.b=s))=((jQ R key).2&&decide ((jQ R key).1=s)):=by
 unfold jQ
 induction R with
 |nil=>simp
 |cons r R ih=>
  rw[List.map_cons,List.pairwise_cons]at hr;rw[List.any_cons,List.find?_cons];by_cases e:r.a=key
  ·have hb:(r.a==key)=true:=(by simpa using e);rw[hb,decide_eq_true e];dsimp only;have hno:(R.any fun x=>decide (x.a=key)&&decide (x.b=s))=false:=by
    rw[List.any_eq_false];intro x hx;have:=hr.1 x.a (List.mem_map_of_mem hx);have hne:x.a≠key:=(by omega);simp[hne]
   rw[hno];simp
  ·have hb:(r.a==key)=false:=(by simpa using e);rw[hb,decide_eq_false e,Bool.false_and,Bool.false_or];exact ih hr.2
theorem Jo{H:List Txn}(hr:aG H=true){t:Nat}(ht:t<H.length):(H[t].reads.map (·.a)).Pairwise (·<·):=(((aD H).1 hr).2 t ht).Na
set_option maxRecDepth 100000 in
theorem Gh(A:Option Addr)(c:Nat)(H:List Txn)(f:Fct)(Ac:Option Addr)(nc cc:Nat)(w:World)(h:aC w (Old w) (.slice A H.length c) H)(hn:aA H)(hr:aG H=true):
 Calls Tryz.prog 129 #[.agg #[.slice A H.length c],.agg #[.int .i64 f.c.key,.int .i64 f.c.a,.int .i64 f.c.b,.int .i64 f.kind,.int .i64 f.i,.int .i64 f.j,.slice Ac nc cc]] w fun e w'=>e= .returned (.bool (ou H f))∧Below w.heap.size w w':=by
 obtain⟨⟨xk,xa,xb⟩,fk,fi,fj,fy⟩:=f;dsimp only;obtain⟨W0,hW0⟩:∃W0,(w.alloc (.cells #[.slice A H.length c] 24)).alloc (.cells #[.int .i64 xk,.int .i64 xa,.int .i64 xb,.int .i64 fk,.int .i64 fi,.int .i64 fj,.slice Ac nc cc] 73)=W0:=⟨_,rfl⟩;have hB:=aF hW0;have k0:=Blk.fG hW0;have k1:=Blk.eP hW0;have hh:=hide (fun W hb=>h.below (w':=W) hb);obtain⟨q,hq⟩:∃q,ou H ⟨⟨xk,xa,xb⟩,fk,fi,fj,fy⟩=q:=⟨_,rfl⟩;rw[hq];unfold ou at hq;dsimp only at hq;have c0:=Blk.n0 k0;have f0:=Blk.n0 k1;have f1:=Blk.n1 k1;have f2:=Blk.n2 k1;have f4:=Blk.n4 k1;have f5:=Blk.n5 k1;replace hq:=hide hq;replace hn:=hide hn;replace hr:=hide hr;clear h;go_enter Tryz.func129,Tryz.ntmps129;go_upto_region 1 with fail;clear hW0;replace hq:=hq.out;by_cases q1:fi<0
 ·have hrr:(decide (fj=0)&&decide (fi≠xa)&&decide (0≤fi)&&decide (fi<(H.length:Int))&&((aP H fi.toNat).reads.any fun x=>decide (x.a=xk)&&decide (x.b=xb))&&aL H [] xa fi)=false:=by
   rw[decide_eq_false (show¬0≤fi by omega)];simp
  obtain rfl:q=false:=hq.symm.trans hrr;clear hrr hq;go_wp2;go_ret;exact⟨by first|rfl|exact bE (by simp<;>omega),hB⟩
 ·by_cases q2:fi≥(H.length:Int)
  ·have hrr:(decide (fj=0)&&decide (fi≠xa)&&decide (0≤fi)&&decide (fi<(H.length:Int))&&((aP H fi.toNat).reads.any fun x=>decide (x.a=xk)&&decide (x.b=xb))&&aL H [] xa fi)=false:=by
    rw[decide_eq_false (show¬fi<(H.length:Int) by omega)];simp
   obtain rfl:q=false:=hq.symm.trans hrr;clear hrr hq;go_wp2;go_ret;exact⟨by first|rfl|exact bE (by simp<;>omega),hB⟩
  ·by_cases q3:fi=xa
   ·have q3b:(fi==xa)=true:=(by simpa using q3);have hrr:(decide (fj=0)&&decide (fi≠xa)&&decide (0≤fi)&&decide (fi<(H.length:Int))&&((aP H fi.toNat).reads.any fun x=>decide (x.a=xk)&&decide (x.b=xb))&&aL H [] xa fi)=false:=by
     rw[decide_eq_false (show¬fi≠xa by simpa using q3)];simp
    clear q3;obtain rfl:q=false:=hq.symm.trans hrr;clear hrr hq;go_wp2;go_ret;exact⟨by first|rfl|exact bE (by simp<;>omega),hB⟩
   ·have q3b:(fi==xa)=false:=(by simpa using q3);by_cases q4:fj=0
    ·obtain⟨t,rfl⟩:∃t:Nat,fi=t:=⟨fi.toNat,by omega⟩;have ht:t<H.length:=(by omega);have q4b:(fj !=0)=false:=(by simp[q4]);rw[decide_eq_true q4,decide_eq_true q3,decide_eq_true (show(0:Int)≤(t:Int) by omega),decide_eq_true (show(t:Int)<(H.length:Int) by omega)]at hq;simp only[Bool.true_and,Int.toNat_natCast]at hq;rw[aQ ht,MO (Jo hr.out ht)]at hq;have hfr:=hide (xH A c H t xk W0 (hh.out W0 hB) hr.out hn.out ht);replace hq:=hide hq;clear q3 q4;go_wp2_with fail;refine hfr.out.mono ?_;rintro e w1 ⟨rfl,hb1⟩;have hB1:=hB.trans (hb1.mono hB.size);replace k0:=k0.below hb1 k0.lt;replace k1:=k1.below hb1 k1.lt;have c0:=Blk.n0 k0;have f0:=Blk.n0 k1;have f1:=Blk.n1 k1;have f2:=Blk.n2 k1;have f4:=Blk.n4 k1;have hpa:=hide (xM A c H xa t w1 (hh.out w1 hB1) hn.out);obtain⟨p,hp⟩:∃p,aL H [] xa t=p:=⟨_,rfl⟩;rw[hp]at hpa hq;generalize jQ H[t].reads xk=r at*;obtain⟨rb,ri⟩:=r;dsimp only at hq⊢;clear hfr hb1 hB hp;cases ri with
     |false=>
      obtain rfl:q=false:=(by have:=hq.out;simpa using this.symm);clear hq hpa;go_wp2;go_ret;exact⟨rfl,hB1⟩
     |true=>
      by_cases e:rb=xb
      ·have eb:(rb !=xb)=false:=(by simp[e]);have hq2:Hid (p=q):=hide (by have:=hq.out;rw[decide_eq_true e]at this;simpa using this);clear hq e;go_wp2_with fail;refine Calls.mono hpa.out ?_;rintro e w2 ⟨rfl,hb2⟩;go_wp2;go_ret;exact⟨bE hq2.out,hB1.trans (hb2.mono hB1.size)⟩
      ·have eb:(rb !=xb)=true:=(by simp[e]);obtain rfl:q=false:=(by have:=hq.out;rw[decide_eq_false e]at this;simpa using this.symm);clear hq e hpa;go_wp2;go_ret;exact⟨rfl,hB1⟩
    ·have q4b:(fj !=0)=true:=(by simpa using q4);have hrr:(decide (fj=0)&&decide (fi≠xa)&&decide (0≤fi)&&decide (fi<(H.length:Int))&&((aP H fi.toNat).reads.any fun x=>decide (x.a=xk)&&decide (x.b=xb))&&aL H [] xa fi)=false:=by
      rw[decide_eq_false q4];simp
     clear q3 q4;obtain rfl:q=false:=hq.symm.trans hrr;clear hrr hq;go_wp2;go_ret;exact⟨by first|rfl|exact bE (by simp<;>omega),hB⟩
set_option maxRecDepth 100000 in
theorem AA(A:Option Addr)(c:Nat)(H:List Txn)(level:Int)(Al:Option Addr)(nl cl:Nat)(L:List Fct)(f:Fct)(Ac:Option Addr)(cc:Nat)(w:World)(h:aC w (Old w) (.slice A H.length c) H)(hn:aA H)(hk:f.kind=1∨f.kind=3):
 Calls Tryz.prog 84 #[.agg #[.slice A H.length c],.int .i64 level,.slice Al nl cl,.agg #[.int .i64 f.c.key,.int .i64 f.c.a,.int .i64 f.c.b,.int .i64 f.kind,.int .i64 f.i,.int .i64 f.j,.slice Ac f.cyc.length cc]] w fun e w'=>e= .returned (.bool (bQ H level L f))∧Below w.heap.size w w':=by
 have hfm:=Jm (H:=H) (level:=level) (L:=L) hk;have hse:=hide (fun W hT hr=>Gh A c H f Ac f.cyc.length cc W hT hn hr);obtain⟨q,hq⟩:∃q,bQ H level L f=q:=⟨_,rfl⟩;rw[hq];rw[hfm]at hq;clear hfm;have hcy:f.cyc=[]↔f.cyc.length=0:=(by cases f.cyc<;>simp);have hfx:(if f.kind=1 then axB H f else ou H f)=(if f.kind=1 then(decide (f.i=0)&&decide (f.j=0)&&aL H [] f.c.a f.c.b)else ou H f):=rfl;rw[hfx]at hq;clear hfx;obtain⟨sv,hsv⟩:∃sv,ou H f=sv:=⟨_,rfl⟩;rw[hsv]at hq hse;clear hsv;have hone:=hide (fun W hT=>jA A c H f.c W hT hn);obtain⟨o,ho⟩:∃o,dh H f.c=o:=⟨_,rfl⟩;rw[ho]at hq hone;clear ho;obtain⟨⟨xk,xa,xb⟩,fk,fi,fj,fy⟩:=f;dsimp only at hk hq hcy hse hone⊢;rw[show decide (fy=[])=decide (fy.length=0) by rw[Bool.eq_iff_iff,decide_eq_true_eq,decide_eq_true_eq];exact hcy]at hq;generalize fy.length=nc at*;obtain⟨W0,hW0⟩:∃W0,(w.alloc (.cells #[.slice A H.length c] 24)).alloc (.cells #[.int .i64 xk,.int .i64 xa,.int .i64 xb,.int .i64 fk,.int .i64 fi,.int .i64 fj,.slice Ac nc cc] 73)=W0:=⟨_,rfl⟩;have hB:=aF hW0;have k0:=Blk.fG hW0;have k1:=Blk.eP hW0;have hh:=hide (fun W hb=>h.below (w':=W) hb);have hrc:=hide (gP A c H W0 (h.below hB) hn);have c0:=Blk.n0 k0;replace hq:=hide hq;replace hn:=hide hn;clear h hcy;go_enter Tryz.func84,Tryz.ntmps84;go_wp2_with fail;clear hW0;refine Calls.mono hrc.out ?_;rintro e w1 ⟨rfl,hb1⟩;have hB1:=hB.trans (hb1.mono hB.size);replace k0:=k0.below hb1 k0.lt;replace k1:=k1.below hb1 k1.lt;have c0:=Blk.n0 k0;have f0:=Blk.n0 k1;have f1:=Blk.n1 k1;have f2:=Blk.n2 k1;have f3:=Blk.n3 k1;have f4:=Blk.n4 k1;have f5:=Blk.n5 k1;have f6:=Blk.n6 k1;clear hrc hb1 hB;unfold kI at hq;cases hr:aG H with
 |false=>
  obtain rfl:q=false:=(by have:=hq.out;rw[hr]at this;simpa using this.symm);clear hq hr;go_wp2;go_ret;exact⟨rfl,hB1⟩
 |true=>
  by_cases hlv:level=0∨level=1
  ·have hlb:(level !=0)=false∨((level !=0)=true∧(level !=1)=false):=by
    rcases hlv with rfl|rfl
    ·left;rfl
    ·right;exact⟨rfl,rfl⟩
   have hq2:Hid ((o&&decide (nc=0)&&if fk=1 then(decide (fi=0)&&decide (fj=0)&&aL H [] xa xb)else sv)=q):=hide (by
    have:=hq.out;rw[hr]at this;rcases hlv with rfl|rfl<;>simpa using this)
   clear hlv hq;replace hr:=hide hr;have XP:(fk !=4)=true:=(by rcases hk with rfl|rfl<;>rfl);have hoc:=hide (hone.out w1 (hh.out w1 hB1));clear hone;rcases hlb with hlb|⟨hlb,UR⟩;all_goals
    go_wp2_with fail;refine Calls.mono hoc.out ?_;rintro e w2 ⟨rfl,hb2⟩;have hB2:=hB1.trans (hb2.mono hB1.size);replace k0:=k0.below hb2 k0.lt;replace k1:=k1.below hb2 k1.lt;have c0:=Blk.n0 k0;have f0:=Blk.n0 k1;have f1:=Blk.n1 k1;have f2:=Blk.n2 k1;have f3:=Blk.n3 k1;have f4:=Blk.n4 k1;have f5:=Blk.n5 k1;have f6:=Blk.n6 k1;clear hb2 hB1 hoc;cases o with
    |false=>
     obtain rfl:q=false:=(by have:=hq2.out;simpa using this.symm);clear hq2 hr;go_wp2;go_ret;exact⟨rfl,hB2⟩
    |true=>
     by_cases hnc:nc=0
     ·subst hnc;have hq3:Hid ((if fk=1 then(decide (fi=0)&&decide (fj=0)&&aL H [] xa xb)else sv)=q):=hide (by have:=hq2.out;simpa using this);clear hq2;rcases hk with rfl|rfl
      ·have hpa:=hide (xM A c H xa xb w2 (hh.out w2 hB2) hn.out);obtain⟨p,hp⟩:∃p,aL H [] xa xb=p:=⟨_,rfl⟩;rw[hp]at hpa hq3;have hq4:Hid ((decide (fi=0)&&decide (fj=0)&&p)=q):=hide (by have:=hq3.out;simpa using this);clear hp hq3 hr;go_wp2_with fail;refine Calls.mono hpa.out ?_;rintro e w3 ⟨rfl,hb3⟩;have hB3:=hB2.trans (hb3.mono hB2.size);replace k1:=k1.below hb3 k1.lt;have f4:=Blk.n4 k1;have f5:=Blk.n5 k1;clear hpa hb3 hB2;cases p with
       |false=>
        obtain rfl:q=false:=(by have:=hq4.out;simpa using this.symm);clear hq4;go_wp2;go_ret;exact⟨rfl,hB3⟩
       |true=>
        by_cases e1:fi=0
        ·have e1b:(fi==0)=true:=(by simp[e1]);have hq5:Hid ((fj==0)=q):=hide (by have:=hq4.out;rw[decide_eq_true e1,Bool.true_and,Bool.and_true]at this;rw[←this,Bool.eq_iff_iff];simp);clear hq4 e1;go_wp2;go_ret;exact⟨bE hq5.out,hB3⟩
        ·have e1b:(fi==0)=false:=(by simpa using e1);obtain rfl:q=false:=(by have:=hq4.out;rw[decide_eq_false e1]at this;simpa using this.symm);clear hq4 e1;go_wp2;go_ret;exact⟨rfl,hB3⟩
      ·have hsc:=hide (hse.out w2 (hh.out w2 hB2) hr.out);have hq4:Hid (sv=q):=hide (by have:=hq3.out;simpa using this);clear hq3 hr;go_wp2_with fail;refine Calls.mono hsc.out ?_;rintro e w3 ⟨rfl,hb3⟩;go_wp2;go_ret;exact⟨bE hq4.out,hB2.trans (hb3.mono hB2.size)⟩
     ·have hn0:(nc:Int)>0:=(by omega);obtain rfl:q=false:=(by have:=hq2.out;rw[decide_eq_false hnc]at this;simpa using this.symm);clear hq2 hr hnc;go_wp2;go_ret;exact⟨rfl,hB2⟩
  ·have h0:(level !=0)=true:=(by rw[bne_iff_ne];omega);have h1:(level !=1)=true:=(by rw[bne_iff_ne];omega);obtain rfl:q=false:=by
    have:=hq.out;rw[decide_eq_false (show¬level=0 by omega),decide_eq_false (show¬level=1 by omega)]at this;simpa using this.symm
   clear hlv hq hr;go_wp2;go_ret;exact⟨rfl,hB1⟩
set_option maxHeartbeats 8000000
theorem PS{k a b xk xa xb yk ya yb:Int}:(decide (xb=ya)&&decide (xk=yk)&&decide ((⟨k,a,b⟩:Cho)=⟨xk,xa,yb⟩))=((xk==k)&&((yk==k)&&((xa==a)&&((yb==b)&&(xb==ya))))):=by
 rw[Bool.eq_iff_iff];simp only[Bool.and_eq_true,decide_eq_true_eq,beq_iff_eq,Cho.mk.injEq];constructor
 ·rintro⟨⟨h1,h2⟩,h3,h4,h5⟩;omega
 ·rintro⟨h1,h2,h3,h4,h5⟩;omega
set_option maxRecDepth 100000 in
theorem BF(Al:Option Addr)(cl:Nat)(L:List Fct)(f:Fct)(vc:Value)(w:World)(hL:bM w (Old w) (.slice Al L.length cl) L)(hn:L.length≤1000000):
 Calls Tryz.prog 128 #[.slice Al L.length cl,.agg #[.int .i64 f.c.key,.int .i64 f.c.a,.int .i64 f.c.b,.int .i64 f.kind,.int .i64 f.i,.int .i64 f.j,vc]] w fun e w'=>e= .returned (.bool (wT L f))∧Below w.heap.size w w':=by
 obtain⟨⟨key,a,b⟩,kind,i,j,cyc⟩:=f;dsimp only;obtain⟨W0,hW0⟩:∃W0,w.alloc (.cells #[.int .i64 key,.int .i64 a,.int .i64 b,.int .i64 kind,.int .i64 i,.int .i64 j,vc] 73)=W0:=⟨_,rfl⟩;have hB:=ah (Below.refl w.heap.size w) hW0 (Nat.le_refl _);have k0:=Blk.newEq hW0;have hLS:=hide (fun W (hb:Below w.heap.size w W)=>hL.below hb);obtain⟨r,hr⟩:∃r,wT L ⟨⟨key,a,b⟩,kind,i,j,cyc⟩=r:=⟨_,rfl⟩;have hre:Hid (r=(decide (0≤i)&&decide (i<(L.length:Int))&&decide (0≤j)&&decide (j<(L.length:Int))&&
  match L[i.toNat]?,L[j.toNat]? with
  |some x,some y=>decide (x.c.b=y.c.a)&&decide (x.c.key=y.c.key)&&decide ((⟨key,a,b⟩:Cho)=⟨x.c.key,x.c.a,y.c.b⟩)
  |_,_=>false)):=hide hr.symm
 rw[hr];have c0:=Blk.n0 k0;have c1:=Blk.n1 k0;have c2:=Blk.n2 k0;have c4:=Blk.n4 k0;have c5:=Blk.n5 k0;clear hr hL;go_enter Tryz.func128,Tryz.ntmps128;by_cases q1:i<0
 ·have hrq:r=false:=(by rw[hre.out,decide_eq_false (show¬0≤i by omega)];simp);subst hrq;clear hre;go_wp2;go_ret;exact⟨rfl,hB⟩
 ·by_cases q2:i≥(L.length:Int)
  ·have hrq:r=false:=(by rw[hre.out,decide_eq_false (show¬i<(L.length:Int) by omega)];simp);subst hrq;clear hre;go_wp2;go_ret;exact⟨rfl,hB⟩
  ·by_cases q3:j<0
   ·have hrq:r=false:=(by rw[hre.out,decide_eq_false (show¬0≤j by omega)];simp);subst hrq;clear hre;go_wp2;go_ret;exact⟨rfl,hB⟩
   ·by_cases q4:j≥(L.length:Int)
    ·have hrq:r=false:=(by rw[hre.out,decide_eq_false (show¬j<(L.length:Int) by omega)];simp);subst hrq;clear hre;go_wp2;go_ret;exact⟨rfl,hB⟩
    ·obtain⟨m,rfl⟩:∃m:Nat,i=(m:Int):=⟨i.toNat,by omega⟩;obtain⟨n,rfl⟩:∃n:Nat,j=(n:Int):=⟨j.toNat,by omega⟩;have hm:m<L.length:=(by omega);have hnl:n<L.length:=(by omega);have hm0:(0:Int)≤(m:Int):=Int.natCast_nonneg _;have hn0:(0:Int)≤(n:Int):=Int.natCast_nonneg _;have hm1:(m:Int)<(L.length:Int):=(by omega);have hn1:(n:Int)<(L.length:Int):=(by omega);have jv:=hide (show r=(decide (L[m].c.b=L[n].c.a)&&decide (L[m].c.key=L[n].c.key)&&decide ((⟨key,a,b⟩:Cho)=⟨L[m].c.key,L[m].c.a,L[n].c.b⟩)) by
      rw[hre.out,Int.toNat_natCast,Int.toNat_natCast,List.getElem?_eq_getElem hm,List.getElem?_eq_getElem hnl,decide_eq_true hm0,decide_eq_true hm1,decide_eq_true hn0,decide_eq_true hn1];rfl)
     obtain⟨b0,off,Ay,cy,rfl,-,d⟩:=(hLS.out W0 hB).at_ hm;obtain⟨b1,off1,Az,cz,e,-,d'⟩:=(hLS.out W0 hB).at_ hnl;injection e with e
     injection e with e1 e2
     subst e1 e2;have x0:=d.d0;have x1:=d.d1;have x2:=d.d2;have hy:=hide (fun W (hb:Below w.heap.size w W)=>(by
      obtain⟨b1,off1,Ay,cy,e,-,d⟩:=(hLS.out W hb).at_ hnl;injection e with e
      injection e with e1 e2
      subst e1 e2;exact⟨d.d0,d.d1,d.d2⟩:W.cell? ⟨b0,off+n*7,none⟩=some (.int .i64 L[n].c.key)∧W.cell? ⟨b0,off+n*7+1,none⟩=some (.int .i64 L[n].c.a)∧W.cell? ⟨b0,off+n*7+2,none⟩=some (.int .i64 L[n].c.b)))
     clear d d' hLS hre;generalize L[m].c=xc at*;generalize L[n].c=yc at*;obtain⟨xk,xa,xb⟩:=xc;obtain⟨yk,ya,yb⟩:=yc;dsimp only at x0 x1 x2 hy jv;rw[PS]at jv;go_upto_region 4 with fail;obtain⟨W1,hW1⟩:∃W1,W0.alloc (.cells #[.int .i64 xk,.int .i64 xa,.int .i64 xb] 62)=W1:=⟨_,rfl⟩;try rw[hW1]
     have hB1:=ah hB hW1 hB.size;have kx:=Blk.newEq hW1;replace k0:Blk W1 w.heap.size 73 #[.int .i64 key,.int .i64 a,.int .i64 b,.int .i64 kind,.int .i64 (m:Int),.int .i64 (n:Int),vc]:=(by rw[←hW1];exact k0.alloc _);obtain⟨y0,y1,y2⟩:=hy.out W1 hB1;have c5:=Blk.n5 k0;clear hB x0 x1 x2 c0 c1 c2 c4 hy hW1;go_upto_region 5 with fail;obtain⟨W2,hW2⟩:∃W2,W1.alloc (.cells #[.int .i64 yk,.int .i64 ya,.int .i64 yb] 62)=W2:=⟨_,rfl⟩;try rw[hW2]
     have hB2:=ah hB1 hW2 hB1.size;have ky:=Blk.newEq hW2;replace k0:Blk W2 w.heap.size 73 #[.int .i64 key,.int .i64 a,.int .i64 b,.int .i64 kind,.int .i64 (m:Int),.int .i64 (n:Int),vc]:=(by rw[←hW2];exact k0.alloc _);replace kx:Blk W2 W0.heap.size 62 #[.int .i64 xk,.int .i64 xa,.int .i64 xb]:=(by rw[←hW2];exact kx.alloc _);have c0:=Blk.n0 k0;have c1:=Blk.n1 k0;have c2:=Blk.n2 k0;have x0:=Blk.n0 kx;have x1:=Blk.n1 kx;have x2:=Blk.n2 kx;have z0:=Blk.n0 ky;have z1:=Blk.n1 ky;have z2:=Blk.n2 ky;clear hB1 y0 y1 y2 c5 hW2 hW0;obtain⟨v1,hv1⟩:∃v1,(xk==key)=v1:=⟨_,rfl⟩;obtain⟨v2,hv2⟩:∃v2,(yk==key)=v2:=⟨_,rfl⟩;obtain⟨v3,hv3⟩:∃v3,(xa==a)=v3:=⟨_,rfl⟩;obtain⟨v4,hv4⟩:∃v4,(yb==b)=v4:=⟨_,rfl⟩;obtain⟨v5,hv5⟩:∃v5,(xb==ya)=v5:=⟨_,rfl⟩;rw[hv1,hv2,hv3,hv4,hv5]at jv;cases v1
     ·obtain rfl:=jv.out;clear jv;go_wp2;go_ret;exact⟨rfl,hB2⟩
     ·cases v2
      ·obtain rfl:=jv.out;clear jv;go_wp2;go_ret;exact⟨rfl,hB2⟩
      ·cases v3
       ·obtain rfl:=jv.out;clear jv;go_wp2;go_ret;exact⟨rfl,hB2⟩
       ·cases v4
        ·obtain rfl:=jv.out;clear jv;go_wp2;go_ret;exact⟨rfl,hB2⟩
        ·have hrv:r=v5:=jv.out;clear jv;subst hrv;cases r<;>(go_wp2;go_ret;exact⟨rfl,hB2⟩)
end Go.Proofs.YtpjechjoijjhpaaGreatDoor
