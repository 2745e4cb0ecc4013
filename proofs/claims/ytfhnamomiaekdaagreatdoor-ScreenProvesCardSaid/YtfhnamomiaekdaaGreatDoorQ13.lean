/-
  Walks: layer 22: whether a choice is one; whether a history and a level may be.
-/
import Derived.Laws.MakeOwn
import Derived.Test.YtfhnamomiaekdaaGreatDoorQ12
import Derived.Test.YtfhnamomiaekdaaGreatDoorQ04
import Derived.Test.YtfhnamomiaekdaaGreatDoorQ07
import Derived.Test.YtfhnamomiaekdaaGreatDoorQ05
import Derived.Test.YtfhnamomiaekdaaGreatDoorQ09
import Derived.Test.YtfhnamomiaekdaaGreatDoorQ10
import Derived.Test.YtfhnamomiaekdaaGreatDoorQ01
set_option linter.unusedVariables false
set_option linter.unusedSimpArgs false
namespace Go.Proofs.YtfhnamomiaekdaaGreatDoor
open Go.RowKit Go.Inq
set_option maxHeartbeats 8000000
attribute [local go_sem↓] Go.wp_at_zero Go.wp_at_succ
set_option maxRecDepth 100000 in
theorem Kl(A:Option Addr)(c:Nat)(H:List Txn)(t key:Int)(bh bc:Nat)(w:World)(h:av w (Old w) (.slice A H.length c) H)(hn:aC H)(hbh:w.cell? ⟨bh,0,none⟩=some (.slice A H.length c))(hbc:w.cell? ⟨bc,0,none⟩=some (.int .i64 key)):
 Calls Tryz.prog 179 #[.int .i64 t,.pointer (some ⟨bh,0,none⟩),.pointer (some ⟨bc,0,none⟩)] w fun e w'=>e= .returned (.bool (wrB H t key))∧Below w.heap.size w w':=by
 have hlen:=hn.1;have Ej:=hide (fun W (hW:Below w.heap.size w W)=>(hW.cell (p:=⟨bh,0,none⟩) (block_lt_of_cell hbh)).trans hbh);have hbc2:=hide (fun W (hW:Below w.heap.size w W)=>(hW.cell (p:=⟨bc,0,none⟩) (block_lt_of_cell hbc)).trans hbc);clear hbh hbc;by_cases h0:0≤t
 ·have h0b:decide (t≥0)=true:=(by simpa using h0);by_cases h1:t<(H.length:Int)
  ·obtain⟨m,rfl⟩:∃m:Nat,t=m:=⟨t.toNat,by omega⟩;have hm:m<H.length:=(by omega);have hr:=zH (key:=key) hm;rw[aH hm]at hr;obtain⟨b,off,Aw,cw,Ar,cr,rfl,hbK,d0,d1,d2,hws,_⟩:=av.at_ h hm;have hd1:=hide (fun W (hW:Below w.heap.size w W)=>(hW.cell (p:=⟨b,off+m*3+1,none⟩) hbK).trans d1);have hwl:H[m].writes.length≤maxLen:=(by have:=(hn.2 _ (List.getElem_mem hm)).1;unfold maxLen;omega);have hcc:=hide (fun W (hW:Below w.heap.size w W)=>dD Aw cw H[m].writes key (Old W) W (aN.below hws hW) hwl);generalize H[m].writes=L at*;generalize hqe:L.contains key=q at*;rw[hr];have hm1:decide (m<H.length)=true:=(by simpa using hm);have hm2:(0:Int)≤(m:Int):=Int.natCast_nonneg _;replace hn:=hide hn;clear h h0 hws d0 d1 d2 hr hqe;go_enter Tryz.func179,Tryz.ntmps179;go_upto_region 1 with fail;refine aW (fun W=>Below w.heap.size w W) (by kernel_rfl) (by kernel_rfl) (Below.refl _ _).drew ?_;refine⟨.int .i64 (m:Int),fun W hW=>(by go_wp2),?_⟩;refine⟨.bool true,fun W hW=>(by go_wp2),?_⟩;refine⟨.bool true,fun W hW=>(by go_wp2),?_⟩;refine⟨.int .i64 (m:Int),fun W hW=>(by go_wp2),?_⟩;refine⟨.pointer (some ⟨bh,0,none⟩),fun W hW=>(by go_wp2),?_⟩;refine⟨.slice (some ⟨b,off,none⟩) H.length c,fun W hW=>(by have v0:=Ej.out W hW;go_wp2),?_⟩;refine⟨.int .i64 (H.length:Int),fun W hW=>(by go_wp2),?_⟩;refine⟨.bool true,fun W hW=>(by go_wp2),?_⟩;refine⟨.bool true,fun W hW=>(by go_wp2),?_⟩;refine⟨.bool true,fun W hW=>(by go_wp2),?_⟩;refine⟨.pointer (some ⟨bh,0,none⟩),fun W hW=>(by go_wp2),?_⟩;refine⟨.slice (some ⟨b,off,none⟩) H.length c,fun W hW=>(by have v0:=Ej.out W hW;go_wp2),?_⟩;refine⟨.int .i64 (m:Int),fun W hW=>(by go_wp2),?_⟩;refine⟨.pointer (some ⟨b,off+m*3,none⟩),fun W hW=>(by go_wp2),?_⟩;refine⟨.pointer (some ⟨b,off+m*3+1,none⟩),fun W hW=>(by go_wp2),?_⟩;refine⟨.slice Aw L.length cw,fun W hW=>(by have v0:=hd1.out W hW;go_wp2),?_⟩;refine⟨.pointer (some ⟨bc,0,none⟩),fun W hW=>(by go_wp2),?_⟩;refine⟨.int .i64 key,fun W hW=>(by have v0:=hbc2.out W hW;go_wp2),?_⟩;refine⟨.bool q,fun W hW=>(by
    go_wp2_with fail;refine(hcc.out W hW).mono ?_;rintro e w' ⟨rfl,rfl⟩;go_wp2),?_⟩
   refine⟨.bool q,fun W hW=>(by go_wp2),?_⟩;refine⟨.bool q,fun W hW=>(by go_wp2),?_⟩;intro W5 hW5;simp only[Act.put,sA,sZ,sS];go_wp2;go_ret;exact⟨rfl,hW5⟩
  ·have hr:wrB H t key=false:=(by unfold wrB;simp;intro _ e;exact absurd e h1);have h1b:decide (t<(H.length:Int))=false:=(by simpa using h1);rw[hr];replace hn:=hide hn;clear h h0 h1 hr;go_enter Tryz.func179,Tryz.ntmps179;go_upto_region 1 with fail;refine aW (fun W=>Below w.heap.size w W) (by kernel_rfl) (by kernel_rfl) (Below.refl _ _).drew ?_;refine⟨.int .i64 t,fun W hW=>(by go_wp2),?_⟩;refine⟨.bool true,fun W hW=>(by go_wp2),?_⟩;refine⟨.bool true,fun W hW=>(by go_wp2),?_⟩;refine⟨.int .i64 t,fun W hW=>(by go_wp2),?_⟩;refine⟨.pointer (some ⟨bh,0,none⟩),fun W hW=>(by go_wp2),?_⟩;refine⟨.slice A H.length c,fun W hW=>(by have v0:=Ej.out W hW;go_wp2),?_⟩;refine⟨.int .i64 (H.length:Int),fun W hW=>(by go_wp2),?_⟩;refine⟨.bool false,fun W hW=>(by go_wp2),?_⟩;refine⟨.bool false,fun W hW=>(by go_wp2),?_⟩;refine⟨.bool false,fun W hW=>(by go_wp2),?_⟩;refine⟨undef,fun W hW=>(by go_wp2),?_⟩;refine⟨undef,fun W hW=>(by go_wp2),?_⟩;refine⟨undef,fun W hW=>(by go_wp2),?_⟩;refine⟨undef,fun W hW=>(by go_wp2),?_⟩;refine⟨undef,fun W hW=>(by go_wp2),?_⟩;refine⟨undef,fun W hW=>(by go_wp2),?_⟩;refine⟨undef,fun W hW=>(by go_wp2),?_⟩;refine⟨undef,fun W hW=>(by go_wp2),?_⟩;refine⟨undef,fun W hW=>(by go_wp2),?_⟩;refine⟨.bool false,fun W hW=>(by go_wp2),?_⟩;refine⟨.bool false,fun W hW=>(by go_wp2),?_⟩;intro W5 hW5;simp only[Act.put,sA,sZ,sS];go_wp2;go_ret;exact⟨rfl,hW5⟩
 ·have hr:wrB H t key=false:=(by unfold wrB;simp;intro e;exact absurd e h0);have h0b:decide (t≥0)=false:=(by simpa using h0);rw[hr];replace hn:=hide hn;clear h h0 hr;go_enter Tryz.func179,Tryz.ntmps179;go_upto_region 1 with fail;refine aW (fun W=>Below w.heap.size w W) (by kernel_rfl) (by kernel_rfl) (Below.refl _ _).drew ?_;refine⟨.int .i64 t,fun W hW=>(by go_wp2),?_⟩;refine⟨.bool false,fun W hW=>(by go_wp2),?_⟩;refine⟨.bool false,fun W hW=>(by go_wp2),?_⟩;refine⟨undef,fun W hW=>(by go_wp2),?_⟩;refine⟨undef,fun W hW=>(by go_wp2),?_⟩;refine⟨undef,fun W hW=>(by go_wp2),?_⟩;refine⟨undef,fun W hW=>(by go_wp2),?_⟩;refine⟨undef,fun W hW=>(by go_wp2),?_⟩;refine⟨.bool false,fun W hW=>(by go_wp2),?_⟩;refine⟨.bool false,fun W hW=>(by go_wp2),?_⟩;refine⟨undef,fun W hW=>(by go_wp2),?_⟩;refine⟨undef,fun W hW=>(by go_wp2),?_⟩;refine⟨undef,fun W hW=>(by go_wp2),?_⟩;refine⟨undef,fun W hW=>(by go_wp2),?_⟩;refine⟨undef,fun W hW=>(by go_wp2),?_⟩;refine⟨undef,fun W hW=>(by go_wp2),?_⟩;refine⟨undef,fun W hW=>(by go_wp2),?_⟩;refine⟨undef,fun W hW=>(by go_wp2),?_⟩;refine⟨undef,fun W hW=>(by go_wp2),?_⟩;refine⟨.bool false,fun W hW=>(by go_wp2),?_⟩;refine⟨.bool false,fun W hW=>(by go_wp2),?_⟩;intro W5 hW5;simp only[Act.put,sA,sZ,sS];go_wp2;go_ret;exact⟨rfl,hW5⟩
set_option maxRecDepth 100000 in
theorem sH(A:Option Addr)(c:Nat)(H:List Txn)(level:Int)(w:World)(h:av w (Old w) (.slice A H.length c) H)(hn:aC H):
 Calls Tryz.prog 111 #[.agg #[.slice A H.length c],.int .i64 level] w fun e w'=>e= .returned (.bool (aA H&&(decide (level=0)||decide (level=1))))∧Below w.heap.size w w':=by
 obtain⟨W0,hW0⟩:∃W0,w.alloc (.cells #[.slice A H.length c] 24)=W0:=⟨_,rfl⟩;have hB:=ah (Below.refl w.heap.size w) hW0 (Nat.le_refl _);have k0:=Blk.newEq hW0;have hrc:=hide (cK A c H W0 (h.below hB) hn);have c0:=Blk.n0 k0;generalize aA H=q at*;clear h;have hz:decide (level=0)=(level==0):=(by rw[Bool.eq_iff_iff];simp);have ho:decide (level=1)=(level==1):=(by rw[Bool.eq_iff_iff];simp);rw[hz,ho];obtain⟨z,hz2⟩:∃z,(level==0)=z:=⟨_,rfl⟩;obtain⟨o,ho2⟩:∃o,(level==1)=o:=⟨_,rfl⟩;rw[hz2,ho2];clear hz ho;go_enter Tryz.func111,Tryz.ntmps111;go_wp2_with fail;clear hW0 c0;refine hrc.out.mono ?_;rintro e w1 ⟨rfl,hb1⟩;cases q<;>cases z<;>cases o;all_goals
  go_wp2;go_ret;exact⟨rfl,hB.trans (hb1.mono hB.size)⟩
set_option maxRecDepth 100000 in
theorem qR(A:Option Addr)(c:Nat)(H:List Txn)(key a b:Int)(w:World)(h:av w (Old w) (.slice A H.length c) H)(hn:aC H):
 Calls Tryz.prog 112 #[.agg #[.slice A H.length c],.agg #[.int .i64 key,.int .i64 a,.int .i64 b]] w fun e w'=>e= .returned (.bool (eY H ⟨key,a,b⟩))∧Below w.heap.size w w':=by
 obtain⟨W0,hW0⟩:∃W0,(w.alloc (.cells #[.slice A H.length c] 24)).alloc (.cells #[.int .i64 key,.int .i64 a,.int .i64 b] 102)=W0:=⟨_,rfl⟩;have hB:=aQ hW0;have k0:=Blk.j6 hW0;have k1:=Blk.jd hW0;have hT:=hide (h.below hB);have hcl:=hide (fun(t:Int) W (hW:Below W0.heap.size W0 W)=>Kl A c H t key w.heap.size (w.heap.size+1) W (hT.out.below hW) hn (by have:=(k0.below hW k0.lt).cell 0;simpa using this) (by have:=(k1.below hW k1.lt).cell 0;simpa using this));have c0:=Blk.n0 k1;have c1:=Blk.n1 k1;have c2:=Blk.n2 k1;have hone:Hid (eY H ⟨key,a,b⟩=(decide (a≠b)&&wrB H a key&&wrB H b key)):=hide rfl;obtain⟨r,hr⟩:∃r,eY H ⟨key,a,b⟩=r:=⟨_,rfl⟩;rw[hr]at hone;rw[hr];clear h hr;by_cases hab:a=b
 ·have g1:(a !=b)=false:=(by simp[hab]);have hre:r=false:=(by rw[hone.out];simp[hab]);subst hre;clear hab hone hcl;go_enter Tryz.func112,Tryz.ntmps112;go_wp2;go_ret;exact⟨rfl,hB⟩
 ·have g1:(a !=b)=true:=(by simpa using hab);have qU:=hide (show r=(wrB H a key&&wrB H b key) by rw[hone.out];simp[hab]);have h1:=hide (hcl.out a W0 (Below.refl _ _));have h2:=hide (fun W hW=>hcl.out b W hW);generalize wrB H a key=q1 at*;generalize wrB H b key=q2 at*;clear hab hone hcl;go_enter Tryz.func112,Tryz.ntmps112;go_wp2_with fail;refine h1.out.mono ?_;rintro e w1 ⟨rfl,hb1⟩;have d2:=(hb1.cell (p:=⟨w.heap.size+1,2,none⟩) k1.lt).trans c2;have hb2:=hB.trans (hb1.mono hB.size);have h3:=hide (h2.out w1 hb1);clear hW0 h1 h2 c0 c1 c2;cases q1 with
  |false=>
   have hre:r=false:=(by rw[qU.out];rfl);subst hre;clear h3 qU;go_wp2;go_ret;exact⟨rfl,hb2⟩
  |true=>
   have hre:r=q2:=(by rw[qU.out];rfl);subst hre;clear qU;go_wp2_with fail;refine h3.out.mono ?_;rintro e w2 ⟨rfl,hb3⟩;go_wp2;go_ret;exact⟨rfl,hb2.trans (hb3.mono hb2.size)⟩
theorem jX(w:World):
 Calls Tryz.prog 113 #[] w fun e w'=>e= .returned (.slice (some ⟨w.heap.size,0,none⟩) 4 4)∧Blk w' w.heap.size 188 #[.int .i64 1,.func (.func 180) #[] #[],.int .i64 2,.func (.func 181) #[] #[],.int .i64 3,.func (.func 182) #[] #[],.int .i64 4,.func (.func 183) #[] #[]]∧Below w.heap.size w w':=by
 go_enter Tryz.func113,Tryz.ntmps113;go_wp2;go_ret;exact⟨rfl,Blk.new _ _ _,(Below.refl _ _).alloc (Nat.le_refl _) _⟩
set_option maxRecDepth 100000 in
theorem Ch(A:Option Addr)(c:Nat)(H:List Txn)(level:Int)(vl:Value)(f:Fct)(vc:Value)(w:World)(h:av w (Old w) (.slice A H.length c) H)(hn:aC H):
 Calls Tryz.prog 180 #[.agg #[.slice A H.length c,.int .i64 level,vl,.int .i64 f.c.key,.int .i64 f.c.a,.int .i64 f.c.b,.int .i64 f.kind,.int .i64 f.i,.int .i64 f.j,vc]] w fun e w'=>e= .returned (.bool (axB H f))∧Below w.heap.size w w':=by
 obtain⟨⟨key,a,b⟩,kind,i,j,cyc⟩:=f;dsimp only;obtain⟨W0,hW0⟩:∃W0,w.alloc (.cells #[.slice A H.length c,.int .i64 level,vl,.int .i64 key,.int .i64 a,.int .i64 b,.int .i64 kind,.int .i64 i,.int .i64 j,vc] 190)=W0:=⟨_,rfl⟩;have hB:=ah (Below.refl w.heap.size w) hW0 (Nat.le_refl _);have k0:=Blk.newEq hW0;have hdi:=hide (lS A c H none 0 [] a b W0 (h.below hB) hn (bg.nil _ _ _ _) (by simp));have hre:Hid (axB H ⟨⟨key,a,b⟩,kind,i,j,cyc⟩=(decide (i=0)&&decide (j=0)&&bM H [] a b)):=hide rfl;obtain⟨r,hr⟩:∃r,axB H ⟨⟨key,a,b⟩,kind,i,j,cyc⟩=r:=⟨_,rfl⟩;rw[hr]at hre;rw[hr];generalize bM H [] a b=q at*;have c0:=Blk.n0 k0;have c4:=Blk.n4 k0;have c5:=Blk.n5 k0;have c7:=Blk.n7 k0;have c8:=Blk.n8 k0;clear h hr;by_cases h1:i=0
 ·by_cases h2:j=0
  ·have hrq:r=q:=(by rw[hre.out];simp[h1,h2]);have g1:(i==0)=true:=(by simp[h1]);have g2:(j==0)=true:=(by simp[h2]);subst hrq;clear h1 h2 hre;go_enter Tryz.func180,Tryz.ntmps180;go_wp2_with fail;refine hdi.out.mono ?_;rintro e w1 ⟨rfl,hb1⟩;go_wp2;go_ret;exact⟨rfl,hB.trans (hb1.mono hB.size)⟩
  ·have hrq:r=false:=(by rw[hre.out];simp[h2]);have g1:(i==0)=true:=(by simp[h1]);have g2:(j==0)=false:=(by simpa using h2);subst hrq;clear h1 h2 hre hdi;go_enter Tryz.func180,Tryz.ntmps180;go_wp2;go_ret;exact⟨rfl,hB⟩
 ·have hrq:r=false:=(by rw[hre.out];simp[h1]);have g1:(i==0)=false:=(by simpa using h1);subst hrq;clear h1 hre hdi;go_enter Tryz.func180,Tryz.ntmps180;go_wp2;go_ret;exact⟨rfl,hB⟩
set_option maxRecDepth 100000 in
theorem wC(A:Option Addr)(c:Nat)(H:List Txn)(level:Int)(vl:Value)(f:Fct)(vc:Value)(w:World)(h:av w (Old w) (.slice A H.length c) H)(hn:aC H):
 Calls Tryz.prog 182 #[.agg #[.slice A H.length c,.int .i64 level,vl,.int .i64 f.c.key,.int .i64 f.c.a,.int .i64 f.c.b,.int .i64 f.kind,.int .i64 f.i,.int .i64 f.j,vc]] w fun e w'=>e= .returned (.bool (tJ H f))∧Below w.heap.size w w':=by
 obtain⟨⟨key,a,b⟩,kind,i,j,cyc⟩:=f;dsimp only;obtain⟨W0,hW0⟩:∃W0,w.alloc (.cells #[.slice A H.length c,.int .i64 level,vl,.int .i64 key,.int .i64 a,.int .i64 b,.int .i64 kind,.int .i64 i,.int .i64 j,vc] 190)=W0:=⟨_,rfl⟩;have hB:=ah (Below.refl w.heap.size w) hW0 (Nat.le_refl _);have k0:=Blk.newEq hW0;have hT:=h.below hB;have hdi:=hide (fun W (hb:Below w.heap.size w W)=>lS A c H none 0 [] a i W (h.below hb) hn (bg.nil _ _ _ _) (by simp));have hre:Hid (tJ H ⟨⟨key,a,b⟩,kind,i,j,cyc⟩=(decide (j=0)&&decide (i≠a)&&decide (0≤i)&&decide (i<(H.length:Int))&&((aG H i.toNat).reads.any fun x=>decide (x.a=key)&&decide (x.b=b))&&bM H [] a i)):=hide rfl;obtain⟨r,hr⟩:∃r,tJ H ⟨⟨key,a,b⟩,kind,i,j,cyc⟩=r:=⟨_,rfl⟩;rw[hr]at hre;rw[hr];generalize bM H [] a i=q at*;have c0:=Blk.n0 k0;have c3:=Blk.n3 k0;have c4:=Blk.n4 k0;have c5:=Blk.n5 k0;have c7:=Blk.n7 k0;have c8:=Blk.n8 k0;have hct:Hid True:=hide trivial;clear hr;by_cases h1:j=0
 ·have g1:(j !=0)=false:=(by simp[h1]);by_cases h2:i=a
  ·have hrq:r=false:=(by rw[hre.out];simp[h2]);have g2:(i==a)=true:=(by simp[h2]);subst hrq;clear h1 h2 hre h hT;clear hdi hct;go_enter Tryz.func182,Tryz.ntmps182;go_wp2;go_ret;exact⟨rfl,hB⟩
  ·have g2:(i==a)=false:=(by simpa using h2);by_cases h3:i<0
   ·have hrq:r=false:=(by rw[hre.out,decide_eq_false (show¬0≤i by omega)];simp);have g3:decide (i<0)=true:=(by simpa using h3);subst hrq;clear h1 h2 h3 hre h hT;clear hdi hct;go_enter Tryz.func182,Tryz.ntmps182;go_wp2;go_ret;exact⟨rfl,hB⟩
   ·have g3:decide (i<0)=false:=(by simpa using h3);by_cases h4:(H.length:Int)≤i
    ·have hrq:r=false:=(by rw[hre.out,decide_eq_false (show¬i<(H.length:Int) by omega)];simp);have g4:decide (i≥(H.length:Int))=true:=(by simpa using h4);have g5:decide ((H.length:Int)≤i)=true:=(by simpa using h4);subst hrq;clear h1 h2 h3 h4 hre h hT;clear hdi hct;go_enter Tryz.func182,Tryz.ntmps182;go_wp2;go_ret;exact⟨rfl,hB⟩
    ·obtain⟨m,rfl⟩:∃m:Nat,i=(m:Int):=⟨i.toNat,by omega⟩;have hm:m<H.length:=(by omega);have hm0:(0:Int)≤(m:Int):=Int.natCast_nonneg _;have hm1:(m:Int)<(H.length:Int):=(by omega);have g4:decide ((m:Int)≥(H.length:Int))=false:=(by simp;omega);have g5:decide ((H.length:Int)≤(m:Int))=false:=(by simp;omega);have g6:decide (H.length≤m)=false:=(by simp;omega);obtain⟨bt,ot,Aw,cw,Ar,cr,rfl,_,d0,d1,d2,-,hrs⟩:=av.at_ hT hm;have hrl:H[m].reads.length≤1000000:=(hn.2 _ (List.getElem_mem hm)).2;have hct:=hide (oF Ar cr H[m].reads key b W0.drew (ItS.keep hrs (Agree.drew _ _) (fun b h=>h)) (by omega));have vW:=hide (show r=((H[m].reads.any fun x=>decide (x.a=key)&&decide (x.b=b))&&q) by
      rw[hre.out,Int.toNat_natCast,aH hm,decide_eq_true h1,decide_eq_true h2,decide_eq_true hm0,decide_eq_true hm1];simp)
     generalize(H[m].reads.any fun x=>decide (x.a=key)&&decide (x.b=b))=q1 at*;generalize H[m].reads=R at*;clear h1 h2 h3 h4 hre hT hrs h;go_enter Tryz.func182,Tryz.ntmps182;go_upto_region 3 with fail;refine fV [0,1,2,3,4,5,6,7,8,9,10,11,12,13,14,15,16,17] [18,19] (by kernel_rfl) (by kernel_rfl) (fun _ _ d _ _ h=>by cases d<;>exact h) ?_;simp only[List.filterMap_cons,List.filterMap_nil,gZ,gS];repeat still_step
     refine wpStill_nil ?_;go_wp2_with fail;refine hct.out.mono ?_;rintro e w1 ⟨rfl,hb1⟩;have hb2:=(lM hB).trans (hb1.mono hB.size);have k1:=k0.drew.below hb1 k0.lt;have e0:=Blk.n0 k1;have e4:=Blk.n4 k1;have e7:=Blk.n7 k1;have hd2:=hide (hdi.out w1 hb2);clear hW0 hct hdi c0 c3 c4 c5 c7 c8 d0 d1 d2;cases q1 with
     |false=>
      have hrq:r=false:=(by rw[vW.out];rfl);subst hrq;clear hd2 vW;go_wp2;go_ret;exact⟨rfl,hb2⟩
     |true=>
      have hrq:r=q:=(by rw[vW.out];rfl);subst hrq;clear vW;go_wp2_with fail;refine hd2.out.mono ?_;rintro e w2 ⟨rfl,hb3⟩;go_wp2;go_ret;exact⟨rfl,hb2.trans (hb3.mono hb2.size)⟩
 ·have g1:(j !=0)=true:=(by simpa using h1);have hrq:r=false:=(by rw[hre.out];simp[h1]);subst hrq;clear h1 hre h hT;clear hdi hct;go_enter Tryz.func182,Tryz.ntmps182;go_wp2;go_ret;exact⟨rfl,hB⟩
theorem El{H:List Txn}{level:Int}{L:List Fct}{f:Fct}(hk:f.kind=1∨f.kind=3):bP H level L f=(l9 H level&&eY H f.c&&decide (f.cyc=[])&&(if f.kind=1 then axB H f else tJ H f)):=by
 unfold bP nY;rcases hk with e|e
 ·rw[if_pos e,if_pos e,decide_eq_false (show¬f.kind=4 by omega)];rfl
 ·rw[if_neg (show¬f.kind=1 by omega),if_neg (show¬f.kind=2 by omega),if_pos e,if_neg (show¬f.kind=1 by omega),decide_eq_false (show¬f.kind=4 by omega)];rfl
set_option maxRecDepth 100000 in
theorem Ci(A:Option Addr)(c:Nat)(H:List Txn)(level:Int)(Al:Option Addr)(nl cl:Nat)(L:List Fct)(f:Fct)(Ac:Option Addr)(cc:Nat)(w:World)(h:av w (Old w) (.slice A H.length c) H)(hn:aC H)(hk:f.kind=1∨f.kind=3):
 Calls Tryz.prog 51 #[.agg #[.slice A H.length c],.int .i64 level,.slice Al nl cl,.agg #[.int .i64 f.c.key,.int .i64 f.c.a,.int .i64 f.c.b,.int .i64 f.kind,.int .i64 f.i,.int .i64 f.j,.slice Ac f.cyc.length cc]] w fun e w'=>e= .returned (.bool (bP H level L f))∧Below w.heap.size w w':=by
 have hfm:=hide (El (H:=H) (level:=level) (L:=L) hk);have hax:=hide (fun W (hb:Below w.heap.size w W)=>Ch A c H level (.slice Al nl cl) f (.slice Ac f.cyc.length cc) W (h.below hb) hn);have hse:=hide (fun W (hb:Below w.heap.size w W)=>wC A c H level (.slice Al nl cl) f (.slice Ac f.cyc.length cc) W (h.below hb) hn);have hma:=hide (fun W (hb:Below w.heap.size w W)=>sH A c H level W (h.below hb) hn);have hch:=hide (fun W (hb:Below w.heap.size w W)=>qR A c H f.c.key f.c.a f.c.b W (h.below hb) hn);obtain⟨r,hr⟩:∃r,bP H level L f=r:=⟨_,rfl⟩;rw[hr]at hfm;rw[hr];obtain⟨⟨key,a,b⟩,kind,i,j,cyc⟩:=f;dsimp only at*;have hm2:Hid (l9 H level=(aA H&&(decide (level=0)||decide (level=1)))):=hide rfl;rw[←hm2.out]at hma;generalize l9 H level=qm at*;generalize eY H ⟨key,a,b⟩=qo at*;obtain⟨W0,hW0⟩:∃W0,(w.alloc (.cells #[.slice A H.length c] 24)).alloc (.cells #[.int .i64 key,.int .i64 a,.int .i64 b,.int .i64 kind,.int .i64 i,.int .i64 j,.slice Ac cyc.length cc] 104)=W0:=⟨_,rfl⟩;have hB:=aQ hW0;have k0:=Blk.j6 hW0;have k1:=Blk.jd hW0;have c0:=Blk.n0 k0;have hm1:=hide (hma.out W0 hB);have hkn:(kind !=4)=true:=(by rw[bne_iff_ne];rcases hk with e|e<;>omega);clear h hr hma hm2;go_enter Tryz.func51,Tryz.ntmps51;go_wp2_with fail;refine hm1.out.mono ?_;rintro e w1 ⟨rfl,hb1⟩;replace k0:=k0.below hb1 k0.lt;replace k1:=k1.below hb1 k1.lt;have hb2:=hB.trans (hb1.mono hB.size);have Em:=hide (hch.out w1 hb2);clear hW0 c0 hm1 hch hB hb1;have c0:=Blk.n0 k0;have d0:=Blk.n0 k1;have d1:=Blk.n1 k1;have d2:=Blk.n2 k1;cases qm with
 |false=>
  have hre:r=false:=(by rw[hfm.out];rfl);subst hre;clear hfm hax hse Em;go_wp2;go_ret;exact⟨rfl,hb2⟩
 |true=>
  go_wp2_with fail;refine Em.out.mono ?_;rintro e w2 ⟨rfl,hb3⟩;replace k0:=k0.below hb3 k0.lt;replace k1:=k1.below hb3 k1.lt;have hb4:=hb2.trans (hb3.mono hb2.size);clear Em c0 d0 d1 d2 hb2 hb3;have d3:=Blk.n3 k1;have d6:=Blk.n6 k1;cases qo with
  |false=>
   have hre:r=false:=(by rw[hfm.out];rfl);subst hre;clear hfm hax hse;go_wp2;go_ret;exact⟨rfl,hb4⟩
  |true=>
   by_cases hc0:0<cyc.length
   ·have g1:decide ((cyc.length:Int)>0)=true:=(by simp;omega);have g2:decide (0<cyc.length)=true:=(by simp;omega);have hre:r=false:=by
     have:¬cyc=[]:=(by intro e;rw[e]at hc0;simp at hc0);rw[hfm.out];simp[this]
    subst hre;clear hfm hax hse hc0;go_wp2;go_ret;exact⟨rfl,hb4⟩
   ·have hcn:cyc=[]:=List.eq_nil_of_length_eq_zero (by omega);subst hcn;clear hc0;have Md:=hide (show r=(if kind=1 then axB H ⟨⟨key,a,b⟩,kind,i,j,[]⟩else tJ H ⟨⟨key,a,b⟩,kind,i,j,[]⟩) by rw[hfm.out];simp);clear hfm;go_wp2_with fail;refine(jX w2).mono ?_;rintro e w3 ⟨rfl,kr,hb5⟩;have hsz:w.heap.size+1<w2.heap.size:=k1.lt;replace k0:=k0.below hb5 k0.lt;replace k1:=k1.below hb5 k1.lt;have hb6:=hb4.trans (hb5.mono hb4.size);have hsr:=hb4.size;have hsk:=k1.lt;clear d3 d6 hb4 hb5;generalize w2.heap.size=pr at*;go_wp2_with fail;go_loopw [35] (fun s35 wr=>∃k:Nat,s35= .int .i64 (k:Int)∧(k:Int)+1≤kind∧Blk wr w.heap.size 24 #[.slice A H.length c]∧Blk wr (w.heap.size+1) 104 #[.int .i64 key,.int .i64 a,.int .i64 b,.int .i64 kind,.int .i64 i,.int .i64 j,.slice Ac 0 cc]∧Blk wr pr 188 #[.int .i64 1,.func (.func 180) #[] #[],.int .i64 2,.func (.func 181) #[] #[],.int .i64 3,.func (.func 182) #[] #[],.int .i64 4,.func (.func 183) #[] #[]]∧Below w.heap.size w wr) (fun s35 _=>4-(intOf s35).toNat);case atStart=>exact⟨0,by go_num,by rcases hk with e|e<;>omega,k0,k1,kr,hb6⟩
    case round=>
     clear k0 k1 kr hb6 hsr hsk;obtain⟨Wo,rfl⟩:∃Wo,Wo=wr:=⟨_,rfl⟩;obtain⟨k,rfl,hkk,k0,k1,kr,hb⟩:=hrel;have hk2:k=0∨k=1∨k=2:=(by rcases hk with e|e<;>omega);have hsw:=hb.size;have c0:=Blk.n0 k0;have d0:=Blk.n0 k1;have d1:=Blk.n1 k1;have d2:=Blk.n2 k1;have d3:=Blk.n3 k1;have d4:=Blk.n4 k1;have d5:=Blk.n5 k1;have d6:=Blk.n6 k1;have r0:=Blk.n0 kr;have r1:=Blk.n1 kr;have r2:=Blk.n2 kr;have r3:=Blk.n3 kr;have r4:=Blk.n4 kr;have r5:=Blk.n5 kr;rcases hk2 with rfl|rfl|rfl
     ·have hA:=ah hb (W:=Wo.alloc (.cells #[.int .i64 1,.func (.func 180) #[] #[]] 188)) rfl hsw;have m0:=(k0.alloc (.cells #[.int .i64 1,.func (.func 180) #[] #[]] 188));have m1:=(k1.alloc (.cells #[.int .i64 1,.func (.func 180) #[] #[]] 188));have mr:=(kr.alloc (.cells #[.int .i64 1,.func (.func 180) #[] #[]] 188));by_cases hq:kind=1
      ·subst hq;have hcl:=hide (hax.out _ hA);have hre:=hide (show r=axB H ⟨⟨key,a,b⟩,1,i,j,[]⟩ by rw[Md.out];simp);rw[←hre.out]at hcl;clear Md hre hax hse hk m0 m1 mr;go_upto_region 6 with fail;generalize hWa:Wo.alloc (.cells #[.int .i64 1,.func (.func 180) #[] #[]] 188)=Wa at*;have n0:=k0.au hWa;have n1:=k1.au hWa;have nn:=Blk.newEq hWa;clear hWa;have f0:=Blk.n0 n0;have q0:=Blk.n0 n1;have q1:=Blk.n1 n1;have q2:=Blk.n2 n1;have q3:=Blk.n3 n1;have q4:=Blk.n4 n1;have q5:=Blk.n5 n1;have q6:=Blk.n6 n1;have nn0:=Blk.n0 nn;have nn1:=Blk.n1 nn;go_wp2_with fail;refine hcl.out.mono ?_;rintro e w5 ⟨rfl,hb7⟩;go_wp2;go_ret;exact⟨rfl,hA.trans (hb7.mono hA.size)⟩
      ·have gq:((1:Int)==kind)=false:=(by rw[beq_eq_false_iff_ne];omega);have hkn2:((1:Nat):Int)+1≤kind:=(by rcases hk with e|e<;>omega);replace hq:=hide hq;go_upto_region 6 with fail;generalize hWa:Wo.alloc (.cells #[.int .i64 1,.func (.func 180) #[] #[]] 188)=Wa at*;have n1:=k1.au hWa;have nn:=Blk.newEq hWa;clear hWa;have q3:=Blk.n3 n1;have nn0:=Blk.n0 nn;go_wp2;go_roundw;case rel=>exact⟨1,by go_num,hkn2,m0,m1,mr,hA⟩
       case measure=>simp[intOf]
     ·have hA:=ah hb (W:=Wo.alloc (.cells #[.int .i64 2,.func (.func 181) #[] #[]] 188)) rfl hsw;have m0:=(k0.alloc (.cells #[.int .i64 2,.func (.func 181) #[] #[]] 188));have m1:=(k1.alloc (.cells #[.int .i64 2,.func (.func 181) #[] #[]] 188));have mr:=(kr.alloc (.cells #[.int .i64 2,.func (.func 181) #[] #[]] 188));have hq:¬kind=2:=(by rcases hk with e|e<;>omega);have gq:((2:Int)==kind)=false:=(by rw[beq_eq_false_iff_ne];omega);have hkn2:((2:Nat):Int)+1≤kind:=(by rcases hk with e|e<;>omega);replace hq:=hide hq;go_upto_region 6 with fail;generalize hWa:Wo.alloc (.cells #[.int .i64 2,.func (.func 181) #[] #[]] 188)=Wa at*;have n1:=k1.au hWa;have nn:=Blk.newEq hWa;clear hWa;have q3:=Blk.n3 n1;have nn0:=Blk.n0 nn;go_wp2;go_roundw;case rel=>exact⟨2,by go_num,hkn2,m0,m1,mr,hA⟩
      case measure=>simp[intOf]
     ·have hA:=ah hb (W:=Wo.alloc (.cells #[.int .i64 3,.func (.func 182) #[] #[]] 188)) rfl hsw;have m0:=(k0.alloc (.cells #[.int .i64 3,.func (.func 182) #[] #[]] 188));have m1:=(k1.alloc (.cells #[.int .i64 3,.func (.func 182) #[] #[]] 188));have mr:=(kr.alloc (.cells #[.int .i64 3,.func (.func 182) #[] #[]] 188));by_cases hq:kind=3
      ·subst hq;have hcl:=hide (hse.out _ hA);have hre:=hide (show r=tJ H ⟨⟨key,a,b⟩,3,i,j,[]⟩ by rw[Md.out];simp);rw[←hre.out]at hcl;clear Md hre hax hse hk m0 m1 mr;go_upto_region 6 with fail;generalize hWa:Wo.alloc (.cells #[.int .i64 3,.func (.func 182) #[] #[]] 188)=Wa at*;have n0:=k0.au hWa;have n1:=k1.au hWa;have nn:=Blk.newEq hWa;clear hWa;have f0:=Blk.n0 n0;have q0:=Blk.n0 n1;have q1:=Blk.n1 n1;have q2:=Blk.n2 n1;have q3:=Blk.n3 n1;have q4:=Blk.n4 n1;have q5:=Blk.n5 n1;have q6:=Blk.n6 n1;have nn0:=Blk.n0 nn;have nn1:=Blk.n1 nn;go_wp2_with fail;refine hcl.out.mono ?_;rintro e w5 ⟨rfl,hb7⟩;go_wp2;go_ret;exact⟨rfl,hA.trans (hb7.mono hA.size)⟩
      ·exfalso;rcases hk with e|e<;>omega
end Go.Proofs.YtfhnamomiaekdaaGreatDoor
namespace Go.Proofs.YtfhnamomiaekdaaGreatDoor
open Go.RowKit Go.Inq Go.Shelf
set_option maxHeartbeats 8000000
attribute [local go_sem] Oper.semAt_some
attribute [local go_sem↓] Go.wp_at_zero Go.wp_at_succ
def kU(w:World)(base:Nat)(v:Value):Option (List Nat)→Prop
 |none=>v= .slice none 0 0
 |some l=>∃g vc,base≤g∧v= .slice (some ⟨g,0,none⟩) 1 1∧Blk w g 125 #[.int .i64 0,.int .i64 0,.int .i64 0,vc]∧aV w base vc (aB l)
def pV(w:World)(o:Scr)(e:Ending)(w':World):Prop:=
 ∃vo vt vf,e= .returned (.agg #[.int .i64 o.said,vo,vt,vf])∧aV w' w.heap.size vo (aB o.order)∧kU w' w.heap.size vt o.tree∧mo w' w.heap.size vf o.facts∧Below w.heap.size w w'
set_option maxRecDepth 100000 in
theorem En(A:Option Addr)(c:Nat)(H:List Txn)(level:Int)(w:World)(h:av w (Old w) (.slice A H.length c) H)(hn:aC H)(hbad:(dn H []&&(decide (level=0)||decide (level=1)))=false):
 Calls Tryz.prog 48 #[.agg #[.slice A H.length c],.int .i64 level] w (pV w (bq H level)):=by
 refine(callsIn_wide (n:=3)).1 ?_;have hro:Fence.wide.round=none:=rfl;have hsc:bq H level=⟨3,[],none,[]⟩:=(by unfold bq;rw[hbad];rfl);rw[hsc];refine callsIn_of_wp_marks Tryz.func48 rfl trivial ?_ hro;simp only[Tryz.ntmps48,List.size_toArray,List.length_cons,List.length_nil,Nat.reduceAdd,Nat.reduceSub,Array.replicate_succ,Array.replicate_zero,List.push_toArray,List.append_toArray,List.nil_append,List.cons_append]
 gi_wp2_with fail
 refine⟨trivial,?_⟩;obtain⟨W0,hW0⟩:∃W0,(((w.alloc (.cells #[.slice A H.length c] 24)).alloc (.cells #[.int .i64 level] 3)).alloc (.cells #[.int .i64 0,.slice none 0 0,.slice none 0 0,.slice none 0 0] 36))=W0:=⟨_,rfl⟩;rw[hW0];have hs0:W0.heap.size=w.heap.size+3:=(by rw[←hW0];simp);have hBW:Below w.heap.size w W0:=(by rw[←hW0];exact(((Below.refl _ w).alloc (Nat.le_refl _) _).alloc (by simp) _).alloc (by simp;omega) _);have k2:Blk W0 (w.heap.size+1+1) 36 #[.int .i64 0,.slice none 0 0,.slice none 0 0,.slice none 0 0]:=by
  rw[←hW0];have:=Blk.new ((w.alloc (.cells #[.slice A H.length c] 24)).alloc (.cells #[.int .i64 level] 3)) 36 #[.int .i64 0,.slice none 0 0,.slice none 0 0,.slice none 0 0];simpa using this
 have hTW:av W0 (Old W0) (.slice A H.length c) H:=av.keep h (Agree.below hBW fun b h=>h) (fun b hb=>Nat.lt_of_lt_of_le hb hBW.size);refine(callsIn_wide.2 (Eb A c H level none 0 [] W0 hTW hn (SlR.nil _ _ _ _ _ _) (by simp) hbad)).mono ?_;rintro e w1 ⟨rfl,hb1⟩;dsimp only;have hs1:=hb1.size;have qW:=hBW.trans (hb1.mono hBW.size);have kx:=k2.below hb1 k2.lt;obtain⟨W1,hW1⟩:∃W1,w1.alloc (.cells #[.int .i64 0,.slice none 0 0] 77)=W1:=⟨_,rfl⟩;have ky:=kx.au hW1;have hbz:=ah qW hW1 qW.size;have kg:=Blk.newEq hW1;have z0:=Blk.n0 kg;have z1:=Blk.n1 kg;have v0:=kg.frozen 0;have v1:=kg.frozen 1;have x0:=Blk.n0 ky;have x1:=Blk.n1 ky;have x2:=Blk.n2 ky;have x3:=Blk.n3 ky;have y0:=ky.frozen 0;have y1:=ky.frozen 1;have y2:=ky.frozen 2;have y3:=ky.frozen 3;clear hW0 hTW hBW h
 gi_wp2
 have hne:w.heap.size+1+1≠w1.heap.size:=(by have:=k2.lt;omega);have kF:=(((((ky.far (p:=⟨w1.heap.size,0,none⟩) hne (.int .i64 0)).far (p:=⟨w1.heap.size,1,none⟩) hne (.slice none 0 0)).aJ 0 (.int .i64 3)).aJ 1 (.slice none 0 0)).aJ 2 (.slice none 0 0)).aJ 3 (.slice none 0 0);have r0:=kF.cell 0;have r1:=kF.cell 1;have r2:=kF.cell 2;have r3:=kF.cell 3;simp at r0 r1 r2 r3;have wD:w.heap.size≤w1.heap.size:=(by omega);refine⟨.agg #[.int .i64 3,.slice none 0 0,.slice none 0 0,.slice none 0 0],?_,⟨_,_,_,rfl,aV.nil _ _,rfl,mo.nil _ _,?_⟩⟩
 ·simp[results,Tryz.f48,go_sem,r0,r1,r2,r3]
 ·exact(((((hbz.setCell (p:=⟨w1.heap.size,0,none⟩) (by exact wD) _).setCell (p:=⟨w1.heap.size,1,none⟩) (by exact wD) _).setCell (p:=⟨w.heap.size+1+1,0,none⟩) (by simp;omega) _).setCell (p:=⟨w.heap.size+1+1,1,none⟩) (by simp;omega) _).setCell (p:=⟨w.heap.size+1+1,2,none⟩) (by simp;omega) _).setCell (p:=⟨w.heap.size+1+1,3,none⟩) (by simp;omega) _
set_option maxRecDepth 100000 in
theorem Hr(A:Option Addr)(c:Nat)(H:List Txn)(level:Int)(w:World)(h:av w (Old w) (.slice A H.length c) H)(hn:aC H)(hr:dn H []=true)(r9:level=0∨level=1)(hne:dP H.length (bH H level [])≠[])(hTB:gL w):
 Calls Tryz.prog 48 #[.agg #[.slice A H.length c],.int .i64 level] w (pV w (bq H level)):=by
 refine(callsIn_wide (n:=3)).1 ?_;have hro:Fence.wide.round=none:=rfl;have hsc:bq H level=⟨2,[],some (dP H.length (bH H level [])),[]⟩:=by
  unfold bq;have hl:(decide (level=0)||decide (level=1))=true:=(by rcases r9 with e|e<;>simp[e]);rw[hr,hl,if_pos (show(true&&true)=true from rfl),if_neg hne]
 rw[hsc];obtain⟨L,hL⟩:∃L,dP H.length (bH H level [])=L:=⟨_,rfl⟩;rw[hL]at hne⊢;replace hL:=hide hL;have hnz:(0:Int)<(L.length:Int):=(by have:=List.length_pos_iff.2 hne;omega);clear hsc hne;refine callsIn_of_wp_marks Tryz.func48 rfl trivial ?_ hro;simp only[Tryz.ntmps48,List.size_toArray,List.length_cons,List.length_nil,Nat.reduceAdd,Nat.reduceSub,Array.replicate_succ,Array.replicate_zero,List.push_toArray,List.append_toArray,List.nil_append,List.cons_append]
 gi_wp2_with fail
 refine⟨trivial,?_⟩;obtain⟨W0,hW0⟩:∃W0,(((w.alloc (.cells #[.slice A H.length c] 24)).alloc (.cells #[.int .i64 level] 3)).alloc (.cells #[.int .i64 0,.slice none 0 0,.slice none 0 0,.slice none 0 0] 36))=W0:=⟨_,rfl⟩;rw[hW0];have hs0:W0.heap.size=w.heap.size+3:=(by rw[←hW0];simp);have hBW:Below w.heap.size w W0:=(by rw[←hW0];exact(((Below.refl _ w).alloc (Nat.le_refl _) _).alloc (by simp) _).alloc (by simp;omega) _);have k2:Blk W0 (w.heap.size+1+1) 36 #[.int .i64 0,.slice none 0 0,.slice none 0 0,.slice none 0 0]:=by
  rw[←hW0];have:=Blk.new ((w.alloc (.cells #[.slice A H.length c] 24)).alloc (.cells #[.int .i64 level] 3)) 36 #[.int .i64 0,.slice none 0 0,.slice none 0 0,.slice none 0 0];simpa using this
 have hTW:av W0 (Old W0) (.slice A H.length c) H:=av.keep h (Agree.below hBW fun b h=>h) (fun b hb=>Nat.lt_of_lt_of_le hb hBW.size);refine(callsIn_wide.2 (pR A c H level none 0 [] W0 hTW hn (SlR.nil _ _ _ _ _ _) hr r9 (hTB.below hBW))).mono ?_;rintro e w1 ⟨g,hg,rfl,hbk,hb1⟩;dsimp only;have h64:H.length≤64:=(by have:=((aD H).1 (bJ hr)).1;omega);have hs1:=hb1.size;have qW:=hBW.trans (hb1.mono hBW.size);have kx:=k2.below hb1 k2.lt;have hgl:=hbk.lt;have hT1:=hTB.below qW;obtain⟨W1,hW1⟩:∃W1,w1.alloc (.cells #[.int .i64 0,.slice none 0 0] 77)=W1:=⟨_,rfl⟩;have hg0:w.heap.size≤g:=(by omega);have hne1:w.heap.size+1+1≠w1.heap.size:=(by have:=k2.lt;omega);have hne2:g≠w1.heap.size:=(by omega);have OY:w.heap.size+1+1≠g:=(by omega);have ky:=kx.au hW1;have kr:=hbk.au hW1;have kg:=Blk.newEq hW1;have hbz:=ah qW hW1 qW.size;have z0:=Blk.n0 kg;have z1:=Blk.n1 kg;have v0:=kg.frozen 0;have v1:=kg.frozen 1;generalize bH H level []=E at*;clear hW0 hTW hBW h hb1 kx hbk k2
 gi_wp2
 refine⟨trivial,?_⟩;have wD:w.heap.size≤w1.heap.size:=(by omega);obtain⟨W2,hW2⟩:∃W2,((W1.setCell ⟨w1.heap.size,0,none⟩ (.int .i64 (H.length:Nat))).setCell ⟨w1.heap.size,1,none⟩ (.slice (some ⟨g,0,none⟩) H.length H.length))=W2:=⟨_,rfl⟩;have m2:Blk W2 (w.heap.size+1+1) 36 #[.int .i64 0,.slice none 0 0,.slice none 0 0,.slice none 0 0]:=(by rw[←hW2];exact(ky.far (p:=⟨w1.heap.size,0,none⟩) hne1 _).far (p:=⟨w1.heap.size,1,none⟩) hne1 _);have mr:Blk W2 g 172 (bn H.length E):=(by rw[←hW2];exact(kr.far (p:=⟨w1.heap.size,0,none⟩) hne2 _).far (p:=⟨w1.heap.size,1,none⟩) hne2 _);have hb2:Below w.heap.size w W2:=(by rw[←hW2];exact(hbz.setCell (p:=⟨w1.heap.size,0,none⟩) (by exact wD) _).setCell (p:=⟨w1.heap.size,1,none⟩) (by exact wD) _);rw[hW2];have hgr:=GrS.bE (K:=Old W2) mr mr.lt h64;have hfind:=pU H.length (some ⟨g,0,none⟩) H.length E W2 hgr (hTB.below hb2);rw[hL.out]at hfind;refine(callsIn_wide.2 hfind).mono ?_;rintro e w3 ⟨v,rfl,hown,hb3⟩;dsimp only;have hs3:=hb3.size;have uK:=hb2.trans (hb3.mono hb2.size);have m3:=m2.below hb3 m2.lt;have hs2:=hb2.size;obtain⟨Av,cv,rfl⟩:=hown.form;rw[aF];replace hown:=hide hown;have OZ:=m2.lt;obtain⟨W3,hW3⟩:∃W3,w3.alloc (.cells #[.int .i64 0,.int .i64 0,.int .i64 0,.slice Av L.length cv] 125)=W3:=⟨_,rfl⟩;have m4:=m3.au hW3;have kN:=Blk.newEq hW3;have hb4:=ah uK hW3 uK.size;have x0:=Blk.n0 m4;have x1:=Blk.n1 m4;have x2:=Blk.n2 m4;have x3:=Blk.n3 m4;have y0:=m4.frozen 0;have y1:=m4.frozen 1;have y2:=m4.frozen 2;have y3:=m4.frozen 3;clear hW2 hfind z0 z1 v0 v1 hgr ky kr kg m2 mr m3 hL
 gi_wp2
 have hw3:w.heap.size≤w3.heap.size:=(by omega);have Me:w3.heap.size≠w.heap.size+1+1:=(by omega);have kF:=(((m4.aJ 0 (.int .i64 2)).aJ 1 (.slice none 0 0)).aJ 2 (.slice (some ⟨w3.heap.size,0,none⟩) 1 1)).aJ 3 (.slice none 0 0);have kM:=(((kN.far (p:=⟨w.heap.size+1+1,0,none⟩) Me (.int .i64 2)).far (p:=⟨w.heap.size+1+1,1,none⟩) Me (.slice none 0 0)).far (p:=⟨w.heap.size+1+1,2,none⟩) Me (.slice (some ⟨w3.heap.size,0,none⟩) 1 1)).far (p:=⟨w.heap.size+1+1,3,none⟩) Me (.slice none 0 0);have r0:=kF.cell 0;have r1:=kF.cell 1;have r2:=kF.cell 2;have r3:=kF.cell 3;simp at r0 r1 r2 r3;have oo:=hown.out;unfold aV at oo;have oq:w3.ownsRow W2.heap.size 3 1 (.slice Av L.length cv) (aB L).length ((aB L).map Go.Inq.encI).flatten:=(by rw[aF]at oo⊢;exact oo);have o1:W3.ownsRow W2.heap.size 3 1 (.slice Av L.length cv) (aB L).length ((aB L).map Go.Inq.encI).flatten:=(by rw[←hW3];exact oq.alloc _);have hno:∀g',(Value.slice Av L.length cv).ownBlock=some g'→g'=w.heap.size+1+1→False:=fun g' e1 e2=>(by have:=(o1.lt _ e1).1;omega);have o2:=(((o1.kept (aI (w.heap.size+1+1) 0 (.int .i64 2)) (.inr fun e=>hno _ e rfl)).kept (aI (w.heap.size+1+1) 1 (.slice none 0 0)) (.inr fun e=>hno _ e rfl)).kept (aI (w.heap.size+1+1) 2 (.slice (some ⟨w3.heap.size,0,none⟩) 1 1)) (.inr fun e=>hno _ e rfl)).kept (aI (w.heap.size+1+1) 3 (.slice none 0 0)) (.inr fun e=>hno _ e rfl);refine⟨.agg #[.int .i64 2,.slice none 0 0,.slice (some ⟨w3.heap.size,0,none⟩) 1 1,.slice none 0 0],?_,⟨_,_,_,rfl,aV.nil _ _,⟨w3.heap.size,_,hw3,rfl,kM,iw o2 hs2⟩,mo.nil _ _,?_⟩⟩
 ·simp[results,Tryz.f48,go_sem,r0,r1,r2,r3]
 ·exact(((hb4.setCell (p:=⟨w.heap.size+1+1,0,none⟩) (by simp;omega) _).setCell (p:=⟨w.heap.size+1+1,1,none⟩) (by simp;omega) _).setCell (p:=⟨w.heap.size+1+1,2,none⟩) (by simp;omega) _).setCell (p:=⟨w.heap.size+1+1,3,none⟩) (by simp;omega) _
end Go.Proofs.YtfhnamomiaekdaaGreatDoor
namespace Go.Inq
def nC(n:Nat)(E:ak)(l:List Nat)(v:Nat):Bool:= !l.contains v&&(List.range n).all fun x=> !E x v||l.contains x
def wE(p:Nat→Bool)(n:Nat):Nat→Int
 |0=> -1
 |d+1=>if p (n-(d+1))then((n-(d+1):Nat):Int)else wE p n d
theorem yX(p:Nat→Bool)(n:Nat):∀d,d≤n→wE p n d=match ((List.range n).drop (n-d)).find? p with|some v=>(v:Int)|none=> -1
 |0,_=>by rw[Nat.sub_zero,List.drop_of_length_le (by simp)];rfl
 |d+1,h=>by
  have hd:(List.range n).drop (n-(d+1))=(n-(d+1))::(List.range n).drop (n-d):=by
   rw[List.drop_eq_getElem_cons (by simp;omega)];simp only[List.getElem_range];rw[show n-(d+1)+1=n-d by omega]
  rw[hd,List.find?_cons];unfold wE;rw[yX p n d (by omega)];cases p (n-(d+1))<;>simp
theorem Cj(n:Nat)(E:ak)(l:List Nat):wE (nC n E l) n n=match j5 n E l with|some v=>(v:Int)|none=> -1:=by
 rw[yX _ _ n (Nat.le_refl _),Nat.sub_self,List.drop_zero];rfl
theorem Ht{n:Nat}{E:ak}{l:List Nat}{v:Nat}(h:j5 n E l=some v):wE (nC n E l) n n=v:=by rw[Cj,h]
theorem Hu{n:Nat}{E:ak}{l:List Nat}(h:j5 n E l=none):wE (nC n E l) n n= -1:=by rw[Cj,h]
theorem Km{n:Nat}{E:ak}{l:List Nat}{v:Nat}(h:j5 n E l=some v):v<n:=by
 have:=List.mem_of_find?_eq_some h;simpa using this
def kV(n:Nat)(l:List Nat):Nat:=aS (fun v=>l.contains v) n
theorem Hw{n:Nat}{l:List Nat}{v:Nat}(h:v<n):hasB (kV n l) (v:Int)=l.contains v:=by
 unfold kV;rw[Jp,aK];simp[h]
theorem Hy{n:Nat}{E:ak}{l:List Nat}{v:Nat}(hn:n≤64):Gf (aS (dJ E v) n) (kV n l)=(List.range n).all fun x=> !E x v||l.contains x:=by
 have h1:aS (dJ E v) n<18446744073709551616:=Nat.lt_of_lt_of_le (jG _ _) (fO hn);have h2:kV n l<18446744073709551616:=Nat.lt_of_lt_of_le (jG _ _) (fO hn);rw[Bool.eq_iff_iff,Bj h1 h2,List.all_eq_true];unfold kV dJ;constructor
 ·intro h x hx;have hxn:x<n:=(by simpa using hx);have:=h x;rw[aK,aK]at this;simp only[hxn,decide_true,Bool.true_and]at this;cases hE:E x v
  ·simp
  ·simpa using this hE
 ·intro h x hx;rw[aK]at hx⊢;rw[Bool.and_eq_true]at hx⊢;have hxn:x<n:=(by simpa using hx.1);have:=h x (by simpa using hxn);rw[hx.2]at this;exact⟨hx.1,by simpa using this⟩
theorem Eo{n:Nat}{l:List Nat}{v:Nat}(h:v<n)(hn:n≤64):mU (kV n l) (v:Int)=kV n (l++[v]):=by
 unfold kV;rw[rW h hn];refine bZ fun i hi=> ?_;rw[Bool.eq_iff_iff];simp
theorem Hz(n:Nat):kV n []=0:=by
 unfold kV;refine Nat.eq_of_testBit_eq fun i=> ?_;rw[aK];simp
theorem Kn{n:Nat}{l:List Nat}(hn:n≤64):kV n l<18446744073709551616:=Nat.lt_of_lt_of_le (jG _ _) (fO hn)
theorem qX{n:Nat}{E:ak}{k:Nat}(h:bL n E k=none):∀m,k≤m→bL n E m=none
 |0,hm=>by have e:k=0:=Nat.le_zero.1 hm;rw[e]at h;exact h
 |m+1,hm=>by
  by_cases e:k=m+1
  ·subst e;exact h
  ·unfold bL;rw[qX h m (by omega)]
theorem zV{n:Nat}{E:ak}{k v:Nat}{l:List Nat}(h:bL n E k=some l)(hv:j5 n E l=some v):bL n E (k+1)=some (l++[v]):=by
 unfold bL;rw[h];simp only[hv]
theorem Ck{n:Nat}{E:ak}{k:Nat}{l:List Nat}(hk:k<n)(h:bL n E k=some l)(hv:j5 n E l=none):fZ n E=none:=by
 refine qX (k:=k+1) ?_ n (by omega);unfold bL;rw[h];simp only[hv]
end Go.Inq
namespace Go.Proofs.YtfhnamomiaekdaaGreatDoor
open Go.RowKit Go.Inq
set_option maxHeartbeats 4000000
attribute [local go_sem↓] Go.wp_at_zero Go.wp_at_succ
def pW(w:World)(o:Option (List Nat))(e:Ending)(w':World):Prop:=
 (match o with
  |some l=>∃v,e= .returned (.tuple #[v,.bool true])∧aV w' w.heap.size v (aB l)
  |none=>e= .returned (.tuple #[.slice none 0 0,.bool false]))∧Below w.heap.size w w'
theorem pW.yes{w w':World}{l:List Nat}{v:Value}(h:aV w' w.heap.size v (aB l))(hb:Below w.heap.size w w'):pW w (some l) (.returned (.tuple #[v,.bool true])) w':=⟨⟨v,rfl,h⟩,hb⟩
theorem pW.no{w w':World}(hb:Below w.heap.size w w'):pW w none (.returned (.tuple #[.slice none 0 0,.bool false])) w':=⟨rfl,hb⟩
set_option maxRecDepth 100000 in
theorem Cm(n:Nat)(A:Option Addr)(c:Nat)(E:ak)(K:Nat→Prop)(w:World)(h:GrS w K n A c E)(hK:∀b,K b→b<w.heap.size)(hT:gL w):
 Calls Tryz.prog 74 #[.agg #[.int .i64 n,.slice A n c]] w (pW w (fZ n E)):=by
 obtain⟨ii,hii,hi1,hi2,hi3⟩:=info_parts gD;obtain⟨W0,hW0⟩:∃W0,w.alloc (.cells #[.int .i64 n,.slice A n c] 77)=W0:=⟨_,rfl⟩;have hB:=ah (Below.refl w.heap.size w) hW0 (Nat.le_refl _);have k0:=Blk.newEq hW0;have hs0:=ay hW0;have hg:=hide (h.keep (Agree.below hB hK) (fun b hb=>hb));have hKW:Hid (∀b,K b→b<W0.heap.size):=hide fun b hb=>(by have:=hK b hb;omega);have hn:=h.n64;replace hK:=hide hK;have hT0:=hT.below hB;clear h;have c0:=Blk.n0 k0;have c1:=Blk.n1 k0;replace hs0:=hide hs0;go_enter Tryz.func74,Tryz.ntmps74;go_wp2_with fail;clear hW0 c0 c1;refine(vR n A c E K _ hg.out hKW.out hT0).mono ?_;rintro e w1 ⟨g,hgs,rfl,kR,hb1⟩;have hgl:=kR.lt;replace k0:=k0.below hb1 k0.lt;have hb2:=hB.trans (hb1.mono hB.size);obtain⟨W3,hW3⟩:∃W3,w1.alloc (.cells #[.int .i64 n,.slice (some ⟨g,0,none⟩) n n] 77)=W3:=⟨_,rfl⟩;have k3:=Blk.newEq hW3;have hs3:=ay hW3;replace k0:=k0.au hW3;replace kR:=kR.au hW3;have hb5:=ah hb2 hW3 hb2.size;have hwg:w.heap.size<g:=(by have:=hs0.out;omega);have hww:w.heap.size<w1.heap.size:=(by omega);clear hb1 hB hKW hs0 hg hT0 hb2;have hmk:∀W:World,(Instr.makeSlice 33 (.int .i64 0) (.int .i64 (n:Int))).run Tryz.prog W= .ok (.slice (some ⟨W.heap.size,0,none⟩) 0 n) (W.alloc (.cells (madeCells #[.int .i64 0] n) 3)):=fun W=>by
  have:=run_make (P:=Tryz.prog) W 33 3 ii (.int .i64 0) Tryz.underlying33 hii hi1 .i64 .i64 0 (n:Int) (Int.le_refl _) (by omega) (by rw[hi3];omega) (by omega);rw[hi2]at this;simp only[Int.toNat_zero,Int.toNat_natCast,Nat.mul_one]at this;exact this
 have Ko:=hide (World.ownsRow_made (base:=w.heap.size) (e:=3) (size:=1) W3 (madeCells #[.int .i64 0] n) n (by omega) (by simp[maxLen];omega) (by simp[size_madeCells]));obtain⟨W4,hW4⟩:∃W4,W3.alloc (.cells (madeCells #[.int .i64 0] n) 3)=W4:=⟨_,rfl⟩;rw[hW4]at Ko;have c0:=Blk.n0 k0;replace k0:=k0.au hW4;replace k3:=k3.au hW4;replace kR:=kR.au hW4;have hb6:=ah hb5 hW4 (by omega);have c0n:=Blk.n0 k0;have hz:=hide (Hz n);have h3n:w1.heap.size<W3.heap.size:=(by omega);have hgK:g<W3.heap.size:=(by omega);have Qr:W4.heap.size=W3.heap.size+1:=ay hW4;replace hs3:=hide hs3;go_wp2_with fail;clear hmk c0 c0n hb5;go_loopw [6,7,22] (fun s6 s7 s22 wr=>∃(k:Nat) (l:List Nat),k≤n∧s22= .int .i64 k∧s7= .int .u64 (kV n l:Nat)∧Hid (bL n E k=some l)∧aV wr w.heap.size s6 (aB l)∧Below w.heap.size w wr∧Blk wr w.heap.size 77 #[.int .i64 n,.slice A n c]∧Blk wr w1.heap.size 77 #[.int .i64 n,.slice (some ⟨g,0,none⟩) n n]∧Blk wr g 172 (bn n (dJ E))∧Hid (∀b,s6.ownBlock=some b→W3.heap.size≤b)∧W4.heap.size≤wr.heap.size) (fun _ _ s22 _=>n-(intOf s22).toNat);case atStart=>exact⟨0,[],Nat.zero_le _,by go_num,by rw[hz.out];rfl,hide rfl,Ko.out,hb6,k0,k3,kR,hide (fun b hb=>by simp[Value.ownBlock]at hb;omega),Nat.le_refl _⟩
 case round=>
  clear Ko hb6 k0 k3 kR hW4 hW3;obtain⟨Wo,rfl⟩:∃Wo,Wo=wr:=⟨_,rfl⟩;obtain⟨k,l,hk,rfl,rfl,hO,hown,hb,k0,k3,kR,jV,LK⟩:=hrel;have Dz:(0:Int)≤(k:Int):=Int.natCast_nonneg _;by_cases hlt:k<n
  ·have DC:(k:Int)<(n:Int):=(by omega);have c0:=Blk.n0 k0;have d1:=Blk.n1 k3;have hsb:=hide (Kn (l:=l) hn);have hn1:(1:Int)≤(n:Int):=(by omega);go_wp2_with fail
   go_loop [8,9] (fun s8 s9=>∃d:Nat,d≤n∧s9= .int .i64 ((n:Int)-1-d)∧s8= .int .i64 (wE (nC n E l) n d)) (fun _ s9=>((intOf s9)+1).toNat)
   case atStart=>exact⟨0,Nat.zero_le _,by simp,rfl⟩
   case round=>
    obtain⟨d,hd,rfl,rfl⟩:=hrel;by_cases hdn:d<n
    ·obtain⟨v,hv⟩:∃v,v=n-(d+1):=⟨_,rfl⟩;have hvi:((n:Int)-1-d)=(v:Int):=(by omega);rw[hvi];have hvn:v<n:=(by omega);have hv0:(0:Int)≤(v:Int):=Int.natCast_nonneg _;have hv1:(v:Int)<(n:Int):=(by omega);have r0:=kR.cell v;rw[mW hvn]at r0;have h64:=hide (dS (p:=dJ E v) hn);have hhas:=hide (Hw (l:=l) hvn);have hsub:=hide (Hy (E:=E) (l:=l) (v:=v) hn);have hlow:Hid (wE (nC n E l) n (d+1)=if nC n E l v then(v:Int)else wE (nC n E l) n d):=hide (by show(if nC n E l (n-(d+1))then _ else _)=_;rw[←hv]);have hfr:Hid (nC n E l v=(!l.contains v&&(List.range n).all fun x=> !E x v||l.contains x)):=hide rfl;have Rz:decide ((v:Int)≥0)=true:=(by simp);generalize wE (nC n E l) n d=low at*;generalize hl':wE (nC n E l) n (d+1)=NK at*;replace hl':=hide hl';generalize kV n l=S at*;generalize aS (dJ E v) n=R at*;clear hvi;have hnext:Hid (((v:Int)-1)=(n:Int)-1-((d+1:Nat):Int)):=hide (by omega);have hms:Hid (((n:Int)-1-((d+1:Nat):Int)+1).toNat<((v:Int)+1).toNat):=hide (by omega);clear hv;go_wp2_with fail;refine(Gj S hsb.out v _).mono ?_;rintro e w5 ⟨rfl,rfl⟩;rw[hhas.out];cases hc1:l.contains v with
     |true=>
      have hl2:NK=low:=(by rw[hlow.out,hfr.out,hc1];rfl);subst hl2;clear hc1;go_wp2
      go_round
      case rel=>exact⟨d+1,by omega,by rw[hnext.out],by rw[hl'.out]⟩
      case measure=>simp only[intOf];rw[hnext.out];exact hms.out
     |false=>
      replace hfr:=hfr.out;rw[hc1]at hfr;clear hc1;go_wp2_with fail;refine(yL R S h64.out hsb.out _).mono ?_;rintro e w5 ⟨rfl,rfl⟩;rw[hsub.out];cases hc2:(List.range n).all fun x=> !E x v||l.contains x with
      |true=>
       have hl2:NK=v:=(by rw[hlow.out,hfr,hc2];rfl);subst hl2;clear hc2 hfr;go_wp2
       go_round
       case rel=>exact⟨d+1,by omega,by rw[hnext.out],by rw[hl'.out]⟩
       case measure=>simp only[intOf];rw[hnext.out];exact hms.out
      |false=>
       have hl2:NK=low:=(by rw[hlow.out,hfr,hc2];rfl);subst hl2;clear hc2 hfr;go_wp2
       go_round
       case rel=>exact⟨d+1,by omega,by rw[hnext.out],by rw[hl'.out]⟩
       case measure=>simp only[intOf];rw[hnext.out];exact hms.out
    ·obtain rfl:d=n:=(by omega);have hvi:((d:Int)-1-(d:Int))= -1:=(by omega);rw[hvi];clear hvi;have uG:=hb.size;cases hnt:j5 d E l with
     |none=>
      have hf:=hide (Ck hlt hO.out hnt);rw[Hu hnt];clear hnt;go_wp2;exact bodyPost_ret (v:= .tuple #[.slice none 0 0,.bool false]) (by simp[results,Tryz.results74,go_sem]) rfl (by rw[hf.out];exact pW.no hb)
     |some v=>
      have hO2:=hide (zV hO.out hnt);have hvn:=Km hnt;rw[Ht hnt];have O4:=hide (Eo (l:=l) hvn hn);have hll:=fM hO.out;have hlb:l.length+1≤64:=(by omega);have hv0:(0:Int)≤(v:Int):=Int.natCast_nonneg _;obtain⟨Av,cv,rfl⟩:=hown.form;replace hown:=hide hown;have hsn:=hide (dX l v);replace hll:=hide hll;have hlen:=hide (aF l);have hol:=hide (fun b hb=>(hown.out.lt b hb).2);clear hnt;go_wp2_with (first|(go_at_call 134;refine(oV _ hsb.out v _).mono ?_;rintro e w5 ⟨rfl,rfl⟩)|(at_builtin;refine bI (enc:=Go.Inq.encI) rfl (.tmp 47) (.tmp 49) 33 rfl w.heap.size 3 ii _ 1 8 Tryz.underlying33 hii hi1 hi2 hi3 rfl (by decide) (.slice Av (aB l).length cv) (aB l) rfl hown.out (fun _=>rfl) (v:Int) _ rfl rfl fU (by rw[hlen.out];simp[maxLen];omega) (by rw[hlen.out];omega) uG w w.heap.size (Nat.le_refl _) hb ?_;intro v1 w6 hown1 hg1 hb1 oZ));have hk6:∀(t:TypeId) (cs:Array Value) (B:Nat),B<W3.heap.size→Blk Wo B t cs→Blk w6 B t cs:=fun t cs B hB hk=>(hk.alloc _).grown hg1 (fun e=>by have:=jV.out B e.symm;omega);have Qs:=hg1.size;simp only[World.size_alloc]at Qs;go_roundw;case rel=>exact⟨k+1,l++[v],by omega,by go_num,by rw[O4.out],hO2,by unfold aV;rw[hsn.out];exact hown1,hb1,hk6 _ _ _ (by omega) k0,hk6 _ _ _ h3n k3,hk6 _ _ _ hgK kR,hide fun b hb=>by
       rcases oZ with e|e
       ·rw[e]at hb;exact jV.out b hb
       ·rw[e]at hb;injection hb with hb;omega,by omega⟩
      case measure=>simp[intOf];omega
  ·obtain rfl:k=n:=(by omega);have hO2:Hid (fZ k E=some l):=hO;go_wp2;exact bodyPost_ret (v:= .tuple #[_,.bool true]) (by simp[results,Tryz.results74,go_sem];rfl) rfl (by rw[hO2.out];exact pW.yes hown hb)
end Go.Proofs.YtfhnamomiaekdaaGreatDoor
namespace Go.Proofs.YtfhnamomiaekdaaGreatDoor
open Go.RowKit Go.Inq Go.Shelf
set_option maxHeartbeats 8000000
attribute [local go_sem] Oper.semAt_some
attribute [local go_sem↓] Go.wp_at_zero Go.wp_at_succ
set_option maxRecDepth 100000 in
theorem Ep(A:Option Addr)(c:Nat)(H:List Txn)(level:Int)(w:World)(h:av w (Old w) (.slice A H.length c) H)(hn:aC H)(hr:dn H []=true)(r9:level=0∨level=1)(hne:dP H.length (bH H level [])=[])(hp:bN H=[])(O:List Nat)(hO:fZ H.length (bH H level [])=some O)(hTB:gL w):
 Calls Tryz.prog 48 #[.agg #[.slice A H.length c],.int .i64 level] w (pV w (bq H level)):=by
 refine(callsIn_wide (n:=3)).1 ?_;have hro:Fence.wide.round=none:=rfl;have hsc:bq H level=⟨1,O,none,[]⟩:=by
  unfold bq;have hl:(decide (level=0)||decide (level=1))=true:=(by rcases r9 with e|e<;>simp[e]);rw[hr,hl,if_pos (show(true&&true)=true from rfl),if_pos hne,if_pos hp,hO];rfl
 rw[hsc];replace hO:=hide hO;replace hne:=hide hne;replace hp:=hide hp;clear hsc;refine callsIn_of_wp_marks Tryz.func48 rfl trivial ?_ hro;simp only[Tryz.ntmps48,List.size_toArray,List.length_cons,List.length_nil,Nat.reduceAdd,Nat.reduceSub,Array.replicate_succ,Array.replicate_zero,List.push_toArray,List.append_toArray,List.nil_append,List.cons_append]
 gi_wp2_with fail
 refine⟨trivial,?_⟩;obtain⟨W0,hW0⟩:∃W0,(((w.alloc (.cells #[.slice A H.length c] 24)).alloc (.cells #[.int .i64 level] 3)).alloc (.cells #[.int .i64 0,.slice none 0 0,.slice none 0 0,.slice none 0 0] 36))=W0:=⟨_,rfl⟩;rw[hW0];have hs0:W0.heap.size=w.heap.size+3:=(by rw[←hW0];simp);have hBW:Below w.heap.size w W0:=(by rw[←hW0];exact(((Below.refl _ w).alloc (Nat.le_refl _) _).alloc (by simp) _).alloc (by simp;omega) _);have k2:Blk W0 (w.heap.size+1+1) 36 #[.int .i64 0,.slice none 0 0,.slice none 0 0,.slice none 0 0]:=by
  rw[←hW0];have:=Blk.new ((w.alloc (.cells #[.slice A H.length c] 24)).alloc (.cells #[.int .i64 level] 3)) 36 #[.int .i64 0,.slice none 0 0,.slice none 0 0,.slice none 0 0];simpa using this
 have k0:Blk W0 w.heap.size 24 #[.slice A H.length c]:=(by rw[←hW0];exact((Blk.new _ _ _).alloc _).alloc _);have hTW:av W0 (Old W0) (.slice A H.length c) H:=av.keep h (Agree.below hBW fun b h=>h) (fun b hb=>Nat.lt_of_lt_of_le hb hBW.size);refine(callsIn_wide.2 (pR A c H level none 0 [] W0 hTW hn (SlR.nil _ _ _ _ _ _) hr r9 (hTB.below hBW))).mono ?_;rintro e w1 ⟨g,hg,rfl,hbk,hb1⟩;dsimp only;have h64:H.length≤64:=(by have:=((aD H).1 (bJ hr)).1;omega);have hs1:=hb1.size;have qW:=hBW.trans (hb1.mono hBW.size);have kx:=k2.below hb1 k2.lt;have kz:=k0.below hb1 k0.lt;have hgl:=hbk.lt;have hT1:=hTB.below qW;obtain⟨W1,hW1⟩:∃W1,w1.alloc (.cells #[.int .i64 0,.slice none 0 0] 77)=W1:=⟨_,rfl⟩;have hg0:w.heap.size≤g:=(by omega);have hne1:w.heap.size+1+1≠w1.heap.size:=(by have:=k2.lt;omega);have hne2:g≠w1.heap.size:=(by omega);have OY:w.heap.size+1+1≠g:=(by omega);have ky:=kx.au hW1;have kh:=kz.au hW1;have hne0:w.heap.size≠w1.heap.size:=(by have:=k2.lt;omega);have kr:=hbk.au hW1;have kg:=Blk.newEq hW1;have hbz:=ah qW hW1 qW.size;have z0:=Blk.n0 kg;have z1:=Blk.n1 kg;have v0:=kg.frozen 0;have v1:=kg.frozen 1;generalize bH H level []=E at*;clear hW0 hTW hBW hb1 kx hbk k2
 gi_wp2
 refine⟨trivial,?_⟩;have wD:w.heap.size≤w1.heap.size:=(by omega);obtain⟨W2,hW2⟩:∃W2,((W1.setCell ⟨w1.heap.size,0,none⟩ (.int .i64 (H.length:Nat))).setCell ⟨w1.heap.size,1,none⟩ (.slice (some ⟨g,0,none⟩) H.length H.length))=W2:=⟨_,rfl⟩;have m2:Blk W2 (w.heap.size+1+1) 36 #[.int .i64 0,.slice none 0 0,.slice none 0 0,.slice none 0 0]:=(by rw[←hW2];exact(ky.far (p:=⟨w1.heap.size,0,none⟩) hne1 _).far (p:=⟨w1.heap.size,1,none⟩) hne1 _);have mh:Blk W2 w.heap.size 24 #[.slice A H.length c]:=(by rw[←hW2];exact(kh.far (p:=⟨w1.heap.size,0,none⟩) hne0 _).far (p:=⟨w1.heap.size,1,none⟩) hne0 _);have mg:Blk W2 w1.heap.size 77 #[.int .i64 (H.length:Nat),.slice (some ⟨g,0,none⟩) H.length H.length]:=(by rw[←hW2];exact(kg.aJ 0 _).aJ 1 _);have mr:Blk W2 g 172 (bn H.length E):=(by rw[←hW2];exact(kr.far (p:=⟨w1.heap.size,0,none⟩) hne2 _).far (p:=⟨w1.heap.size,1,none⟩) hne2 _);have hb2:Below w.heap.size w W2:=(by rw[←hW2];exact(hbz.setCell (p:=⟨w1.heap.size,0,none⟩) (by exact wD) _).setCell (p:=⟨w1.heap.size,1,none⟩) (by exact wD) _);rw[hW2];have hgr:=GrS.bE (K:=Old W2) mr mr.lt h64;have hfind:=pU H.length (some ⟨g,0,none⟩) H.length E W2 hgr (hTB.below hb2);rw[hne.out]at hfind;refine(callsIn_wide.2 hfind).mono ?_;rintro e w3 ⟨v,rfl,hown,hb3⟩;dsimp only;have hs3:=hb3.size;have uK:=hb2.trans (hb3.mono hb2.size);have m3:=m2.below hb3 m2.lt;have hs2:=hb2.size;obtain⟨Av,cv,rfl⟩:=hown.form;have m3h:=mh.below hb3 mh.lt;have m3g:=mg.below hb3 mg.lt;have m3r:=mr.below hb3 mr.lt;have c0:=Blk.n0 m3h;have OZ:=m2.lt;clear hW2 hfind z0 z1 v0 v1 hgr ky kr kg m2 mr mh mg kh kz hown
 gi_wp2
 refine⟨trivial,?_⟩;have hT3:av w3 (Old w3) (.slice A H.length c) H:=av.keep h (Agree.below uK fun b h=>h) (fun b hb=>Nat.lt_of_lt_of_le hb uK.size);have hpr:=vN A c H w3 hT3 hn (bJ hr);rw[hp.out]at hpr;refine(callsIn_wide.2 hpr).mono ?_;rintro e w4 ⟨v4,rfl,wG,hb4⟩;obtain⟨A4,c4,rfl⟩:=wG.form;dsimp only;have hs4:=hb4.size;have wH:=uK.trans (hb4.mono uK.size);have m4:=m3.below hb4 m3.lt;have m4g:=m3g.below hb4 m3g.lt;have m4r:=m3r.below hb4 m3r.lt;have z0:=m4g.cell 0;have z1:=m4g.cell 1;simp at z0 z1;clear hpr hT3 c0 m3h m3g m3r m3 wG
 gi_wp2
 refine⟨trivial,?_⟩;have zW:=Cm H.length (some ⟨g,0,none⟩) H.length E (Old w4) w4 (GrS.bE m4r m4r.lt h64) (fun b hb=>hb) (hTB.below wH);rw[hO.out]at zW;refine(callsIn_wide.2 zW).mono ?_;rintro e w5 ⟨⟨v5,rfl,hown5⟩,hb5⟩;dsimp only;have hs5:=hb5.size;have Qt:=wH.trans (hb5.mono wH.size);have m5:=m4.below hb5 m4.lt;have x0:=Blk.n0 m5;have x1:=Blk.n1 m5;have x2:=Blk.n2 m5;have x3:=Blk.n3 m5;have y0:=m5.frozen 0;have y1:=m5.frozen 1;have y2:=m5.frozen 2;have y3:=m5.frozen 3;obtain⟨Av5,cv5,rfl⟩:=hown5.form;replace hown5:=hide hown5;have hm5:=m5.lt;clear zW m4g m4r z0 z1 m4
 gi_wp2
 have kF:=(((m5.aJ 0 (.int .i64 1)).aJ 1 (.slice Av5 (aB O).length cv5)).aJ 2 (.slice none 0 0)).aJ 3 (.slice none 0 0);have r0:=kF.cell 0;have r1:=kF.cell 1;have r2:=kF.cell 2;have r3:=kF.cell 3;simp at r0 r1 r2 r3;have o1:w5.ownsRow w4.heap.size 3 1 (.slice Av5 (aB O).length cv5) (aB O).length ((aB O).map Go.Inq.encI).flatten:=hown5.out;have hno:∀g',(Value.slice Av5 (aB O).length cv5).ownBlock=some g'→g'=w.heap.size+1+1→False:=fun g' e1 e2=>(by have:=(o1.lt _ e1).1;omega);have o2:=(((o1.kept (aI (w.heap.size+1+1) 0 (.int .i64 1)) (.inr fun e=>hno _ e rfl)).kept (aI (w.heap.size+1+1) 1 (.slice Av5 (aB O).length cv5)) (.inr fun e=>hno _ e rfl)).kept (aI (w.heap.size+1+1) 2 (.slice none 0 0)) (.inr fun e=>hno _ e rfl)).kept (aI (w.heap.size+1+1) 3 (.slice none 0 0)) (.inr fun e=>hno _ e rfl);refine⟨.agg #[.int .i64 1,.slice Av5 (aB O).length cv5,.slice none 0 0,.slice none 0 0],?_,⟨_,_,_,rfl,iw o2 wH.size,rfl,mo.nil _ _,?_⟩⟩
 ·simp[results,Tryz.f48,go_sem,r0,r1,r2,r3]
 ·exact(((Qt.setCell (p:=⟨w.heap.size+1+1,0,none⟩) (by simp;omega) _).setCell (p:=⟨w.heap.size+1+1,1,none⟩) (by simp;omega) _).setCell (p:=⟨w.heap.size+1+1,2,none⟩) (by simp;omega) _).setCell (p:=⟨w.heap.size+1+1,3,none⟩) (by simp;omega) _
end Go.Proofs.YtfhnamomiaekdaaGreatDoor
namespace Go.Proofs.YtfhnamomiaekdaaGreatDoor
open Go.RowKit Go.Inq
theorem Mf{t:Array Value}{n:Nat}(h:t.size=n):t=((List.range n).map fun i=>t.getD i undef).toArray:=by
 subst h;refine Array.ext (by simp) fun i h1 h2=> ?_;simp[Array.getD,h1]
set_option maxRecDepth 100000 in
theorem zX(t:Array Value)(h:t.size=85):∃u:Nat→Value,(∀i,t.getD i undef=u i)∧t=#[u 0,u 1,u 2,u 3,u 4,u 5,u 6,u 7,u 8,u 9,u 10,u 11,u 12,u 13,u 14,u 15,u 16,u 17,u 18,u 19,u 20,u 21,u 22,u 23,u 24,u 25,u 26,u 27,u 28,u 29,u 30,u 31,u 32,u 33,u 34,u 35,u 36,u 37,u 38,u 39,u 40,u 41,u 42,u 43,u 44,u 45,u 46,u 47,u 48,u 49,u 50,u 51,u 52,u 53,u 54,u 55,u 56,u 57,u 58,u 59,u 60,u 61,u 62,u 63,u 64,u 65,u 66,u 67,u 68,u 69,u 70,u 71,u 72,u 73,u 74,u 75,u 76,u 77,u 78,u 79,u 80,u 81,u 82,u 83,u 84]:=
 ⟨fun i=>t.getD i undef,fun _=>rfl,(Mf h).trans rfl⟩
structure NM(f0 f1 f2 f3 f4 f11 f48 f49 f50:Value)(t:Array Value):Prop where
 size:t.size=85
 s0:t.getD 0 undef=f0
 s1:t.getD 1 undef=f1
 s2:t.getD 2 undef=f2
 s3:t.getD 3 undef=f3
 s4:t.getD 4 undef=f4
 s11:t.getD 11 undef=f11
 s48:t.getD 48 undef=f48
 s49:t.getD 49 undef=f49
 s50:t.getD 50 undef=f50
theorem NM.open{f0 f1 f2 f3 f4 f11 f48 f49 f50:Value}{t:Array Value}(h:NM f0 f1 f2 f3 f4 f11 f48 f49 f50 t):∃u:Nat→Value,t=#[f0,f1,f2,f3,f4,u 5,u 6,u 7,u 8,u 9,u 10,f11,u 12,u 13,u 14,u 15,u 16,u 17,u 18,u 19,u 20,u 21,u 22,u 23,u 24,u 25,u 26,u 27,u 28,u 29,u 30,u 31,u 32,u 33,u 34,u 35,u 36,u 37,u 38,u 39,u 40,u 41,u 42,u 43,u 44,u 45,u 46,u 47,f48,f49,f50,u 51,u 52,u 53,u 54,u 55,u 56,u 57,u 58,u 59,u 60,u 61,u 62,u 63,u 64,u 65,u 66,u 67,u 68,u 69,u 70,u 71,u 72,u 73,u 74,u 75,u 76,u 77,u 78,u 79,u 80,u 81,u 82,u 83,u 84]:=by
 obtain⟨u,hu,ht⟩:=zX t h.size;refine⟨u,?_⟩;rw[←h.s0,←h.s1,←h.s2,←h.s3,←h.s4,←h.s11,←h.s48,←h.s49,←h.s50];simp only[hu];exact ht
structure Kq(f0 f1 f2 f3 f4 f11 f13 f48 f49 f50 f62 f63 f64:Value)(t:Array Value):Prop where
 size:t.size=85
 s0:t.getD 0 undef=f0
 s1:t.getD 1 undef=f1
 s2:t.getD 2 undef=f2
 s3:t.getD 3 undef=f3
 s4:t.getD 4 undef=f4
 s11:t.getD 11 undef=f11
 s13:t.getD 13 undef=f13
 s48:t.getD 48 undef=f48
 s49:t.getD 49 undef=f49
 s50:t.getD 50 undef=f50
 s62:t.getD 62 undef=f62
 s63:t.getD 63 undef=f63
 s64:t.getD 64 undef=f64
theorem Kq.open{f0 f1 f2 f3 f4 f11 f13 f48 f49 f50 f62 f63 f64:Value}{t:Array Value}(h:Kq f0 f1 f2 f3 f4 f11 f13 f48 f49 f50 f62 f63 f64 t):∃u:Nat→Value,t=#[f0,f1,f2,f3,f4,u 5,u 6,u 7,u 8,u 9,u 10,f11,u 12,f13,u 14,u 15,u 16,u 17,u 18,u 19,u 20,u 21,u 22,u 23,u 24,u 25,u 26,u 27,u 28,u 29,u 30,u 31,u 32,u 33,u 34,u 35,u 36,u 37,u 38,u 39,u 40,u 41,u 42,u 43,u 44,u 45,u 46,u 47,f48,f49,f50,u 51,u 52,u 53,u 54,u 55,u 56,u 57,u 58,u 59,u 60,u 61,f62,f63,f64,u 65,u 66,u 67,u 68,u 69,u 70,u 71,u 72,u 73,u 74,u 75,u 76,u 77,u 78,u 79,u 80,u 81,u 82,u 83,u 84]:=by
 obtain⟨u,hu,ht⟩:=zX t h.size;refine⟨u,?_⟩;rw[←h.s0,←h.s1,←h.s2,←h.s3,←h.s4,←h.s11,←h.s13,←h.s48,←h.s49,←h.s50,←h.s62,←h.s63,←h.s64];simp only[hu];exact ht
set_option maxHeartbeats 1000000
theorem Fy {α:Type} {size:Nat} {R:World→(Nat→Prop)→List Value→α→Prop} {w:World} {K:Nat→Prop} {g:Nat} {t:TypeId} {l:List α} (ys:List (List Value)) (h:Blk w g t ys.flatten.toArray) (hl:ys.length=l.length)
 (hR:∀(i:Nat) cs x,ys[i]?=some cs→l[i]?=some x→cs.length=size∧R w K cs x) (hK:K g) (hn:l.length≤1000000):SlR size R w K (.slice (some ⟨g,0,none⟩) l.length l.length) l:=by
 have hlen:∀(ys:List (List Value)),(∀cs∈ys,cs.length=size)→ys.flatten.length=ys.length*size:=by
  intro ys
  induction ys with
  |nil=>intro _;simp
  |cons y r ih=>
   intro hs;rw[List.flatten_cons,List.length_append,ih fun cs hc=>hs cs (List.mem_cons_of_mem _ hc),hs y (by simp),List.length_cons,Nat.add_mul];omega
 have h1:=hlen ys fun cs hc=>by
  obtain⟨i,hi⟩:=List.getElem?_of_mem hc;have hil:i<l.length:=by
   rcases Nat.lt_or_ge i ys.length with h|h
   ·omega
   ·rw[List.getElem?_eq_none h]at hi;cases hi
  exact(hR i cs l[i] hi (List.getElem?_eq_getElem hil)).1
 refine SlR.uS (base:=g) (e:=t) (n:=l.length) (xs:=ys.flatten) (ys:=ys) ⟨by rw[h1,hl],.inr ⟨g,l.length,_,rfl,Nat.le_refl _,h,Nat.le_refl _,by unfold maxLen;omega,by simp[h1,hl],List.take_of_length_le (by simp[h1,hl])⟩⟩ rfl rfl hl hR (fun g' hg=> ?_);have:g=g':=(by simpa[Value.ownBlock]using hg);exact this▸hK
end Go.Proofs.YtfhnamomiaekdaaGreatDoor
