/-
  Plain words of layers 19, 22: facts, and what they follow from; no program in sight.
-/
import Derived.Test.YtfhnamomiaekdaaGreatDoorY05
import Derived.Test.YtfhnamomiaekdaaGreatDoorY07
import Derived.Test.YtfhnamomiaekdaaGreatDoorY02
import Derived.Test.YtfhnamomiaekdaaGreatDoorY06
set_option linter.unusedVariables false
set_option linter.unusedSimpArgs false
namespace Go.Inq
structure Fct where
 c:Cho
 kind:Int
 i:Int
 j:Int
 cyc:List Int
deriving DecidableEq
def sF(L:List Fct)(f:Fct):Bool:=
 decide (0≤f.i)&&decide (f.i<(L.length:Int))&&decide (0≤f.j)&&decide (f.j<(L.length:Int))&&
  match L[f.i.toNat]?,L[f.j.toNat]? with
  |some x,some y=>decide (x.c.b=y.c.a)&&decide (x.c.key=y.c.key)&&decide (f.c=⟨x.c.key,x.c.a,y.c.b⟩)
  |_,_=>false
def nL(H:List Txn)(f:Fct):Bool:=
 decide (f.j=0)&&decide (f.i≠f.c.a)&&decide (0≤f.i)&&decide (f.i<(H.length:Int))&&
  ((aL H f.i.toNat).reads.any fun x=>decide (x.a=f.c.key)&&decide (x.b=f.c.b))&&aK H [] f.c.a f.i
def axB(H:List Txn)(f:Fct):Bool:=decide (f.i=0)&&decide (f.j=0)&&aK H [] f.c.a f.c.b
def Ck(H:List Txn)(level:Int)(L:List Fct)(f:Fct):Bool:=decide (f.i=0)&&decide (f.j=0)&&kD H level (L.map (·.c)++[bg f.c]) f.cyc
def nQ(H:List Txn)(level:Int)(L:List Fct)(f:Fct):Bool:=
 if f.kind=1 then axB H f else if f.kind=2 then sF L f else if f.kind=3 then nL H f else if f.kind=4 then Ck H level L f else false
def lQ(H:List Txn)(level:Int):Bool:=aC H&&(decide (level=0)||decide (level=1))
def aR(H:List Txn)(level:Int)(L:List Fct)(f:Fct):Bool:=
 lQ H level&&dB H f.c&&(decide (f.kind=4)||decide (f.cyc=[]))&&nQ H level L f
end Go.Inq
namespace Go.Proofs.YtfhnamomiaekdaaGreatDoor
open Go.RowKit Go.Inq
set_option maxHeartbeats 8000000
attribute [local go_sem↓] Go.wp_at_zero Go.wp_at_succ
set_option maxRecDepth 100000 in
theorem Ky(A:Option Addr)(c:Nat)(H:List Txn)(t key:Int)(bh bc:Nat)(w:World)(h:aF w (Old w) (.slice A H.length c) H)(hn:aB H)(hbh:w.cell? ⟨bh,0,none⟩=some (.slice A H.length c))(hbc:w.cell? ⟨bc,0,none⟩=some (.int .i64 key)):
 Calls Tryz.prog 179 #[.int .i64 t,.pointer (some ⟨bh,0,none⟩),.pointer (some ⟨bc,0,none⟩)] w fun e w'=>e= .returned (.bool (wrB H t key))∧Below w.heap.size w w':=by
 have hlen:=hn.1;have Oq:=hide (fun W (hW:Below w.heap.size w W)=>(hW.cell (p:=⟨bh,0,none⟩) (block_lt_of_cell hbh)).trans hbh);have hbc2:=hide (fun W (hW:Below w.heap.size w W)=>(hW.cell (p:=⟨bc,0,none⟩) (block_lt_of_cell hbc)).trans hbc);clear hbh hbc;by_cases h0:0≤t
 ·have h0b:decide (t≥0)=true:=(by simpa using h0);by_cases h1:t<(H.length:Int)
  ·obtain⟨m,rfl⟩:∃m:Nat,t=m:=⟨t.toNat,by omega⟩;have hm:m<H.length:=(by omega);have hr:=pJ (key:=key) hm;rw[aO hm]at hr;obtain⟨b,off,Aw,cw,Ar,cr,rfl,hbK,d0,d1,d2,hws,_⟩:=aF.at_ h hm;have hd1:=hide (fun W (hW:Below w.heap.size w W)=>(hW.cell (p:=⟨b,off+m*3+1,none⟩) hbK).trans d1);have hwl:H[m].writes.length≤maxLen:=(by have:=(hn.2 _ (List.getElem_mem hm)).1;unfold maxLen;omega);have hcc:=hide (fun W (hW:Below w.heap.size w W)=>gJ Aw cw H[m].writes key (Old W) W (aI.below hws hW) hwl);generalize H[m].writes=L at*;generalize hqe:L.contains key=q at*;rw[hr];have hm1:decide (m<H.length)=true:=(by simpa using hm);have hm2:(0:Int)≤(m:Int):=Int.natCast_nonneg _;replace hn:=hide hn;clear h h0 hws d0 d1 d2 hr hqe;go_enter Tryz.func179,Tryz.ntmps179;go_upto_region 1 with fail;refine dU (fun W=>Below w.heap.size w W) (by kernel_rfl) (by kernel_rfl) (Below.refl _ _).drew ?_;refine⟨.int .i64 (m:Int),fun W hW=>(by go_wp2),?_⟩;refine⟨.bool true,fun W hW=>(by go_wp2),?_⟩;refine⟨.bool true,fun W hW=>(by go_wp2),?_⟩;refine⟨.int .i64 (m:Int),fun W hW=>(by go_wp2),?_⟩;refine⟨.pointer (some ⟨bh,0,none⟩),fun W hW=>(by go_wp2),?_⟩;refine⟨.slice (some ⟨b,off,none⟩) H.length c,fun W hW=>(by have v0:=Oq.out W hW;go_wp2),?_⟩;refine⟨.int .i64 (H.length:Int),fun W hW=>(by go_wp2),?_⟩;refine⟨.bool true,fun W hW=>(by go_wp2),?_⟩;refine⟨.bool true,fun W hW=>(by go_wp2),?_⟩;refine⟨.bool true,fun W hW=>(by go_wp2),?_⟩;refine⟨.pointer (some ⟨bh,0,none⟩),fun W hW=>(by go_wp2),?_⟩;refine⟨.slice (some ⟨b,off,none⟩) H.length c,fun W hW=>(by have v0:=Oq.out W hW;go_wp2),?_⟩;refine⟨.int .i64 (m:Int),fun W hW=>(by go_wp2),?_⟩;refine⟨.pointer (some ⟨b,off+m*3,none⟩),fun W hW=>(by go_wp2),?_⟩;refine⟨.pointer (some ⟨b,off+m*3+1,none⟩),fun W hW=>(by go_wp2),?_⟩;refine⟨.slice Aw L.length cw,fun W hW=>(by have v0:=hd1.out W hW;go_wp2),?_⟩;refine⟨.pointer (some ⟨bc,0,none⟩),fun W hW=>(by go_wp2),?_⟩;refine⟨.int .i64 key,fun W hW=>(by have v0:=hbc2.out W hW;go_wp2),?_⟩;refine⟨.bool q,fun W hW=>(by
    go_wp2_with fail;refine(hcc.out W hW).mono ?_;rintro e w' ⟨rfl,rfl⟩;go_wp2),?_⟩
   refine⟨.bool q,fun W hW=>(by go_wp2),?_⟩;refine⟨.bool q,fun W hW=>(by go_wp2),?_⟩;intro W5 hW5;simp only[Act.put,sA,sZ,sS];go_wp2;go_ret;exact⟨rfl,hW5⟩
  ·have hr:wrB H t key=false:=(by unfold wrB;simp;intro _ e;exact absurd e h1);have h1b:decide (t<(H.length:Int))=false:=(by simpa using h1);rw[hr];replace hn:=hide hn;clear h h0 h1 hr;go_enter Tryz.func179,Tryz.ntmps179;go_upto_region 1 with fail;refine dU (fun W=>Below w.heap.size w W) (by kernel_rfl) (by kernel_rfl) (Below.refl _ _).drew ?_;refine⟨.int .i64 t,fun W hW=>(by go_wp2),?_⟩;refine⟨.bool true,fun W hW=>(by go_wp2),?_⟩;refine⟨.bool true,fun W hW=>(by go_wp2),?_⟩;refine⟨.int .i64 t,fun W hW=>(by go_wp2),?_⟩;refine⟨.pointer (some ⟨bh,0,none⟩),fun W hW=>(by go_wp2),?_⟩;refine⟨.slice A H.length c,fun W hW=>(by have v0:=Oq.out W hW;go_wp2),?_⟩;refine⟨.int .i64 (H.length:Int),fun W hW=>(by go_wp2),?_⟩;refine⟨.bool false,fun W hW=>(by go_wp2),?_⟩;refine⟨.bool false,fun W hW=>(by go_wp2),?_⟩;refine⟨.bool false,fun W hW=>(by go_wp2),?_⟩;refine⟨undef,fun W hW=>(by go_wp2),?_⟩;refine⟨undef,fun W hW=>(by go_wp2),?_⟩;refine⟨undef,fun W hW=>(by go_wp2),?_⟩;refine⟨undef,fun W hW=>(by go_wp2),?_⟩;refine⟨undef,fun W hW=>(by go_wp2),?_⟩;refine⟨undef,fun W hW=>(by go_wp2),?_⟩;refine⟨undef,fun W hW=>(by go_wp2),?_⟩;refine⟨undef,fun W hW=>(by go_wp2),?_⟩;refine⟨undef,fun W hW=>(by go_wp2),?_⟩;refine⟨.bool false,fun W hW=>(by go_wp2),?_⟩;refine⟨.bool false,fun W hW=>(by go_wp2),?_⟩;intro W5 hW5;simp only[Act.put,sA,sZ,sS];go_wp2;go_ret;exact⟨rfl,hW5⟩
 ·have hr:wrB H t key=false:=(by unfold wrB;simp;intro e;exact absurd e h0);have h0b:decide (t≥0)=false:=(by simpa using h0);rw[hr];replace hn:=hide hn;clear h h0 hr;go_enter Tryz.func179,Tryz.ntmps179;go_upto_region 1 with fail;refine dU (fun W=>Below w.heap.size w W) (by kernel_rfl) (by kernel_rfl) (Below.refl _ _).drew ?_;refine⟨.int .i64 t,fun W hW=>(by go_wp2),?_⟩;refine⟨.bool false,fun W hW=>(by go_wp2),?_⟩;refine⟨.bool false,fun W hW=>(by go_wp2),?_⟩;refine⟨undef,fun W hW=>(by go_wp2),?_⟩;refine⟨undef,fun W hW=>(by go_wp2),?_⟩;refine⟨undef,fun W hW=>(by go_wp2),?_⟩;refine⟨undef,fun W hW=>(by go_wp2),?_⟩;refine⟨undef,fun W hW=>(by go_wp2),?_⟩;refine⟨.bool false,fun W hW=>(by go_wp2),?_⟩;refine⟨.bool false,fun W hW=>(by go_wp2),?_⟩;refine⟨undef,fun W hW=>(by go_wp2),?_⟩;refine⟨undef,fun W hW=>(by go_wp2),?_⟩;refine⟨undef,fun W hW=>(by go_wp2),?_⟩;refine⟨undef,fun W hW=>(by go_wp2),?_⟩;refine⟨undef,fun W hW=>(by go_wp2),?_⟩;refine⟨undef,fun W hW=>(by go_wp2),?_⟩;refine⟨undef,fun W hW=>(by go_wp2),?_⟩;refine⟨undef,fun W hW=>(by go_wp2),?_⟩;refine⟨undef,fun W hW=>(by go_wp2),?_⟩;refine⟨.bool false,fun W hW=>(by go_wp2),?_⟩;refine⟨.bool false,fun W hW=>(by go_wp2),?_⟩;intro W5 hW5;simp only[Act.put,sA,sZ,sS];go_wp2;go_ret;exact⟨rfl,hW5⟩
set_option maxRecDepth 100000 in
theorem zB(A:Option Addr)(c:Nat)(H:List Txn)(level:Int)(w:World)(h:aF w (Old w) (.slice A H.length c) H)(hn:aB H):
 Calls Tryz.prog 111 #[.agg #[.slice A H.length c],.int .i64 level] w fun e w'=>e= .returned (.bool (aC H&&(decide (level=0)||decide (level=1))))∧Below w.heap.size w w':=by
 obtain⟨W0,hW0⟩:∃W0,w.alloc (.cells #[.slice A H.length c] 24)=W0:=⟨_,rfl⟩;have hB:=ah (Below.refl w.heap.size w) hW0 (Nat.le_refl _);have k0:=Blk.newEq hW0;have hrc:=hide (fF A c H W0 (h.below hB) hn);have c0:=Blk.n0 k0;generalize aC H=q at*;clear h;have hz:decide (level=0)=(level==0):=(by rw[Bool.eq_iff_iff];simp);have ho:decide (level=1)=(level==1):=(by rw[Bool.eq_iff_iff];simp);rw[hz,ho];obtain⟨z,hz2⟩:∃z,(level==0)=z:=⟨_,rfl⟩;obtain⟨o,ho2⟩:∃o,(level==1)=o:=⟨_,rfl⟩;rw[hz2,ho2];clear hz ho;go_enter Tryz.func111,Tryz.ntmps111;go_wp2_with fail;clear hW0 c0;refine hrc.out.mono ?_;rintro e w1 ⟨rfl,hb1⟩;cases q<;>cases z<;>cases o;all_goals
  go_wp2;go_ret;exact⟨rfl,hB.trans (hb1.mono hB.size)⟩
set_option maxRecDepth 100000 in
theorem AZ(A:Option Addr)(c:Nat)(H:List Txn)(key a b:Int)(w:World)(h:aF w (Old w) (.slice A H.length c) H)(hn:aB H):
 Calls Tryz.prog 112 #[.agg #[.slice A H.length c],.agg #[.int .i64 key,.int .i64 a,.int .i64 b]] w fun e w'=>e= .returned (.bool (dB H ⟨key,a,b⟩))∧Below w.heap.size w w':=by
 obtain⟨W0,hW0⟩:∃W0,(w.alloc (.cells #[.slice A H.length c] 24)).alloc (.cells #[.int .i64 key,.int .i64 a,.int .i64 b] 102)=W0:=⟨_,rfl⟩;have hB:=aG hW0;have k0:=Blk.fC hW0;have k1:=Blk.dQ hW0;have hT:=hide (h.below hB);have hcl:=hide (fun(t:Int) W (hW:Below W0.heap.size W0 W)=>Ky A c H t key w.heap.size (w.heap.size+1) W (hT.out.below hW) hn (by have:=(k0.below hW k0.lt).cell 0;simpa using this) (by have:=(k1.below hW k1.lt).cell 0;simpa using this));have c0:=Blk.n0 k1;have c1:=Blk.n1 k1;have c2:=Blk.n2 k1;have hone:Hid (dB H ⟨key,a,b⟩=(decide (a≠b)&&wrB H a key&&wrB H b key)):=hide rfl;obtain⟨r,hr⟩:∃r,dB H ⟨key,a,b⟩=r:=⟨_,rfl⟩;rw[hr]at hone;rw[hr];clear h hr;by_cases hab:a=b
 ·have g1:(a !=b)=false:=(by simp[hab]);have hre:r=false:=(by rw[hone.out];simp[hab]);subst hre;clear hab hone hcl;go_enter Tryz.func112,Tryz.ntmps112;go_wp2;go_ret;exact⟨rfl,hB⟩
 ·have g1:(a !=b)=true:=(by simpa using hab);have nM:=hide (show r=(wrB H a key&&wrB H b key) by rw[hone.out];simp[hab]);have h1:=hide (hcl.out a W0 (Below.refl _ _));have h2:=hide (fun W hW=>hcl.out b W hW);generalize wrB H a key=q1 at*;generalize wrB H b key=q2 at*;clear hab hone hcl;go_enter Tryz.func112,Tryz.ntmps112;go_wp2_with fail;refine h1.out.mono ?_;rintro e w1 ⟨rfl,hb1⟩;have d2:=(hb1.cell (p:=⟨w.heap.size+1,2,none⟩) k1.lt).trans c2;have hb2:=hB.trans (hb1.mono hB.size);have h3:=hide (h2.out w1 hb1);clear hW0 h1 h2 c0 c1 c2;cases q1 with
  |false=>
   have hre:r=false:=(by rw[nM.out];rfl);subst hre;clear h3 nM;go_wp2;go_ret;exact⟨rfl,hb2⟩
  |true=>
   have hre:r=q2:=(by rw[nM.out];rfl);subst hre;clear nM;go_wp2_with fail;refine h3.out.mono ?_;rintro e w2 ⟨rfl,hb3⟩;go_wp2;go_ret;exact⟨rfl,hb2.trans (hb3.mono hb2.size)⟩
theorem qz(w:World):
 Calls Tryz.prog 113 #[] w fun e w'=>e= .returned (.slice (some ⟨w.heap.size,0,none⟩) 4 4)∧Blk w' w.heap.size 188 #[.int .i64 1,.func (.func 180) #[] #[],.int .i64 2,.func (.func 181) #[] #[],.int .i64 3,.func (.func 182) #[] #[],.int .i64 4,.func (.func 183) #[] #[]]∧Below w.heap.size w w':=by
 go_enter Tryz.func113,Tryz.ntmps113;go_wp2;go_ret;exact⟨rfl,Blk.new _ _ _,(Below.refl _ _).alloc (Nat.le_refl _) _⟩
set_option maxRecDepth 100000 in
theorem Kz(A:Option Addr)(c:Nat)(H:List Txn)(level:Int)(vl:Value)(f:Fct)(vc:Value)(w:World)(h:aF w (Old w) (.slice A H.length c) H)(hn:aB H):
 Calls Tryz.prog 180 #[.agg #[.slice A H.length c,.int .i64 level,vl,.int .i64 f.c.key,.int .i64 f.c.a,.int .i64 f.c.b,.int .i64 f.kind,.int .i64 f.i,.int .i64 f.j,vc]] w fun e w'=>e= .returned (.bool (axB H f))∧Below w.heap.size w w':=by
 obtain⟨⟨key,a,b⟩,kind,i,j,cyc⟩:=f;dsimp only;obtain⟨W0,hW0⟩:∃W0,w.alloc (.cells #[.slice A H.length c,.int .i64 level,vl,.int .i64 key,.int .i64 a,.int .i64 b,.int .i64 kind,.int .i64 i,.int .i64 j,vc] 190)=W0:=⟨_,rfl⟩;have hB:=ah (Below.refl w.heap.size w) hW0 (Nat.le_refl _);have k0:=Blk.newEq hW0;have hdi:=hide (mV A c H none 0 [] a b W0 (h.below hB) hn (bq.nil _ _ _ _) (by simp));have hre:Hid (axB H ⟨⟨key,a,b⟩,kind,i,j,cyc⟩=(decide (i=0)&&decide (j=0)&&aK H [] a b)):=hide rfl;obtain⟨r,hr⟩:∃r,axB H ⟨⟨key,a,b⟩,kind,i,j,cyc⟩=r:=⟨_,rfl⟩;rw[hr]at hre;rw[hr];generalize aK H [] a b=q at*;have c0:=Blk.n0 k0;have c4:=Blk.n4 k0;have c5:=Blk.n5 k0;have c7:=Blk.n7 k0;have c8:=Blk.n8 k0;clear h hr;by_cases h1:i=0
 ·by_cases h2:j=0
  ·have hrq:r=q:=(by rw[hre.out];simp[h1,h2]);have g1:(i==0)=true:=(by simp[h1]);have g2:(j==0)=true:=(by simp[h2]);subst hrq;clear h1 h2 hre;go_enter Tryz.func180,Tryz.ntmps180;go_wp2_with fail;refine hdi.out.mono ?_;rintro e w1 ⟨rfl,hb1⟩;go_wp2;go_ret;exact⟨rfl,hB.trans (hb1.mono hB.size)⟩
  ·have hrq:r=false:=(by rw[hre.out];simp[h2]);have g1:(i==0)=true:=(by simp[h1]);have g2:(j==0)=false:=(by simpa using h2);subst hrq;clear h1 h2 hre hdi;go_enter Tryz.func180,Tryz.ntmps180;go_wp2;go_ret;exact⟨rfl,hB⟩
 ·have hrq:r=false:=(by rw[hre.out];simp[h1]);have g1:(i==0)=false:=(by simpa using h1);subst hrq;clear h1 hre hdi;go_enter Tryz.func180,Tryz.ntmps180;go_wp2;go_ret;exact⟨rfl,hB⟩
end Go.Proofs.YtfhnamomiaekdaaGreatDoor
namespace Go.Inq
open Go
section
variable{P:Program}{ops:Array Oper}{Q:Exit→Act→World→Prop}{md:Region.Mode}
def bf(i:Nat)(tss:List (List Nat)):List (List Nat):=
 tss.filterMap fun r=>match r with
  |t::r'=>if t=i then some r' else none
  |[]=>none
def xJ(P:Program)(ops:Array Oper)(Q:Exit→Act→World→Prop):Nat→List (List Nat)→Act→World→Prop
 |0,_,a,w=>Q .normal a w
 |n+1,tss,a,w=>∀i∈tss.filterMap List.head?,wpOp P ops Q i (xJ P ops Q n (bf i tss)) a w
def um(md:Region.Mode)(ops:Array Oper)(us:List Nat):Nat→List (List Nat)→Array Bool→Bool
 |0,_,listed=>(Region.ready md ops listed).isEmpty
 |n+1,tss,listed=>
  (match tss.filterMap List.head? with
   |t::r=>r.all (·==t)&&us.contains t&&(Region.ready md ops listed).contains t&&Region.free md ops listed t&&(match ops[t]? with|some o=>mF o.op|none=>false)&&
    um md ops us n (bf t tss) (listed.setIfInBounds t true)
   |[]=>false)||
  (!(Region.ready md ops listed).isEmpty&&(Region.ready md ops listed).all fun i=>(tss.filterMap List.head?).contains i&&us.contains i&&um md ops us n (bf i tss) (listed.setIfInBounds i true))
def jv:Op→Bool
 | .move _| .assign _| .pick .. | .build .. | .indexAddr .. | .extract .. | .makeFunc .. | .nilCheck _| .load .. =>true
 |_=>false
theorem A8{ρ:Operand→Value}{o:Oper}(h:jv o.op=true){w w':World}{n:Next}(hr:(execOp ρ o).run P w= .ok n w'):w'=w∧∃v,n= .value v:=by
 by_cases hl:lF o.op=true
 ·cases ho:o.op<;>rw[ho]at hl<;>simp[lF]at hl;case load t x=>
   have e:execOp ρ o=(do Pure.pure (.value (←Instr.loadAt t (ρ x)))):=(by unfold execOp;rw[ho]);have hv:=jr (P:=P) (ρ:=ρ) (o:=o) (by rw[ho];rfl) hr;rw[e]at hr;exact⟨(Stb.bind (Stb.loadAt _ _) (fun _=>(Clear.pure _).stb) P _ _ _ hr).1,hv⟩
 ·have hw:worldless P o.op=true:=(by cases ho:o.op<;>rw[ho]at h hl<;>simp[jv,lF]at h hl<;>rfl);have hv:=jr (P:=P) (ρ:=ρ) (o:=o) (by cases ho:o.op<;>rw[ho]at h hl<;>simp[jv,lF]at h hl<;>rfl) hr;refine⟨?_,hv⟩;have:=(jG hw hr w).symm.trans hr;injection this with _ e
  exact e.symm
theorem Ez{t:Nat}{o:Oper}{a:Act}{w:World}{K:Act→World→Prop}(ho:ops[t]?=some o)(hc:jv o.op=true)(h:wpOp P ops Q t K a w):wpOp P ops Q t (fun a' w'=>w'=w∧K a' w') a w:=by
 unfold wpOp at*;rw[ho]at h⊢;dsimp only at*;by_cases hw:Region.wanted o (yielded ops a.tmps)=true
 ·rw[if_pos hw]at h⊢;refine h.imp (fun h=> ?_) id;unfold Oper.wp at*;generalize hr:(execOp a.eval o).run P w=r at*;cases r with
  |halt x w'=>cases x<;>simp only[Oper.upon]at h⊢<;>exact h
  |ok n w'=>
   obtain⟨he,v,rfl⟩:=A8 hc hr;exact⟨he,h⟩
 ·rw[if_neg hw]at h⊢;exact⟨rfl,h⟩
def ig(ops:Array Oper)(us:List Nat)(j:Nat):Nat:=
 if us.contains j then(match ops[j]? with|some o=>if gV o.op then 1 else if jv o.op then 0 else 2|none=>0)else 0
theorem Ia{us:List Nat}{t:Nat}(hf:us.contains t=true){K:Act→World→Prop}{a:Act}{w:World}(h:wpOp P ops Q t K a w):
 wpOp P ops Q t (fun a' w'=>((ig ops us t=0→w'=w)∧(ig ops us t=1→Ext w w'))∧K a' w') a w:=by
 cases ho:ops[t]? with
 |none=>unfold wpOp at*;rw[ho]at h⊢;exact⟨⟨fun _=>rfl,fun _=>Ext.refl _⟩,h⟩
 |some o=>
  have e:ig ops us t=if gV o.op then 1 else if jv o.op then 0 else 2:=(by unfold ig;rw[if_pos hf,ho]);rw[e];by_cases hal:gV o.op=true
  ·rw[if_pos hal];exact wpOp_mono (fun a' w' h=>⟨⟨fun h0=>absurd h0 (by simp),fun _=>h.1⟩,h.2⟩) (wM ho hal h)
  ·rw[if_neg hal];by_cases hst:jv o.op=true
   ·rw[if_pos hst];exact wpOp_mono (fun a' w' h=>⟨⟨fun _=>h.1,fun h1=>absurd h1 (by simp)⟩,h.2⟩) (Ez ho hst h)
   ·rw[if_neg hst];exact wpOp_mono (fun a' w' h=>⟨⟨fun h0=>absurd h0 (by simp),fun h1=>absurd h1 (by simp)⟩,h⟩) h
theorem qW{us:List Nat}(hQ:∀c a (d:Option Tmp) v w,Q (.panic c) (a.put d v) w→Q (.panic c) a w)(hs:Region.noSelect ops=true):∀(n:Nat) (tss:List (List Nat)) (listed:Array Bool) (a:Act) (w:World),Closed md ops listed→um md ops us n tss listed=true→
 xJ P ops Q n tss a w→nW P md ops Q (ig ops us) n listed a w
 |0,_,_,_,_,_,hB,h=>⟨by simpa[um]using hB,h⟩
 |n+1,tss,listed,a,w,hcl,hB,h=>by
  unfold um at hB;rw[Bool.or_eq_true]at hB;unfold xJ at h;rcases hB with hB|hB
  ·split at hB
   ·rename_i t r Ot;simp only[Bool.and_eq_true]at hB;obtain⟨⟨⟨⟨⟨_,hu⟩,hr⟩,hfr⟩,hc⟩,hB⟩:=hB;have hr':t∈Region.ready md ops listed:=(by simpa using hr);have h1:=h t (by rw[Ot];simp);cases ho:ops[t]? with
    |none=>rw[ho]at hc;cases hc
    |some o=>
     rw[ho]at hc;obtain⟨v,hy,hK⟩:=nX ho hc h1;exact dV (S:=fun _=>True) ho (Region.noSelect_spec hs) (fun c a w=>hQ c a _ _ w) (fun _ _ _ _ _ _ _ _ _=>trivial) _ listed a w hcl (Region.free_spec ho hfr) hr' hy trivial
      (qW hQ hs n _ _ _ w (hcl.aD hr') hB hK)
   ·cases hB
  ·simp only[Bool.and_eq_true,List.all_eq_true]at hB;refine⟨fun h0=>(by rw[h0]at hB;simp at hB),fun i hi=> ?_⟩;obtain⟨⟨hh,hu⟩,hB2⟩:=hB.2 i hi;have h1:=h i (by simpa using hh);exact wpOp_mono (fun a' w' h'=>⟨h'.1,qW hQ hs n _ _ a' w' (hcl.aD hi) hB2 h'.2⟩) (Ia hu h1)
def wC(P:Program)(md:Region.Mode)(ops:Array Oper)(us:List Nat)(tss:List (List Nat)):List Nat→Array Bool→Bool
 |[],listed=>um md ops us us.length tss listed
 |i::es,listed=>(Region.ready md ops listed).contains i&&Region.free md ops listed i&& !us.contains i&&
  (match ops[i]? with
   |some o=>mE o.op&&(worldless P o.op||(us.all fun j=>bC md ops ops.size j i||((match ops[j]? with|some oj=>jv oj.op&& !gV oj.op|none=>false)||(lF o.op&&(match ops[j]? with|some oj=>gV oj.op|none=>false)))))
   |none=>false)&&
  wC P md ops us tss es (listed.setIfInBounds i true)
theorem uQ{us:List Nat}{j:Nat}(hfj:us.contains j=true)(h:(match ops[j]? with|some oj=>jv oj.op&& !gV oj.op|none=>false)=true):ig ops us j=0:=by
 unfold ig;rw[if_pos hfj];cases hoj:ops[j]? with
 |none=>rfl
 |some oj=>
  rw[hoj]at h;simp only[Bool.and_eq_true,Bool.not_eq_true']at h;simp[h.1,h.2]
theorem qA{w:World}(hQ:∀c a (d:Option Tmp) v w,Q (.panic c) (a.put d v) w→Q (.panic c) a w)(hs:Region.noSelect ops=true)(us:List Nat)(tss:List (List Nat)):∀(es:List Nat) (listed:Array Bool) (a:Act),Closed md ops listed→
 wC P md ops us tss es listed=true→wpStill P ops w (fun a'=>xJ P ops Q us.length tss a' w) (es.filterMap (ops[·]?)) a→nW P md ops Q (ig ops us) (es.length+us.length) listed a w
 |[],listed,a,hcl,hB,h=>by
  simp only[List.length_nil,Nat.zero_add];exact qW hQ hs us.length tss listed a w hcl hB h
 |i::es,listed,a,hcl,hB,h=>by
  simp only[wC,Bool.and_eq_true]at hB;obtain⟨⟨⟨⟨hr,hf⟩,hnt⟩,hk⟩,hrest⟩:=hB;have hr':i∈Region.ready md ops listed:=(by simpa using hr);cases ho:ops[i]? with
  |none=>rw[ho]at hk;cases hk
  |some o=>
   rw[ho]at hk;simp only[Bool.and_eq_true,Bool.or_eq_true]at hk;rw[List.filterMap_cons_some ho]at h;obtain⟨v,hy,hy0,hyl,hK⟩:=j4 (K:=wpStill P ops w (fun a'=>xJ P ops Q us.length tss a' w) (es.filterMap (ops[·]?))) hk.1 h;have IH:=qA hQ hs us tss es (listed.setIfInBounds i true) _ (hcl.aD hr') hrest hK;rw[List.length_cons,show es.length+1+us.length=(es.length+us.length)+1 by omega];rcases hk.2 with hl|hl
   ·exact dV (S:=fun _=>True) ho (Region.noSelect_spec hs) (fun c a w=>hQ c a _ _ w) (fun _ _ _ _ _ _ _ _ _=>trivial) _ listed a w hcl (Region.free_spec ho hf) hr' (hy0 hl) trivial IH
   ·by_cases hld:lF o.op=true
    ·refine dV (S:=fun u=>Ext w u) ho (Region.noSelect_spec hs) (fun c a w=>hQ c a _ _ w) (fun listed' j hcl' hj hun u u' hu hc=> ?_) _ listed a w hcl (Region.free_spec ho hf) hr' (hyl hld) (Ext.refl _) IH;cases hfj:us.contains j with
     |false=>
      have:ig ops us j=0:=(by unfold ig;rw[if_neg (by rw[hfj];simp)]);rw[hc.1 this];exact hu
     |true=>
      have hwj:=List.all_eq_true.1 hl j (by simpa using hfj);simp only[Bool.or_eq_true,Bool.and_eq_true]at hwj;rcases hwj with hwj|hwj|⟨_,hwj⟩
      ·rw[hcl'.ready hwj hj]at hun;cases hun
      ·rw[hc.1 (uQ hfj hwj)];exact hu
      ·cases hoj:ops[j]? with
       |none=>rw[hoj]at hwj;cases hwj
       |some oj=>
        rw[hoj]at hwj;have:ig ops us j=1:=(by unfold ig;rw[if_pos hfj,hoj];simp[hwj]);exact hu.trans (hc.2 this)
    ·refine dV (S:=fun u=>u=w) ho (Region.noSelect_spec hs) (fun c a w=>hQ c a _ _ w) (fun listed' j hcl' hj hun u u' hu hc=> ?_) _ listed a w hcl (Region.free_spec ho hf) hr' hy rfl IH;cases hfj:us.contains j with
     |false=>
      have:ig ops us j=0:=(by unfold ig;rw[if_neg (by rw[hfj];simp)]);rw[hc.1 this];exact hu
     |true=>
      have hwj:=List.all_eq_true.1 hl j (by simpa using hfj);simp only[Bool.or_eq_true,Bool.and_eq_true]at hwj;rcases hwj with hwj|hwj|⟨h2,_⟩
      ·rw[hcl'.ready hwj hj]at hun;cases hun
      ·rw[hc.1 (uQ hfj hwj)];exact hu
      ·exact absurd h2 hld
def KA(P:Program)(ops:Array Oper)(es us:List Nat)(tss:List (List Nat)):Bool:=
 Region.noSelect ops&&(es.length+us.length==ops.size)&&wC P .any ops us tss es (Array.replicate ops.size false)
theorem gu {id:Nat} {a:Act} {w:World} {l:List Oper} (es us:List Nat) (tss:List (List Nat)) (hm:P.follows .mixedOrders=true) (hB:KA P l.toArray es us tss=true)
 (hQ:∀c a (d:Option Tmp) v w,Q (.panic c) (a.put d v) w→Q (.panic c) a w)
 (h:wpStill P l.toArray w.drew (fun a'=>xJ P l.toArray Q us.length tss a' w.drew) (es.filterMap (l[·]?)) a):(Code.region id l.toArray true).wp P Q a w:=by
 simp only[KA,Bool.and_eq_true,beq_iff_eq]at hB;obtain⟨⟨hs,hn⟩,hE⟩:=hB;refine wp_region_any hm (qJ (cls:=ig l.toArray us) _ _ _ _ ?_);rw[←hn];refine qA (w:=w.drew) hQ hs us tss es _ a (Closed.start _ _ _) (by rw[hn];exact hE) ?_;have e1:(fun(i:Nat)=>l.toArray[i]?)=fun(i:Nat)=>l[i]?:=(by funext i;simp);rw[e1];exact h
theorem aU{i:Nat}{o:Oper}{K:Act→World→Prop}{a:Act}{w:World}(ho:ops[i]?=some o)(h:wpList P ops (Exit.then K Q) [o] a w):wpOp P ops Q i K a w:=by
 unfold wpOp;rw[ho];unfold wpList at h;dsimp only;split at h
 ·rename_i hw;rw[if_pos hw];refine h.imp (fun h=> ?_) id;unfold Oper.wp at h⊢;generalize(execOp a.eval o).run P w=r at h⊢;cases r with
  |halt x w'=>cases x<;>exact h
  |ok n w'=>cases n<;>exact h
 ·rename_i hw;rw[if_neg hw];exact h
theorem cK:∀(ts:List Nat) (n:Nat) (a:Act) (w:World),ts.length=n→wpList P ops Q (ts.filterMap (ops[·]?)) a w→xJ P ops Q n [ts] a w
 |[],n,a,w,hn,h=>by
  subst hn;exact h
 |t::ts,n,a,w,hn,h=>by
  subst hn;intro i hi;have:i=t:=(by simpa using hi);subst this;have e:bf i [i::ts]=[ts]:=(by simp[bf]);rw[e];cases ho:ops[i]? with
  |none=>
   unfold wpOp;rw[ho];rw[List.filterMap_cons_none ho]at h;exact cK ts _ a w rfl h
  |some o=>
   rw[List.filterMap_cons_some ho]at h;unfold wpOp;rw[ho];unfold wpList at h;dsimp only;split at h
   ·rename_i hw;rw[if_pos hw];exact h.imp (Oper.wp_mono fun a w=>cK ts _ a w rfl) id
   ·rename_i hw;rw[if_neg hw];exact cK ts _ _ _ rfl h
end
end Go.Inq
namespace Go.Proofs.YtfhnamomiaekdaaGreatDoor
open Go.RowKit Go.Inq
set_option maxHeartbeats 8000000
attribute [local go_sem↓] Go.wp_at_zero Go.wp_at_succ
set_option maxRecDepth 100000 in
theorem EA(A:Option Addr)(c:Nat)(H:List Txn)(level:Int)(vl:Value)(f:Fct)(vc:Value)(w:World)(h:aF w (Old w) (.slice A H.length c) H)(hn:aB H):
 Calls Tryz.prog 182 #[.agg #[.slice A H.length c,.int .i64 level,vl,.int .i64 f.c.key,.int .i64 f.c.a,.int .i64 f.c.b,.int .i64 f.kind,.int .i64 f.i,.int .i64 f.j,vc]] w fun e w'=>e= .returned (.bool (nL H f))∧Below w.heap.size w w':=by
 obtain⟨⟨key,a,b⟩,kind,i,j,cyc⟩:=f;dsimp only;obtain⟨W0,hW0⟩:∃W0,w.alloc (.cells #[.slice A H.length c,.int .i64 level,vl,.int .i64 key,.int .i64 a,.int .i64 b,.int .i64 kind,.int .i64 i,.int .i64 j,vc] 190)=W0:=⟨_,rfl⟩;have hB:=ah (Below.refl w.heap.size w) hW0 (Nat.le_refl _);have k0:=Blk.newEq hW0;have hT:=h.below hB;have hdi:=hide (fun W (hb:Below w.heap.size w W)=>mV A c H none 0 [] a i W (h.below hb) hn (bq.nil _ _ _ _) (by simp));have hre:Hid (nL H ⟨⟨key,a,b⟩,kind,i,j,cyc⟩=(decide (j=0)&&decide (i≠a)&&decide (0≤i)&&decide (i<(H.length:Int))&&((aL H i.toNat).reads.any fun x=>decide (x.a=key)&&decide (x.b=b))&&aK H [] a i)):=hide rfl;obtain⟨r,hr⟩:∃r,nL H ⟨⟨key,a,b⟩,kind,i,j,cyc⟩=r:=⟨_,rfl⟩;rw[hr]at hre;rw[hr];generalize aK H [] a i=q at*;have c0:=Blk.n0 k0;have c3:=Blk.n3 k0;have c4:=Blk.n4 k0;have c5:=Blk.n5 k0;have c7:=Blk.n7 k0;have c8:=Blk.n8 k0;have hct:Hid True:=hide trivial;clear hr;by_cases h1:j=0
 ·have g1:(j !=0)=false:=(by simp[h1]);by_cases h2:i=a
  ·have hrq:r=false:=(by rw[hre.out];simp[h2]);have g2:(i==a)=true:=(by simp[h2]);subst hrq;clear h1 h2 hre h hT;clear hdi hct;go_enter Tryz.func182,Tryz.ntmps182;go_wp2;go_ret;exact⟨rfl,hB⟩
  ·have g2:(i==a)=false:=(by simpa using h2);by_cases h3:i<0
   ·have hrq:r=false:=(by rw[hre.out,decide_eq_false (show¬0≤i by omega)];simp);have g3:decide (i<0)=true:=(by simpa using h3);subst hrq;clear h1 h2 h3 hre h hT;clear hdi hct;go_enter Tryz.func182,Tryz.ntmps182;go_wp2;go_ret;exact⟨rfl,hB⟩
   ·have g3:decide (i<0)=false:=(by simpa using h3);by_cases h4:(H.length:Int)≤i
    ·have hrq:r=false:=(by rw[hre.out,decide_eq_false (show¬i<(H.length:Int) by omega)];simp);have g4:decide (i≥(H.length:Int))=true:=(by simpa using h4);have g5:decide ((H.length:Int)≤i)=true:=(by simpa using h4);subst hrq;clear h1 h2 h3 h4 hre h hT;clear hdi hct;go_enter Tryz.func182,Tryz.ntmps182;go_wp2;go_ret;exact⟨rfl,hB⟩
    ·obtain⟨m,rfl⟩:∃m:Nat,i=(m:Int):=⟨i.toNat,by omega⟩;have hm:m<H.length:=(by omega);have hm0:(0:Int)≤(m:Int):=Int.natCast_nonneg _;have hm1:(m:Int)<(H.length:Int):=(by omega);have g4:decide ((m:Int)≥(H.length:Int))=false:=(by simp;omega);have g5:decide ((H.length:Int)≤(m:Int))=false:=(by simp;omega);have g6:decide (H.length≤m)=false:=(by simp;omega);obtain⟨bt,ot,Aw,cw,Ar,cr,rfl,_,d0,d1,d2,-,hrs⟩:=aF.at_ hT hm;have hrl:H[m].reads.length≤1000000:=(hn.2 _ (List.getElem_mem hm)).2;have hct:=hide (qy Ar cr H[m].reads key b W0.drew (ItS.keep hrs (Agree.drew _ _) (fun b h=>h)) (by omega));have xK:=hide (show r=((H[m].reads.any fun x=>decide (x.a=key)&&decide (x.b=b))&&q) by
      rw[hre.out,Int.toNat_natCast,aO hm,decide_eq_true h1,decide_eq_true h2,decide_eq_true hm0,decide_eq_true hm1];simp)
     generalize(H[m].reads.any fun x=>decide (x.a=key)&&decide (x.b=b))=q1 at*;generalize H[m].reads=R at*;clear h1 h2 h3 h4 hre hT hrs h;go_enter Tryz.func182,Tryz.ntmps182;go_upto_region 3 with fail;refine aY [0,1,2,3,4,5,6,7,8,9,10,11,12,13,14,15,16,17] [18,19] (by kernel_rfl) (by kernel_rfl) (fun _ _ d _ _ h=>by cases d<;>exact h) ?_;simp only[List.filterMap_cons,List.filterMap_nil,gZ,gS];repeat still_step
     refine wpStill_nil ?_;go_wp2_with fail;refine hct.out.mono ?_;rintro e w1 ⟨rfl,hb1⟩;have hb2:=(aX hB).trans (hb1.mono hB.size);have k1:=k0.drew.below hb1 k0.lt;have e0:=Blk.n0 k1;have e4:=Blk.n4 k1;have e7:=Blk.n7 k1;have hd2:=hide (hdi.out w1 hb2);clear hW0 hct hdi c0 c3 c4 c5 c7 c8 d0 d1 d2;cases q1 with
     |false=>
      have hrq:r=false:=(by rw[xK.out];rfl);subst hrq;clear hd2 xK;go_wp2;go_ret;exact⟨rfl,hb2⟩
     |true=>
      have hrq:r=q:=(by rw[xK.out];rfl);subst hrq;clear xK;go_wp2_with fail;refine hd2.out.mono ?_;rintro e w2 ⟨rfl,hb3⟩;go_wp2;go_ret;exact⟨rfl,hb2.trans (hb3.mono hb2.size)⟩
 ·have g1:(j !=0)=true:=(by simpa using h1);have hrq:r=false:=(by rw[hre.out];simp[h1]);subst hrq;clear h1 hre h hT;clear hdi hct;go_enter Tryz.func182,Tryz.ntmps182;go_wp2;go_ret;exact⟨rfl,hB⟩
end Go.Proofs.YtfhnamomiaekdaaGreatDoor
namespace Go.Inq
def oK(E:aj):Nat→aj
 |0=>E
 |k+1=>fun x y=>oK E k x y||(oK E k x k&&oK E k k y)
def qX(E:aj)(x:Nat):List Nat→Nat→Bool
 |[],y=>E x y
 |a::l,y=>E x a&&qX E a l y
theorem kK{E:aj}:∀{x:Nat} {a:List Nat} {k:Nat} {b:List Nat} {y:Nat},qX E x (a++k::b) y=(qX E x a k&&qX E k b y)
 |x,[],k,b,y=>rfl
 |x,c::a,k,b,y=>by
  show(E x c&&qX E c (a++k::b) y)=(E x c&&qX E c a k&&qX E k b y);rw[kK,Bool.and_assoc]
theorem uR{k:Nat}:∀{l:List Nat},k∈l→∃a b,l=a++k::b∧k∉a
 |[],h=>by simp at h
 |c::l,h=>by
  by_cases e:c=k
  ·exact⟨[],l,by rw[e];rfl,by simp⟩
  ·have h2:k∈l:=by
    rw[List.mem_cons]at h;exact h.resolve_left fun g=>e g.symm
   obtain⟨a,b,h3,h4⟩:=uR h2;exact⟨c::a,b,by rw[h3];rfl,by simp;exact⟨fun g=>e g.symm,h4⟩⟩
theorem iT{E:aj}:∀(k:Nat) (x y:Nat),oK E k x y=true→∃l:List Nat,(∀a∈l,a<k)∧qX E x l y=true
 |0,x,y,h=>⟨[],by simp,h⟩
 |k+1,x,y,h=>by
  unfold oK at h;rw[Bool.or_eq_true,Bool.and_eq_true]at h;rcases h with h|⟨h1,h2⟩
  ·obtain⟨l,hl,hw⟩:=iT k x y h;exact⟨l,fun a ha=>by have:=hl a ha;omega,hw⟩
  ·obtain⟨l1,hl1,hw1⟩:=iT k x k h1;obtain⟨l2,hl2,hw2⟩:=iT k k y h2;refine⟨l1++k::l2,fun a ha=> ?_,by rw[kK,hw1,hw2];rfl⟩;simp only[List.mem_append,List.mem_cons]at ha;rcases ha with ha|rfl|ha
   ·have:=hl1 a ha;omega
   ·omega
   ·have:=hl2 a ha;omega
theorem uo{E:aj}:∀(k:Nat) (m:Nat) (l:List Nat) (x y:Nat),l.length≤m→(∀a∈l,a<k)→qX E x l y=true→oK E k x y=true:=by
 intro k
 induction k with
 |zero=>
  intro m l x y _ hl hw;cases l with
  |nil=>exact hw
  |cons a l=>exact absurd (hl a (by simp)) (by omega)
 |succ k ihk=>
  intro m
  induction m with
  |zero=>
   intro l x y hm hl hw;obtain rfl:l=[]:=List.eq_nil_of_length_eq_zero (by omega);unfold oK;rw[ihk 0 [] x y (by simp) (by simp) hw];rfl
  |succ m ihm=>
   intro l x y hm hl hw;by_cases hk:k∈l
   ·obtain⟨a,b,rfl,hka⟩:=uR hk;rw[kK,Bool.and_eq_true]at hw;have h1:=ihk a.length a x k (Nat.le_refl _) (fun c hc=>by
     have:=hl c (by simp[hc]);have:c≠k:=fun e=>hka (e▸hc);omega) hw.1
    have h2:=ihm b k y (by simp at hm;omega) (fun c hc=>hl c (by simp[hc])) hw.2;unfold oK at h2⊢;rw[Bool.or_eq_true,Bool.and_eq_true]at h2;have h3:oK E k k y=true:=(by rcases h2 with h|h;exact h;exact h.2);rw[h1,h3];simp
   ·unfold oK;rw[ihk l.length l x y (Nat.le_refl _) (fun c hc=>by
     have:=hl c hc;have:c≠k:=fun e=>hk (e▸hc);omega) hw]
    rfl
def vK(n:Nat)(E:aj):aj:=oK E n
theorem zD{n:Nat}{E:aj}{x y:Nat}(h:E x y=true):vK n E x y=true:=uo n 0 [] x y (by simp) (by simp) h
theorem EB{n:Nat}{E:aj}{x y z:Nat}(hy:y<n)(h1:vK n E x y=true)(h2:vK n E y z=true):vK n E x z=true:=by
 obtain⟨a,ha,wa⟩:=iT n x y h1;obtain⟨b,hb,wb⟩:=iT n y z h2;refine uo n _ (a++y::b) x z (Nat.le_refl _) (fun c hc=> ?_) (by rw[kK,wa,wb];rfl);simp only[List.mem_append,List.mem_cons]at hc;rcases hc with hc|rfl|hc
 ·exact ha c hc
 ·exact hy
 ·exact hb c hc
theorem zF{n:Nat}{E:aj}(f:Nat→Nat)(h:∀x y,x<n→y<n→E x y=true→f x<f y):∀(l:List Nat) (x y:Nat),x<n→y<n→(∀a∈l,a<n)→qX E x l y=true→f x<f y
 |[],x,y,hx,hy,_,hw=>h x y hx hy hw
 |a::l,x,y,hx,hy,hl,hw=>by
  have hw':(E x a&&qX E a l y)=true:=hw;rw[Bool.and_eq_true]at hw';have ha:=hl a (by simp);have h1:=h x a hx ha hw'.1;have h2:=zF f h l a y ha hy (fun b hb=>hl b (by simp[hb])) hw'.2;omega
def yT(n:Nat)(E:aj):Bool:=(List.range n).any fun x=>vK n E x x
theorem KC{n:Nat}{E:aj}(f:Nat→Nat)(h:∀x y,x<n→y<n→E x y=true→f x<f y):yT n E=false:=by
 unfold yT;rw[List.any_eq_false];intro x hx hc;obtain⟨l,hl,hw⟩:=iT n x x hc;have:=zF f h l x x (List.mem_range.1 hx) (List.mem_range.1 hx) hl hw;omega
theorem pR:∀(A B:List Nat),A.Nodup→(∀x∈A,x∈B)→A.length≤B.length
 |[],_,_,_=>Nat.zero_le _
 |a::A,B,hn,h=>by
  rw[List.nodup_cons]at hn;have h1:=pR A (B.erase a) hn.2 fun x hx=>(List.mem_erase_of_ne (fun e:x=a=>hn.1 (by rw[←e];exact hx))).2 (h x (by simp[hx]));rw[List.length_erase_of_mem (h a (by simp))]at h1;have:=List.length_pos_of_mem (h a (by simp));simp;omega
theorem EC{n:Nat}{E:aj}{l:List Nat}{v:Nat}(h:jm n E l=some v):v<n∧v∉l∧∀x,x<n→E x v=true→x∈l:=by
 unfold jm at h;have h1:=List.find?_some h;have h2:=List.mem_of_find?_eq_some h;simp only[Bool.and_eq_true,Bool.not_eq_true',List.all_eq_true,List.mem_range,Bool.or_eq_true,List.contains_iff_mem]at h1;refine⟨by simpa using h2,fun hv=> ?_,fun x hx he=> ?_⟩
 ·have:=h1.1;rw[List.contains_iff_mem.2 hv]at this;cases this
 ·rcases h1.2 x hx with g|g
  ·rw[he]at g;cases g
  ·exact g
theorem Cm{n:Nat}{E:aj}{l:List Nat}(h:jm n E l=none){v:Nat}(hv:v<n)(hl:v∉l):∃x,x<n∧x∉l∧E x v=true:=by
 unfold jm at h;rw[List.find?_eq_none]at h;have h1:=h v (List.mem_range.2 hv);have hc:l.contains v=false:=by
  rw[Bool.eq_false_iff];intro e;exact hl (List.contains_iff_mem.1 e)
 rw[hc]at h1;simp only[Bool.not_false,Bool.true_and,List.all_eq_true,List.mem_range,Classical.not_forall]at h1;obtain⟨x,hx,h2⟩:=h1;simp only[Bool.or_eq_true,Bool.not_eq_true',List.contains_iff_mem,not_or]at h2;exact⟨x,hx,h2.2,by simpa using h2.1⟩
structure NJ(n:Nat)(E:aj)(l:List Nat):Prop where
 nd:l.Nodup
 lt:∀x∈l,x<n
 up:∀y∈l,∀x,x<n→E x y=true→x∈l∧l.idxOf x<l.idxOf y
theorem mY{n:Nat}{E:aj}:∀(k:Nat) (l:List Nat),bX n E k=some l→NJ n E l
 |0,l,h=>by
  unfold bX at h;injection h with h
  subst h;exact⟨List.nodup_nil,by simp,by simp⟩
 |k+1,l,h=>by
  unfold bX at h;split at h
  ·cases h
  ·rename_i l0 h0;split at h
   ·cases h
   ·rename_i v hv;injection h with h
    subst h;have ih:=mY k l0 h0;obtain⟨h1,h2,h3⟩:=EC hv;refine⟨?_,fun x hx=> ?_,fun y hy x hx he=> ?_⟩
    ·rw[List.nodup_append];refine⟨ih.nd,by simp,fun a ha b hb e=> ?_⟩;simp at hb;subst hb;exact h2 (e▸ha)
    ·rw[List.mem_append,List.mem_singleton]at hx;rcases hx with hx|rfl
     ·exact ih.lt x hx
     ·exact h1
    ·rw[List.mem_append,List.mem_singleton]at hy;rcases hy with hy|rfl
     ·obtain⟨g1,g2⟩:=ih.up y hy x hx he;exact⟨List.mem_append.2 (.inl g1),by rw[List.idxOf_append,List.idxOf_append,if_pos g1,if_pos hy];exact g2⟩
     ·have g1:=h3 x hx he;refine⟨List.mem_append.2 (.inl g1),?_⟩;rw[List.idxOf_append,List.idxOf_append,if_pos g1,if_neg h2];have:=List.idxOf_lt_length_of_mem g1;omega
theorem vL{n:Nat}{E:aj}{o:List Nat}(h:fK n E=some o):yT n E=false:=by
 have ht:=mY n o h;have hl:=fU h;have hall:∀y,y<n→y∈o:=fun y hy=>by
  refine Classical.byContradiction fun hno=> ?_;have:=pR (y::o) (List.range n) (List.nodup_cons.2 ⟨hno,ht.nd⟩) (fun x hx=>by
   rw[List.mem_cons]at hx;rw[List.mem_range];rcases hx with rfl|hx
   ·exact hy
   ·exact ht.lt x hx)
  simp at this;omega
 exact KC (fun x=>o.idxOf x) fun x y hx hy he=>(ht.up y (hall y hy) x hx he).2
theorem Cn{n:Nat}{E:aj}(R:Nat→Prop)(hR:∀v,R v→v<n)(hp:∀v,R v→∃x,R x∧E x v=true):∀(m:Nat) (v:Nat),R v→((List.range n).filter fun x=>vK n E x v).length≤m→yT n E=true
 |m,v,hv,hm=>by
  obtain⟨x,hx,he⟩:=hp v hv;by_cases hc:vK n E x x=true
  ·unfold yT;rw[List.any_eq_true];exact⟨x,List.mem_range.2 (hR x hx),hc⟩
  ·have hlt:((List.range n).filter fun y=>vK n E y x).length+1≤((List.range n).filter fun y=>vK n E y v).length:=by
    have:=pR (x::(List.range n).filter fun y=>vK n E y x) ((List.range n).filter fun y=>vK n E y v) (List.nodup_cons.2 ⟨fun h=>hc (List.mem_filter.1 h).2,List.Pairwise.filter _ List.nodup_range⟩) (fun y hy=>by
     rw[List.mem_cons]at hy;rw[List.mem_filter,List.mem_range];rcases hy with rfl|hy
     ·exact⟨hR y hx,zD he⟩
     ·rw[List.mem_filter,List.mem_range]at hy;exact⟨hy.1,EB (hR x hx) hy.2 (zD he)⟩)
    simpa using this
   match m,hm with
   |0,hm=>omega
   |m+1,hm=>exact Cn R hR hp m x hx (by omega)
theorem qB{n:Nat}{E:aj}:∀k,bX n E k=none→∃j l,j<k∧bX n E j=some l∧jm n E l=none
 |0,h=>by unfold bX at h;cases h
 |k+1,h=>by
  unfold bX at h;split at h
  ·rename_i h0;obtain⟨j,l,h1,h2⟩:=qB k h0;exact⟨j,l,by omega,h2⟩
  ·rename_i l0 h0;split at h
   ·rename_i hv;exact⟨k,l0,by omega,h0,hv⟩
   ·cases h
theorem vN{n:Nat}{E:aj}(h:fK n E=none):yT n E=true:=by
 obtain⟨j,l,hj,hl,hx⟩:=qB n h;have ht:=mY j l hl;have hlen:=fU hl;obtain⟨v,hv,hvl⟩:∃v,v<n∧v∉l:=by
  refine Classical.byContradiction fun hno=> ?_;have:=pR (List.range n) l List.nodup_range fun x hx=>Classical.byContradiction fun hn=>hno ⟨x,List.mem_range.1 hx,hn⟩;simp at this;omega
 refine Cn (fun u=>u<n∧u∉l) (fun u hu=>hu.1) (fun u hu=> ?_) _ v ⟨hv,hvl⟩ (Nat.le_refl _);obtain⟨x,h1,h2,h3⟩:=Cm hx hu.1 hu.2;exact⟨x,⟨h1,h2⟩,h3⟩
theorem ED(n:Nat)(E:aj):(fK n E).isSome= !yT n E:=by
 cases h:fK n E with
 |none=>rw[vN h];rfl
 |some o=>rw[vL h];rfl
def bV(n:Nat)(E:aj)(v:Nat):Nat→Nat→Nat
 |0,x=>if E x v=true then 1 else 0
 |k+1,x=>if bV n E v k x≠0 then bV n E v k x else if((List.range n).any fun y=>E x y&&decide (bV n E v k y=k+1))=true then k+2 else 0
section
variable{n:Nat}{E:aj}{v:Nat}
theorem lS{k x:Nat}(h:bV n E v k x≠0):bV n E v (k+1) x=bV n E v k x:=by
 show(if _ then _ else _)=_;rw[if_pos h]
theorem lT{k x:Nat}(h:bV n E v k x≠0):∀d,bV n E v (k+d) x=bV n E v k x
 |0=>rfl
 |d+1=>by
  have ih:=lT h d;rw[show k+(d+1)=(k+d)+1 by omega,lS (by rw[ih];exact h),ih]
theorem wD(k x:Nat):bV n E v k x≤k+1:=by
 induction k with
 |zero=>
  show(if _ then _ else _)≤_;split<;>omega
 |succ k ih=>
  show(if _ then _ else _)≤_;split
  ·omega
  ·split
   ·exact Nat.le_refl _
   ·exact Nat.zero_le _
theorem Ba{k x j:Nat}(h:bV n E v k x=j+1):j≤k∧bV n E v j x=j+1:=by
 induction k with
 |zero=>
  have:=wD (n:=n) (E:=E) (v:=v) 0 x;obtain rfl:j=0:=(by omega);exact⟨Nat.le_refl _,h⟩
 |succ k ih=>
  by_cases h0:bV n E v k x=0
  ·have h1:bV n E v (k+1) x=(if bV n E v k x≠0 then bV n E v k x else if((List.range n).any fun y=>E x y&&decide (bV n E v k y=k+1))=true then k+2 else 0):=rfl;rw[if_neg (by omega)]at h1;split at h1
   ·obtain rfl:j=k+1:=(by omega);exact⟨Nat.le_refl _,h⟩
   ·omega
  ·rw[lS h0]at h;obtain⟨g1,g2⟩:=ih h;exact⟨by omega,g2⟩
theorem pU{k x:Nat}(h0:bV n E v k x=0):bV n E v (k+1) x=if((List.range n).any fun y=>E x y&&decide (bV n E v k y=k+1))=true then k+2 else 0:=by
 show(if _ then _ else _)=_;rw[if_neg (by omega)]
theorem uq{k x j:Nat}(h:bV n E v k x=j+2):∃y,y<n∧E x y=true∧bV n E v k y=j+1:=by
 obtain⟨h1,h2⟩:=Ba (j:=j+1) h;have h0:bV n E v j x=0:=by
  refine Classical.byContradiction fun hne=> ?_;rw[lS hne]at h2;have:=wD (n:=n) (E:=E) (v:=v) j x;omega
 rw[pU h0]at h2;split at h2
 ·rename_i hy;rw[List.any_eq_true]at hy;obtain⟨y,hy,h3⟩:=hy;rw[Bool.and_eq_true]at h3;have h4:=of_decide_eq_true h3.2;have:=lT (n:=n) (E:=E) (v:=v) (k:=j) (x:=y) (by omega) (k-j);rw[show j+(k-j)=k by omega]at this;exact⟨y,List.mem_range.1 hy,h3.1,by omega⟩
 ·omega
theorem KD{k x:Nat}(h:bV n E v k x=1):E x v=true:=by
 obtain⟨_,h2⟩:=Ba (j:=0) h;have h3:(if E x v=true then 1 else 0)=1:=h2;split at h3
 ·assumption
 ·omega
theorem Ib{k x:Nat}(h:E x v=true):bV n E v k x=1:=by
 have h0:bV n E v 0 x=1:=by
  show(if _ then _ else _)=_;rw[if_pos h]
 have:=lT (n:=n) (E:=E) (v:=v) (k:=0) (x:=x) (by omega) k;rw[Nat.zero_add]at this;omega
theorem MP{k x y j:Nat}(hy:y<n)(he:E x y=true)(h:bV n E v k y=j+1)(hj:j<k):bV n E v k x≠0:=by
 obtain⟨_,h2⟩:=Ba h;by_cases h0:bV n E v j x=0
 ·have h3:bV n E v (j+1) x=j+2:=by
   rw[pU h0,if_pos (by rw[List.any_eq_true];exact⟨y,List.mem_range.2 hy,by rw[he,decide_eq_true h2];rfl⟩)]
  have:=lT (n:=n) (E:=E) (v:=v) (k:=j+1) (x:=x) (by omega) (k-(j+1));rw[show j+1+(k-(j+1))=k by omega]at this;omega
 ·have:=lT (n:=n) (E:=E) (v:=v) h0 (k-j);rw[show j+(k-j)=k by omega]at this;omega
theorem qY{k:Nat}:∀(j x:Nat),x<n→bV n E v k x=j+1→∃l:List Nat,l.Nodup∧l.length=j+1∧∀y∈l,y<n∧bV n E v k y≠0∧bV n E v k y≤j+1
 |0,x,hx,h=>⟨[x],by simp,rfl,fun y hy=>by rw[List.mem_singleton]at hy;subst hy;omega⟩
 |j+1,x,hx,h=>by
  obtain⟨y,hy,_,h2⟩:=uq h;obtain⟨l,h3,h4,h5⟩:=qY j y hy h2;refine⟨x::l,List.nodup_cons.2 ⟨fun hm=> ?_,h3⟩,by rw[List.length_cons,h4],fun z hz=> ?_⟩
  ·have:=h5 x hm;omega
  ·rw[List.mem_cons]at hz;rcases hz with rfl|hz
   ·omega
   ·have:=h5 z hz;omega
theorem lU{k x:Nat}(hx:x<n):bV n E v k x≤n:=by
 cases h:bV n E v k x with
 |zero=>omega
 |succ j=>
  obtain⟨l,h1,h2,h3⟩:=qY j x hx h;have:=pR l (List.range n) h1 fun y hy=>List.mem_range.2 (h3 y hy).1;simp at this;omega
theorem zG{k x:Nat}(hx:x<n)(h:bV n E v k x=n){y:Nat}(hy:y<n):bV n E v k y≠0:=by
 intro h0;obtain⟨j,rfl⟩:∃j,n=j+1:=⟨n-1,by omega⟩;obtain⟨l,h1,h2,h3⟩:=qY j x hx h;have:=pR (y::l) (List.range (j+1)) (List.nodup_cons.2 ⟨fun hm=>(h3 y hm).2.1 h0,h1⟩) fun z hz=>by
  rw[List.mem_cons]at hz;rw[List.mem_range];rcases hz with rfl|hz
  ·exact hy
  ·exact(h3 z hz).1
 simp at this;omega
theorem EF{d x:Nat}(hx:x<n):bV n E v (n-1+d) x=bV n E v (n-1) x:=by
 induction d with
 |zero=>rfl
 |succ d ih=>
  rw[show n-1+(d+1)=n-1+d+1 by omega];by_cases h0:bV n E v (n-1+d) x=0
  ·rw[pU h0];split
   ·rename_i hy;exfalso;rw[List.any_eq_true]at hy;obtain⟨y,hy,h3⟩:=hy;rw[Bool.and_eq_true]at h3;have h4:=of_decide_eq_true h3.2;have h5:=lU (n:=n) (E:=E) (v:=v) (k:=n-1+d) (List.mem_range.1 hy);exact zG (List.mem_range.1 hy) (show bV n E v (n-1+d) y=n by omega) hx h0
   ·omega
  ·rw[lS h0,ih]
theorem KE{k:Nat}(h:∀x y,x<n→y<n→bV n E v k y=k+1→E x y=false)(d:Nat){x:Nat}(hx:x<n):bV n E v (k+d) x=bV n E v k x:=by
 induction d generalizing x with
 |zero=>rfl
 |succ d ih=>
  rw[show k+(d+1)=k+d+1 by omega];by_cases h0:bV n E v (k+d) x=0
  ·rw[pU h0];split
   ·rename_i hy;exfalso;rw[List.any_eq_true]at hy;obtain⟨y,hy,h3⟩:=hy;have hy:=List.mem_range.1 hy;rw[Bool.and_eq_true]at h3;have h4:=of_decide_eq_true h3.2;rw[ih hy]at h4;have h5:=wD (n:=n) (E:=E) (v:=v) k y;obtain rfl:d=0:=(by omega);rw[h x y hx hy (by omega)]at h3;exact absurd h3.1 (by decide)
   ·rw[←ih hx];exact h0.symm
  ·rw[lS h0,ih hx]
end
def bU(n:Nat)(E:aj)(v x:Nat):Nat:=bV n E v (n-1) x
theorem zH{n:Nat}{E:aj}{v k:Nat}(h:∀x y,x<n→y<n→bV n E v k y=k+1→E x y=false){x:Nat}(hx:x<n):bV n E v k x=bU n E v x:=by
 unfold bU;by_cases hk:k≤n-1
 ·have:=KE h (n-1-k) hx;rw[show k+(n-1-k)=n-1 by omega]at this;exact this.symm
 ·have:=EF (n:=n) (E:=E) (v:=v) (d:=k-(n-1)) hx;rw[show n-1+(k-(n-1))=k by omega]at this;exact this
theorem Co{n:Nat}{E:aj}{v:Nat}:∀(j x:Nat),bU n E v x=j+1→∃l:List Nat,(∀a∈l,a<n)∧qX E x l v=true
 |0,x,h=>⟨[],by simp,KD h⟩
 |j+1,x,h=>by
  obtain⟨y,hy,he,h2⟩:=uq (n:=n) (E:=E) (v:=v) h;obtain⟨l,hl,hw⟩:=Co j y h2;exact⟨y::l,by simp;exact⟨hy,hl⟩,by show(E x y&&qX E y l v)=true;rw[he,hw];rfl⟩
theorem Cq{n:Nat}{E:aj}{v:Nat}:∀(l:List Nat) (x:Nat),x<n→(∀a∈l,a<n)→qX E x l v=true→bU n E v x≠0
 |[],x,hx,_,hw=>by
  have hw:E x v=true:=hw;unfold bU;rw[Ib hw];decide
 |a::l,x,hx,hl,hw=>by
  have hw:(E x a&&qX E a l v)=true:=hw;rw[Bool.and_eq_true]at hw;have ha:=hl a (by simp);have ih:=Cq l a ha (fun b hb=>hl b (by simp[hb])) hw.2;unfold bU at ih⊢;obtain⟨j,hj⟩:∃j,bV n E v (n-1) a=j+1:=⟨bV n E v (n-1) a-1,by omega⟩;have jP:=lU (n:=n) (E:=E) (v:=v) (k:=n-1) ha;by_cases hjn:j+1=n
  ·exact zG ha (hj.trans hjn) hx
  ·exact MP ha hw.1 hj (by omega)
def uS(n:Nat)(E:aj)(d:Nat→Nat)(x left:Nat):Option Nat:=(List.range n).find? fun y=>E x y&&decide (d y=left)
def nN(n:Nat)(E:aj)(d:Nat→Nat)(x:Nat):Nat→List Nat
 |0=>[]
 |l+1=>match uS n E d x (l+1)with
  |some y=>y::nN n E d y l
  |none=>[]
def eY(n:Nat)(E:aj):List Nat:=match (List.range n).find? fun v=>bU n E v v !=0 with
 |none=>[]
 |some v=>v::nN n E (bU n E v) v (bU n E v v-1)
theorem qZ{n:Nat}{E:aj}{v x l:Nat}(h:bU n E v x=l+2):∃y,uS n E (bU n E v) x (l+1)=some y∧y<n∧E x y=true∧bU n E v y=l+1:=by
 obtain⟨z,hz,he,h2⟩:=uq (n:=n) (E:=E) (v:=v) h;cases hf:uS n E (bU n E v) x (l+1)with
 |none=>
  unfold uS at hf;rw[List.find?_eq_none]at hf;exact absurd (by rw[he,Bool.true_and];exact decide_eq_true h2) (hf z (List.mem_range.2 hz))
 |some y=>
  have h1:=List.find?_some hf;have h3:=List.mem_of_find?_eq_some hf;rw[Bool.and_eq_true]at h1;exact⟨y,rfl,List.mem_range.1 h3,h1.1,of_decide_eq_true h1.2⟩
theorem ru{n:Nat}{E:aj}{d:Nat→Nat}{x y l:Nat}(h:uS n E d x (l+1)=some y):nN n E d x (l+1)=y::nN n E d y l:=by
 show(match uS n E d x (l+1)with|some y=>y::nN n E d y l|none=>[])=_;rw[h]
theorem zI{n:Nat}{E:aj}{v:Nat}:∀(l x:Nat),bU n E v x=l+1→(nN n E (bU n E v) x l).length=l
 |0,x,_=>rfl
 |l+1,x,h=>by
  obtain⟨y,h1,_,_,h4⟩:=qZ h;rw[ru h1,List.length_cons,zI l y h4]
theorem Ic{n:Nat}{E:aj}:eY n E=[]↔yT n E=false:=by
 have hcl:∀v,v<n→(bU n E v v≠0↔vK n E v v=true):=fun v hv=>by
  constructor
  ·intro h;obtain⟨l,hl,hw⟩:=Co (bU n E v v-1) v (show bU n E v v=_ by omega);exact uo n l.length l v v (Nat.le_refl _) hl hw
  ·intro h;obtain⟨l,hl,hw⟩:=iT n v v h;exact Cq l v hv hl hw
 unfold eY yT;cases hf:(List.range n).find? fun v=>bU n E v v !=0 with
 |none=>
  rw[List.find?_eq_none]at hf;simp only[true_iff];rw[List.any_eq_false];intro v hv hc;exact hf v hv (by rw[bne_iff_ne];exact(hcl v (List.mem_range.1 hv)).2 hc)
 |some v=>
  have h1:=List.find?_some hf;have h2:=List.mem_of_find?_eq_some hf;rw[bne_iff_ne]at h1;constructor
  ·intro h;cases h
  ·intro h;rw[List.any_eq_false]at h;exact absurd ((hcl v (List.mem_range.1 h2)).1 h1) (h v h2)
theorem jC{n:Nat}{E:aj}:(eY n E).length≤n+1:=by
 unfold eY;cases hf:(List.range n).find? fun v=>bU n E v v !=0 with
 |none=>simp
 |some v=>
  have h1:=List.find?_some hf;have hv:=List.mem_range.1 (List.mem_of_find?_eq_some hf);have h0:bU n E v v≠0:=(by simpa using h1);have hle:bU n E v v≤n:=lU hv;rw[List.length_cons,zI (bU n E v v-1) v (by omega)];omega
section
variable{H:List Txn}{l:List Cho}{x y:Nat}
end
def bA(H:List Txn)(level:Int)(l:List Cho):List Int:=(eY H.length (bK H level l)).map fun(x:Nat)=>(x:Int)
structure Nod where
 c:Cho
 cyc:List Int
deriving DecidableEq
def bn:Cho:=⟨0,0,0⟩
def lV:Fct:=⟨bn,0,0,0,[]⟩
def ak(L:List Fct):List Cho:=L.map (·.c)
theorem bM(L:List Fct):(ak L).length=L.length:=List.length_map ..
theorem EG(L:List Fct)(f:Fct):ak (L++[f])=ak L++[f.c]:=by unfold ak;rw[List.map_append];rfl
theorem EH(L:List Fct)(i:Nat):ak (L.take i)=(ak L).take i:=by unfold ak;rw[List.map_take]
def iU(H:List Txn)(level:Int)(L:List Fct)(n:Nat):Bool:=(List.range n).all fun i=>aR H level (L.take i) (L.getD i lV)
def dA(H:List Txn)(level:Int)(L:List Fct):Bool:=iU H level L L.length&&lQ H level
theorem Cr(H:List Txn)(level:Int)(L:List Fct)(n:Nat):iU H level L (n+1)=(iU H level L n&&aR H level (L.take n) (L.getD n lV)):=by
 unfold iU;rw[List.range_succ,List.all_append];simp
theorem Ie{H:List Txn}{level:Int}{L:List Fct}{n i:Nat}(h:iU H level L n=true)(hi:i<n):aR H level (L.take i) (L.getD i lV)=true:=by
 unfold iU at h;rw[List.all_eq_true]at h;exact h i (List.mem_range.2 hi)
theorem Ig{H:List Txn}{level:Int}{L:List Fct}{n i:Nat}(h:aR H level (L.take i) (L.getD i lV)=false)(hi:i<n):iU H level L n=false:=by
 unfold iU;rw[List.all_eq_false];exact⟨i,List.mem_range.2 hi,by rw[h];decide⟩
theorem kL{α:Type}{l:List α}{i:Nat}{d:α}(h:i<l.length):l.getD i d=l[i]:=by rw[List.getD_eq_getElem?_getD,List.getElem?_eq_getElem h];rfl
theorem KF{H:List Txn}{level:Int}{L:List Fct}(h:dA H level L=true){i:Nat}(hi:i<L.length):aR H level (L.take i) L[i]=true:=by
 unfold dA at h;rw[Bool.and_eq_true]at h;have:=Ie h.1 hi;rwa[kL hi]at this
theorem fI{H:List Txn}{level:Int}{L:List Fct}(h:dA H level L=true):lQ H level=true:=by
 unfold dA at h;rw[Bool.and_eq_true]at h;exact h.2
theorem iX{H:List Txn}{level:Int}:lQ H level=true↔aC H=true∧(level=0∨level=1):=by
 unfold lQ;rw[Bool.and_eq_true,Bool.or_eq_true,decide_eq_true_eq,decide_eq_true_eq]
theorem holds_one{H:List Txn}{level:Int}{L:List Fct}{f:Fct}(h:aR H level L f=true):dB H f.c=true:=by
 unfold aR at h;simp only[Bool.and_eq_true]at h;exact h.1.1.2
theorem oL{H:List Txn}{level:Int}{L:List Fct}(h:dA H level L=true):∀c∈ak L,dB H c=true:=fun c hc=>by
 unfold ak at hc;obtain⟨f,hf,rfl⟩:=List.mem_map.1 hc;obtain⟨i,hi,rfl⟩:=List.getElem_of_mem hf;exact holds_one (KF h hi)
theorem xL{H:List Txn}{level:Int}{L:List Fct}(h:dA H level L=true)(hn:L.length≤20000):cB H (ak L)=true:=by
 unfold cB;rw[(iX.1 (fI h)).1,bM,decide_eq_true hn,Bool.true_and,Bool.true_and,List.all_eq_true];exact oL h
def Ct(H:List Txn)(level:Int)(L:List Fct)(i:Nat):Nod:=⟨bn,bA H level (ak (L.take i)++[bg (L.getD i lV).c])⟩
def eH(H:List Txn)(level:Int)(L:List Fct)(tree:List Nod):List Nod:=
 L.map (fun f=>⟨f.c,[]⟩)++tree++(List.range L.length).map fun k=>Ct H level L (L.length-1-k)
def jQ(H:List Txn)(l:List Cho):Option Cho:=(aM H).find? fun p=> !l.contains p&& !l.contains (bg p)
structure Say where
 said:Int
 order:List Nat
 tree:List Nod
 facts:List Fct
deriving DecidableEq
def jk:Say:=⟨3,[],[],[]⟩
def lW:Say:=⟨0,[],[],[]⟩
def jR(H:List Txn)(at' idle:Int):Bool:=aC H&&decide (0≤idle)&&decide (idle≤((aM H).length:Int))&&decide (0≤at')&&decide (at'<max ((aM H).length:Int) 1)
def eZ(H:List Txn)(level:Int)(L:List Fct):Say:=
 match jQ H (ak L)with
 |some _=>jk
 |none=>match fK H.length (bK H level (ak L))with
  |some o=>⟨1,o,[],[]⟩
  |none=>⟨2,[],eH H level L [⟨bn,bA H level (ak L)⟩],[]⟩
def eB(c:Cho)(x:Nat×Nat):Fct:=⟨c,2,(x.1:Int),(x.2:Int),[]⟩
def Ou(n:Nat):List (Nat×Nat):=((List.range n).map fun i=>(List.range n).map fun j=>(i,j)).flatten
def fq(H:List Txn)(level:Int)(L:List Fct)(c:Cho):Option Fct:=((Ou L.length).map (eB c)).find? (aR H level L)
def gQ(H:List Txn)(level:Int)(L:List Fct)(p:Cho):Say:=
 match fq H level L p with
 |some f=>⟨0,[],[],[f]⟩
 |none=>match fq H level L (bg p)with
  |some f=>⟨0,[],[],[f]⟩
  |none=>
   let a:=bA H level (ak L++[bg p])
   let b:=bA H level (ak L++[p])
   if a=[]then if b=[]then lW else⟨0,[],[],[⟨bg p,4,0,0,b⟩]⟩
   else if b=[]then⟨0,[],[],[⟨p,4,0,0,a⟩]⟩
   else⟨2,[],eH H level L [⟨p,[]⟩,⟨bn,b⟩,⟨bn,a⟩],[]⟩
def dR(H:List Txn)(level at' idle:Int)(L:List Fct):(Int×Int)×Say:=
 if jR H at' idle&&decide (L.length<20000)&&dA H level L then
  if idle=((aM H).length:Int)then((at',idle),eZ H level L)
  else
   let p:=(aM H).getD at'.toNat bn
   let at2:Int:=(((at'.toNat+1)%(aM H).length:Nat):Int)
   if(ak L).contains p||(ak L).contains (bg p)then((at2,idle+1),lW)
   else
    let o:=gQ H level L p
    ((at2,if o.facts=[]then idle+1 else 0),o)
 else((at',idle),jk)
theorem Ih(H:List Txn)(level:Int)(L:List Fct)(p:Cho):((gQ H level L p).said=0∧(gQ H level L p).facts.length≤1)∨((gQ H level L p).said=2∧(gQ H level L p).facts=[]):=by
 unfold gQ;split
 ·exact .inl ⟨rfl,Nat.le_refl _⟩
 ·split
  ·exact .inl ⟨rfl,Nat.le_refl _⟩
  ·dsimp only;split
   ·split
    ·exact .inl ⟨rfl,Nat.zero_le _⟩
    ·exact .inl ⟨rfl,Nat.le_refl _⟩
   ·split
    ·exact .inl ⟨rfl,Nat.le_refl _⟩
    ·exact .inr ⟨rfl,rfl⟩
theorem EI(H:List Txn)(level:Int)(L:List Fct):(eZ H level L).said≠0∧(eZ H level L).facts=[]:=by
 unfold eZ;split
 ·exact⟨by show(3:Int)≠0;decide,rfl⟩
 ·split
  ·exact⟨by show(1:Int)≠0;decide,rfl⟩
  ·exact⟨by show(2:Int)≠0;decide,rfl⟩
end Go.Inq
namespace Go.Proofs.YtfhnamomiaekdaaGreatDoor
open Go.RowKit Go.Inq
set_option maxHeartbeats 1000000
def jw(w:World)(K:Nat→Prop)(cs:List Value)(f:Fct):Prop:=∃A c,cs=[.int .i64 f.c.key,.int .i64 f.c.a,.int .i64 f.c.b,.int .i64 f.kind,.int .i64 f.i,.int .i64 f.j,.slice A f.cyc.length c]∧aI w K (.slice A f.cyc.length c) f.cyc
theorem jw.bE:jD jw:=fun _ _ _ _ _ _ h ha hk=>by
 obtain⟨A,c,h1,h2⟩:=h;exact⟨A,c,h1,aI.keep h2 ha hk⟩
def bF(w:World)(K:Nat→Prop)(v:Value)(l:List Fct):Prop:=SlR 7 jw w K v l
section
variable{w w':World}{K K':Nat→Prop}{v:Value}{l:List Fct}
theorem bF.keep(h:bF w K v l)(ha:Agree K w w')(hk:∀b,K b→K' b):bF w' K' v l:=SlR.keep jw.bE h ha hk
theorem bF.below(h:bF w (Old w) v l)(hb:Below w.heap.size w w'):bF w' (Old w') v l:=SlR.below jw.bE h hb
theorem bF.fit(h:bF w K v l)(hk:∀b,K b→K' b):bF w K' v l:=SlR.fit jw.bE h hk
theorem bF.nil(w:World)(K:Nat→Prop)(A:Option Addr)(c:Nat):bF w K (.slice A 0 c) []:=SlR.nil _ _ _ _ _ _
theorem bF.take{A:Option Addr}{n c:Nat}(h:bF w K (.slice A n c) l){k:Nat}(hk:k≤l.length):bF w K (.slice A k c) (l.take k):=SlR.take h hk
theorem bF.cap{A:Option Addr}{n c:Nat}(h:bF w K (.slice A n c) l):l.length≤c:=by
 obtain⟨_,_,e,h1⟩:=SlR.len h;simp only[Value.slice.injEq]at e;omega
structure PV(w:World)(K:Nat→Prop)(b o:Nat)(f:Fct)(Ay:Option Addr)(cy:Nat):Prop where
 d0:w.cell? ⟨b,o,none⟩=some (.int .i64 f.c.key)
 d1:w.cell? ⟨b,o+1,none⟩=some (.int .i64 f.c.a)
 d2:w.cell? ⟨b,o+2,none⟩=some (.int .i64 f.c.b)
 d3:w.cell? ⟨b,o+3,none⟩=some (.int .i64 f.kind)
 d4:w.cell? ⟨b,o+4,none⟩=some (.int .i64 f.i)
 d5:w.cell? ⟨b,o+5,none⟩=some (.int .i64 f.j)
 d6:w.cell? ⟨b,o+6,none⟩=some (.slice Ay f.cyc.length cy)
 cyc:aI w K (.slice Ay f.cyc.length cy) f.cyc
theorem bF.at_{A:Option Addr}{n c:Nat}(h:bF w K (.slice A n c) l){i:Nat}(hi:i<l.length):∃b off Ay cy,A=some ⟨b,off,none⟩∧K b∧PV w K b (off+i*7) l[i] Ay cy:=by
 obtain⟨b,off,cs,hA,hK,-,⟨Ay,cy,rfl,hy⟩,hc⟩:=SlR.at_ h hi;exact⟨b,off,Ay,cy,hA,hK,hc 0 _ rfl,hc 1 _ rfl,hc 2 _ rfl,hc 3 _ rfl,hc 4 _ rfl,hc 5 _ rfl,hc 6 _ rfl,hy⟩
end
def gB(w:World)(K:Nat→Prop)(cs:List Value)(n:Nod):Prop:=∃A c,cs=[.int .i64 n.c.key,.int .i64 n.c.a,.int .i64 n.c.b,.slice A n.cyc.length c]∧aI w K (.slice A n.cyc.length c) n.cyc
theorem gB.bE:jD gB:=fun _ _ _ _ _ _ h ha hk=>by
 obtain⟨A,c,h1,h2⟩:=h;exact⟨A,c,h1,aI.keep h2 ha hk⟩
def dH(w:World)(K:Nat→Prop)(v:Value)(l:List Nod):Prop:=SlR 4 gB w K v l
section
variable{w w':World}{K K':Nat→Prop}{v:Value}{l:List Nod}
theorem dH.keep(h:dH w K v l)(ha:Agree K w w')(hk:∀b,K b→K' b):dH w' K' v l:=SlR.keep gB.bE h ha hk
theorem dH.below(h:dH w (Old w) v l)(hb:Below w.heap.size w w'):dH w' (Old w') v l:=SlR.below gB.bE h hb
theorem dH.fit(h:dH w K v l)(hk:∀b,K b→K' b):dH w K' v l:=SlR.fit gB.bE h hk
theorem dH.nil(w:World)(K:Nat→Prop)(A:Option Addr)(c:Nat):dH w K (.slice A 0 c) []:=SlR.nil _ _ _ _ _ _
theorem dH.cap{A:Option Addr}{n c:Nat}(h:dH w K (.slice A n c) l):l.length≤c:=by
 obtain⟨_,_,e,h1⟩:=SlR.len h;simp only[Value.slice.injEq]at e;omega
structure PW(w:World)(K:Nat→Prop)(b o:Nat)(n:Nod)(Ay:Option Addr)(cy:Nat):Prop where
 d0:w.cell? ⟨b,o,none⟩=some (.int .i64 n.c.key)
 d1:w.cell? ⟨b,o+1,none⟩=some (.int .i64 n.c.a)
 d2:w.cell? ⟨b,o+2,none⟩=some (.int .i64 n.c.b)
 d3:w.cell? ⟨b,o+3,none⟩=some (.slice Ay n.cyc.length cy)
 cyc:aI w K (.slice Ay n.cyc.length cy) n.cyc
theorem dH.at_{A:Option Addr}{n c:Nat}(h:dH w K (.slice A n c) l){i:Nat}(hi:i<l.length):∃b off Ay cy,A=some ⟨b,off,none⟩∧K b∧PW w K b (off+i*4) l[i] Ay cy:=by
 obtain⟨b,off,cs,hA,hK,-,⟨Ay,cy,rfl,hy⟩,hc⟩:=SlR.at_ h hi;exact⟨b,off,Ay,cy,hA,hK,hc 0 _ rfl,hc 1 _ rfl,hc 2 _ rfl,hc 3 _ rfl,hy⟩
end
def uw(L:List Fct):Prop:=L.length≤1000000∧∀f∈L,f.cyc.length≤1000000
def Bb(l:List Nod):Prop:=l.length≤100000000∧∀n∈l,n.cyc.length≤1000000
end Go.Proofs.YtfhnamomiaekdaaGreatDoor
namespace Go.Inq
open Go
section
variable{P:Program}{ops:Array Oper}{Q:Exit→Act→World→Prop}{a b a0:Act}
theorem Flo.congr{vs vs':Nat→Value}{L:Nat→Bool}(h:Flo ops a0 vs L a)(hv:∀j,L j=true→vs j=vs' j):Flo ops a0 vs' L a:=
 ⟨h.defers,h.size,fun j o t hj hd hl hs=>by rw[←hv j hl];exact h.hit j o t hj hd hl hs,h.miss⟩
theorem Cu {i:Nat} {o:Oper} {w:World} {R:Value→World→Prop} {K:Act→World→Prop} (ho:ops[i]?=some o) (hsel:∀cs b,o.op≠ .select cs b)
 (hr:∀t∈iH ops o,a.tmps[t]?=b.tmps[t]?) (hs:a.tmps.size=b.tmps.size) (hK:∀v w',R v w'→K (a.put o.dst v) w')
 (h:wpList P ops (fun e a' w'=>e= .normal∧∃v,a'=b.put o.dst v∧R v w') [o] b w):wpOp P ops Q i K a w:=by
 have hw:Region.wanted o (yielded ops a.tmps)=Region.wanted o (yielded ops b.tmps):=by
  unfold Region.wanted;cases hg:o.guard with
  |none=>rfl
  |some g=>
   obtain⟨j,x⟩:=g;dsimp only;have:yielded ops a.tmps j=yielded ops b.tmps j:=by
    unfold yielded;cases hd:(ops[j]?).bind (·.dst)with
    |none=>rfl
    |some t=>
     have hm:t∈iH ops o:=by
      unfold iH;rw[hg];refine List.mem_append.2 (.inr ?_);show t∈((ops[j]?).bind (·.dst)).toList;rw[hd];simp
     simp only[Option.bind_some];rw[hr t hm]
   rw[this]
 have he:execOp a.eval o=execOp b.eval o:=by
  refine execOp_congr o hsel fun x hx=> ?_;cases x with
  |tmp t=>
   have hm:t∈iH ops o:=by
    unfold iH;refine List.mem_append.2 (.inl ?_);rw[List.mem_filterMap];exact⟨.tmp t,by simpa using hx,rfl⟩
   have:=hr t hm;simp only[Act.eval,Array.getD_eq_getD_getElem?,this]
  |_=>rfl
 unfold wpOp;rw[ho];dsimp only;unfold wpList at h;rw[hw];by_cases hwd:Region.wanted o (yielded ops b.tmps)=true
 ·rw[if_pos hwd]at h⊢;left;rcases h with h|⟨_,_,_,h,_⟩
  ·unfold Oper.wp at*;rw[he];generalize(execOp b.eval o).run P w=r at h;have key:∀u w',wpList P ops (fun e a' w'=>e= .normal∧∃v,a'=b.put o.dst v∧R v w') [] (b.put o.dst u) w'→K (a.put o.dst u) w':=fun u w' h=>by
    unfold wpList at h;obtain⟨_,v,h1,h2⟩:=h;rw[wu hs h1];exact hK v w' h2
   cases r with
   |halt x w'=>
    cases x<;>simp only[Oper.upon]at h⊢;exact absurd h.1 (by simp)
   |ok n w'=>
    cases n with
    |value u=>exact key u w' h
    |skip=>exact key undef w' h
    |defer d=>
     simp only[Oper.upon]at h;unfold wpList at h;obtain⟨_,v,h1,_⟩:=h;have h1:=congrArg Act.defers h1;rw[put_defers,put_defers]at h1;exact absurd (congrArg List.length h1) (by simp)
    |enter f args=>
     simp only[Oper.upon]at h⊢;refine Calls.mono h fun e w'' he=> ?_;cases e with
     |returned u=>exact key u w'' he
     |panicked c=>exact absurd he.1 (by simp)
     |outgrown=>
      obtain⟨_,_,h1,_⟩:=he;cases h1
    |row r args=>
     simp only[Oper.upon]at h⊢;exact Rows.mono h fun u w'' he=>key u w'' he
    |_=>simp only[Oper.upon]at h
  ·cases h
 ·rw[if_neg hwd]at h⊢;unfold wpList at h;obtain⟨_,v,h1,h2⟩:=h;rw[wu hs h1];exact hK v w h2
def acV(ops:Array Oper)(a0:Act)(vs:Nat→Value):Nat→Act
 |0=>a0
 |i+1=>match ops[i]? with
  |some o=>(acV ops a0 vs i).put o.dst (vs i)
  |none=>acV ops a0 vs i
theorem sG(hB:fG ops=true)(vs:Nat→Value):∀i,Flo ops a0 vs (fun j=>decide (j<i)) (acV ops a0 vs i)
 |0=>Flo.start fun j=>by simp
 |i+1=>by
  unfold acV;have ih:=sG hB vs i;cases hx:ops[i]? with
  |none=>
   have hle:ops.size≤i:=by
    rcases Nat.lt_or_ge i ops.size with h1|h1
    ·rw[Array.getElem?_eq_getElem h1]at hx;cases hx
    ·exact h1
   dsimp only;refine⟨ih.defers,ih.size,fun j o t hj hd hlt hs=>ih.hit j o t hj hd ?_ hs,fun t ht=>ih.miss t fun j o hj hd=> ?_⟩
   ·have:=(Array.getElem?_eq_some_iff.1 hj).1;simp at this⊢;omega
   ·have:=ht j o hj hd;simp at this⊢;omega
  |some o=>
   dsimp only;refine ih.put hB hx fun j=> ?_;rw[Bool.eq_iff_iff];simp;omega
def dh(vs:Nat→Value)(i:Nat)(v:Value):Nat→Value:=fun j=>if j=i then v else vs j
theorem Ii {Rs:Nat→(Nat→Value)→World→Prop} {S:World→Prop} {St:Nat→World→World→Prop} (hB:fG ops=true) (dp:Nat→List Nat) (hdp:∀i j,j∈dp i→bC .any ops ops.size i j=true)
 (kl:Nat→List Nat) (hkl:∀i j k,i<ops.size→k<ops.size→j∈kl i→j∈dp k→k=i∨bC .any ops ops.size i k=true)
 (hcg:∀j vs vs' w,(∀k,k=j∨k∈dp j→vs k=vs' k)→Rs j vs w→Rs j vs' w) (hR:∀i j vs w w',j≠i→j∉kl i→Rs j vs w→St i w w'→Rs j vs w')
 (hstep:∀i o,ops[i]?=some o→∀(vs:Nat→Value) w,S w→(∀j∈dp i,Rs j vs w)→wpList P ops (fun e a' w'=>e= .normal∧∃v,a'=(acV ops a0 vs i).put o.dst v∧Rs i (dh vs i v) w'∧S w'∧St i w w') [o] (acV ops a0 vs i) w)
 (hend:∀(vs:Nat→Value) w,S w→(∀j,j<ops.size→(∀i,i<ops.size→j∉kl i)→Rs j vs w)→Q .normal (acV ops a0 vs ops.size) w):
 ∀(fuel:Nat) (listed:Array Bool) (a:Act) (w:World) (vs:Nat→Value),Closed .any ops listed→listed.size=ops.size→lacks ops.size (fun j=>listed.getD j false)=fuel→Flo ops a0 vs (fun j=>listed.getD j false) a→S w→
  (∀j,listed.getD j false=true→(∀i,listed.getD i false=true→j∉kl i)→Rs j vs w)→wpAny P .any ops Q fuel listed a w:=by
 have hnone:∀(listed:Array Bool),listed.size=ops.size→Region.ready .any ops listed=[]→∀i,i<ops.size→listed.getD i false=true:=by
  intro listed hsz hr i
  induction i using Nat.strongRecOn with
  |_ i ih=>
   intro hi;cases hl:listed.getD i false with
   |true=>rfl
   |false=>
    exfalso;have ho:ops[i]?=some ops[i]:=Array.getElem?_eq_getElem hi;have hm:i∈Region.ready .any ops listed:=by
     rw[mem_ready];refine⟨?_,ops[i],ho,fun e he hb=> ?_⟩
     ·have hi2:i<listed.size:=(by omega);simp only[Array.getD_eq_getD_getElem?,Array.getElem?_eq_getElem hi2,Option.getD_some]at hl⊢;exact hl
     ·have h1:=mW hB ho e he hb;exact ih e.on h1 (by omega)
    rw[hr]at hm;cases hm
 have hfin:∀(listed:Array Bool) (a:Act) (w:World) (vs:Nat→Value),listed.size=ops.size→(∀i,i<ops.size→listed.getD i false=true)→Flo ops a0 vs (fun j=>listed.getD j false) a→S w→(∀j,listed.getD j false=true→(∀i,listed.getD i false=true→j∉kl i)→Rs j vs w)→Q .normal a w:=by
  intro listed a w vs QY hall hf hS hRs;have hac:=sG (a0:=a0) hB vs ops.size;have:a=acV ops a0 vs ops.size:=by
   have h1:a.tmps=(acV ops a0 vs ops.size).tmps:=by
    refine Array.ext_getElem? fun t=> ?_;refine hf.agree hac fun j o hj _=> ?_;have hjs:=(Array.getElem?_eq_some_iff.1 hj).1;rw[hall j hjs];simp[hjs]
   have h2:a.defers=(acV ops a0 vs ops.size).defers:=(by rw[hf.defers,hac.defers]);cases a;cases hx:acV ops a0 vs ops.size;rw[hx]at h1 h2;simp only at h1 h2;rw[h1,h2]
  rw[this];refine hend vs w hS fun j hj hk=>hRs j (hall j hj) fun i hi=>hk i ?_;rcases Nat.lt_or_ge i ops.size with h|h
  ·exact h
  ·rw[Array.getD_eq_getD_getElem?,Array.getElem?_eq_none (by omega)]at hi;cases hi
 intro fuel
 induction fuel with
 |zero=>
  intro listed a w vs hcl hsz hlk hf hS hRs;have hall:=pO _ _ hlk;refine⟨?_,hfin listed a w vs hsz hall hf hS hRs⟩;rw[List.eq_nil_iff_forall_not_mem];intro i hi;obtain⟨h1,o,ho,_⟩:=mem_ready.1 hi;have his:=(Array.getElem?_eq_some_iff.1 ho).1;have h2:=hall i his;have hi2:i<listed.size:=(by omega);simp only[Array.getD_eq_getD_getElem?,Array.getElem?_eq_getElem hi2,Option.getD_some]at h1 h2;rw[h1]at h2;cases h2
 |succ fuel ih=>
  intro listed a w vs hcl hsz hlk hf hS hRs;refine⟨fun hr=>hfin listed a w vs hsz (hnone listed hsz hr) hf hS hRs,fun i hi=> ?_⟩;obtain⟨h1,o,ho,hall⟩:=mem_ready.1 hi;have his:=(Array.getElem?_eq_some_iff.1 ho).1;have hi2:i<listed.size:=(by omega);have hun:listed.getD i false=false:=by
   simp only[Array.getD_eq_getD_getElem?,Array.getElem?_eq_getElem hi2,Option.getD_some]at h1⊢;exact h1
  have hset:∀j,(listed.setIfInBounds i true).getD j false=(listed.getD j false||decide (j=i)):=fun j=>by
   by_cases hji:j=i
   ·subst hji;simp[Array.getD_eq_getD_getElem?,hi2]
   ·rw[getD_set_ne false (Ne.symm hji)];simp[hji]
  have hsel:=fun cs b=>Region.noSelect_spec (ops:=ops) (by unfold fG at hB;rw[Bool.and_eq_true]at hB;exact hB.1) i o cs b ho;have hac:=sG (a0:=a0) hB vs i;refine Cu (b:=acV ops a0 vs i) (R:=fun v w'=>Rs i (dh vs i v) w'∧S w'∧St i w w') ho hsel (fun t ht=> ?_) (by rw[hf.size,hac.size]) (fun v w' hS'=> ?_) (hstep i o ho vs w hS fun j hj=>hRs j (hcl.ready (hdp i j hj) hi) fun i' hi' hk=>by
   have QZ:i'<ops.size:=by
    rcases Nat.lt_or_ge i' ops.size with h|h
    ·exact h
    ·rw[Array.getD_eq_getD_getElem?,Array.getElem?_eq_none (by omega)]at hi';cases hi'
   rcases hkl i' j i QZ his hk hj with e|e
   ·subst e;rw[hun]at hi';cases hi'
   ·have:=hcl.waits _ _ _ e hi';rw[hun]at this;cases this)
  ·refine hf.agree hac fun j oj hj hd=> ?_;rcases(kJ hB ho hj hd).2 ht with⟨h2,h3⟩|⟨h2,h3⟩|h2
   ·rw[hcl.ready h3 hi];simp[h2]
   ·have h4:decide (j<i)=false:=(by simp;omega);rw[h4];cases hlj:listed.getD j false with
    |false=>rfl
    |true=>
     have:=hcl.waits _ _ _ h3 hlj;rw[hun]at this;cases this
   ·subst h2;rw[hun];simp
  ·obtain⟨hv,hS2,hst⟩:=hS';have hf2:Flo ops a0 (dh vs i v) (fun j=>listed.getD j false) a:=hf.congr fun j hj=>by
    unfold dh;rw[if_neg];rintro rfl;rw[hun]at hj;cases hj
   have hput:=hf2.put hB ho hset;have hvi:dh vs i v i=v:=(by simp[dh]);rw[hvi]at hput;refine ih (listed.setIfInBounds i true) _ w' (dh vs i v) (hcl.aD hi) (by rw[Array.size_setIfInBounds];exact hsz) ?_ hput hS2 fun j hj hkj=> ?_
   ·have:=pQ (f:=fun j=>listed.getD j false) (g:=fun j=>(listed.setIfInBounds i true).getD j false) hun hset ops.size his;omega
   ·rw[hset]at hj;by_cases hji:j=i
    ·subst hji;exact hv
    ·have hjl:listed.getD j false=true:=(by simpa[hji]using hj);refine hcg j vs _ _ (fun k hk=> ?_) (hR i j _ _ _ hji (hkj i (by rw[hset];simp)) (hRs j hjl fun i' hi'=>hkj i' (by rw[hset,hi'];rfl)) hst);unfold dh;rw[if_neg];rintro rfl;rcases hk with e|hk
     ·exact hji e.symm
     ·have:=hcl.waits _ _ _ (hdp j k hk) hjl;rw[hun]at this;cases this
def rz(R:Value→World→Prop)(a:Act)(d:Option Tmp):Exit→Act→World→Prop:=fun e a' w'=>e= .normal∧∃v,a'=a.put d v∧R v w'
theorem gT {id:Nat} {w:World} {l:List Oper} (Rs:Nat→(Nat→Value)→World→Prop) (S:World→Prop) (St:Nat→World→World→Prop) (dp:Nat→List Nat) (hm:P.follows .mixedOrders=true) (hB:fG l.toArray=true)
 (hdp:((List.range l.length).all fun i=>(dp i).all fun j=>bC .any l.toArray l.length i j)=true) (Ov:∀i,l.length≤i→dp i=[])
 (kl:Nat→List Nat) (hkl:((List.range l.length).all fun i=>(kl i).all fun j=>(List.range l.length).all fun k=> !(dp k).contains j||k==i||bC .any l.toArray l.length i k)=true)
 (hcg:∀j vs vs' w,(∀k,k=j∨k∈dp j→vs k=vs' k)→Rs j vs w→Rs j vs' w) (hR:∀i j vs w w',j≠i→j∉kl i→Rs j vs w→St i w w'→Rs j vs w') (hS:S w.drew)
 (hstep:∀i o,l[i]?=some o→∀(vs:Nat→Value) w,S w→(∀j∈dp i,Rs j vs w)→wpList P l.toArray (rz (fun v w'=>Rs i (dh vs i v) w'∧S w'∧St i w w') (acV l.toArray a vs i) o.dst) [o] (acV l.toArray a vs i) w)
 (hend:∀(vs:Nat→Value) w,S w→(∀j,j<l.length→(∀i,i<l.length→j∉kl i)→Rs j vs w)→Q .normal (acV l.toArray a vs l.length) w):(Code.region id l.toArray true).wp P Q a w:=by
 have hsz:l.toArray.size=l.length:=(by simp);have hget:∀i:Nat,l.toArray[i]?=l[i]?:=fun i=>List.getElem?_toArray ..;refine wp_region_any hm ?_;refine Ii (Rs:=Rs) (S:=S) (St:=St) hB dp (fun i j hj=> ?_) kl (fun i j k hi hk hj hd=> ?_) hcg hR (fun i o ho=>hstep i o (by rw[←hget];exact ho)) (fun vs w h1 h2=>by rw[hsz];exact hend vs w h1 (by rw[←hsz];exact h2)) _ _ a _ (fun _=>undef) (Closed.start _ _ _) (by simp) ?_ (Flo.start fun j=>getD_replicate_false _ _) hS (fun j hj _=>by rw[getD_replicate_false]at hj;cases hj)
 ·rw[hsz];rcases Nat.lt_or_ge i l.length with h|h
  ·exact List.all_eq_true.1 (List.all_eq_true.1 hdp i (List.mem_range.2 h)) j hj
  ·rw[Ov i h]at hj;cases hj
 ·rw[hsz]at hi hk⊢;have h1:=List.all_eq_true.1 (List.all_eq_true.1 (List.all_eq_true.1 hkl i (List.mem_range.2 hi)) j hj) k (List.mem_range.2 hk);rw[Bool.or_eq_true,Bool.or_eq_true,Bool.not_eq_true',beq_iff_eq]at h1;rcases h1 with(h1|h1)|h1
  ·rw[List.contains_iff_mem.2 hd]at h1;cases h1
  ·exact .inl h1
  ·exact .inr h1
 ·have:(fun j=>(Array.replicate l.toArray.size false).getD j false)=fun _=>false:=funext fun j=>getD_replicate_false _ _;rw[this,mX]
end
section
variable{P:Program}{ops:Array Oper}{Q:Exit→Act→World→Prop}{a b a0:Act}
theorem Ij {Inv:(Nat→Bool)→(Nat→Value)→World→Prop} (hB:fG ops=true)
 (hstep:∀i o,ops[i]?=some o→∀(L:Nat→Bool) (vs:Nat→Value) w,L i=false→(∀j,bC .any ops ops.size i j=true→L j=true)→(∀k,bC .any ops ops.size k i=true→L k=false)→Inv L vs w→wpList P ops (fun e a' w'=>e= .normal∧∃v,a'=(acV ops a0 vs i).put o.dst v∧Inv (fun j=>L j||decide (j=i)) (dh vs i v) w') [o] (acV ops a0 vs i) w)
 (hend:∀(L:Nat→Bool) (vs:Nat→Value) w,(∀j,j<ops.size→L j=true)→Inv L vs w→Q .normal (acV ops a0 vs ops.size) w):
 ∀(fuel:Nat) (listed:Array Bool) (a:Act) (w:World) (vs:Nat→Value),Closed .any ops listed→listed.size=ops.size→lacks ops.size (fun j=>listed.getD j false)=fuel→Flo ops a0 vs (fun j=>listed.getD j false) a→
  Inv (fun j=>listed.getD j false) vs w→wpAny P .any ops Q fuel listed a w:=by
 have hnone:∀(listed:Array Bool),listed.size=ops.size→Region.ready .any ops listed=[]→∀i,i<ops.size→listed.getD i false=true:=by
  intro listed hsz hr i
  induction i using Nat.strongRecOn with
  |_ i ih=>
   intro hi;cases hl:listed.getD i false with
   |true=>rfl
   |false=>
    exfalso;have ho:ops[i]?=some ops[i]:=Array.getElem?_eq_getElem hi;have hm:i∈Region.ready .any ops listed:=by
     rw[mem_ready];refine⟨?_,ops[i],ho,fun e he hb=> ?_⟩
     ·have hi2:i<listed.size:=(by omega);simp only[Array.getD_eq_getD_getElem?,Array.getElem?_eq_getElem hi2,Option.getD_some]at hl⊢;exact hl
     ·have h1:=mW hB ho e he hb;exact ih e.on h1 (by omega)
    rw[hr]at hm;cases hm
 have hfin:∀(listed:Array Bool) (a:Act) (w:World) (vs:Nat→Value),listed.size=ops.size→(∀i,i<ops.size→listed.getD i false=true)→Flo ops a0 vs (fun j=>listed.getD j false) a→Inv (fun j=>listed.getD j false) vs w→Q .normal a w:=by
  intro listed a w vs QY hall hf hI;have hac:=sG (a0:=a0) hB vs ops.size;have:a=acV ops a0 vs ops.size:=by
   have h1:a.tmps=(acV ops a0 vs ops.size).tmps:=by
    refine Array.ext_getElem? fun t=> ?_;refine hf.agree hac fun j o hj _=> ?_;have hjs:=(Array.getElem?_eq_some_iff.1 hj).1;rw[hall j hjs];simp[hjs]
   have h2:a.defers=(acV ops a0 vs ops.size).defers:=(by rw[hf.defers,hac.defers]);cases a;cases hx:acV ops a0 vs ops.size;rw[hx]at h1 h2;simp only at h1 h2;rw[h1,h2]
  rw[this];exact hend _ vs w hall hI
 intro fuel
 induction fuel with
 |zero=>
  intro listed a w vs hcl hsz hlk hf hI;have hall:=pO _ _ hlk;refine⟨?_,hfin listed a w vs hsz hall hf hI⟩;rw[List.eq_nil_iff_forall_not_mem];intro i hi;obtain⟨h1,o,ho,_⟩:=mem_ready.1 hi;have his:=(Array.getElem?_eq_some_iff.1 ho).1;have h2:=hall i his;have hi2:i<listed.size:=(by omega);simp only[Array.getD_eq_getD_getElem?,Array.getElem?_eq_getElem hi2,Option.getD_some]at h1 h2;rw[h1]at h2;cases h2
 |succ fuel ih=>
  intro listed a w vs hcl hsz hlk hf hI;refine⟨fun hr=>hfin listed a w vs hsz (hnone listed hsz hr) hf hI,fun i hi=> ?_⟩;obtain⟨h1,o,ho,hall⟩:=mem_ready.1 hi;have his:=(Array.getElem?_eq_some_iff.1 ho).1;have hi2:i<listed.size:=(by omega);have hun:listed.getD i false=false:=by
   simp only[Array.getD_eq_getD_getElem?,Array.getElem?_eq_getElem hi2,Option.getD_some]at h1⊢;exact h1
  have hset:∀j,(listed.setIfInBounds i true).getD j false=(listed.getD j false||decide (j=i)):=fun j=>by
   by_cases hji:j=i
   ·subst hji;simp[Array.getD_eq_getD_getElem?,hi2]
   ·rw[getD_set_ne false (Ne.symm hji)];simp[hji]
  have hsel:=fun cs b=>Region.noSelect_spec (ops:=ops) (by unfold fG at hB;rw[Bool.and_eq_true]at hB;exact hB.1) i o cs b ho;have hac:=sG (a0:=a0) hB vs i;refine Cu (b:=acV ops a0 vs i) (R:=fun v w'=>Inv (fun j=>listed.getD j false||decide (j=i)) (dh vs i v) w') ho hsel (fun t ht=> ?_) (by rw[hf.size,hac.size]) (fun v w' hS'=> ?_) (hstep i o ho (fun j=>listed.getD j false) vs w hun (fun j hj=>hcl.ready hj hi) (fun k hk=>by
   cases hlk:listed.getD k false with
   |false=>rfl
   |true=>
    have:=hcl.waits _ _ _ hk hlk;rw[hun]at this;cases this) hI)
  ·refine hf.agree hac fun j oj hj hd=> ?_;rcases(kJ hB ho hj hd).2 ht with⟨h2,h3⟩|⟨h2,h3⟩|h2
   ·rw[hcl.ready h3 hi];simp[h2]
   ·have h4:decide (j<i)=false:=(by simp;omega);rw[h4];cases hlj:listed.getD j false with
    |false=>rfl
    |true=>
     have:=hcl.waits _ _ _ h3 hlj;rw[hun]at this;cases this
   ·subst h2;rw[hun];simp
  ·have hf2:Flo ops a0 (dh vs i v) (fun j=>listed.getD j false) a:=hf.congr fun j hj=>by
    unfold dh;rw[if_neg];rintro rfl;rw[hun]at hj;cases hj
   have hput:=hf2.put hB ho hset;have hvi:dh vs i v i=v:=(by simp[dh]);rw[hvi]at hput;refine ih (listed.setIfInBounds i true) _ w' (dh vs i v) (hcl.aD hi) (by rw[Array.size_setIfInBounds];exact hsz) ?_ hput ?_
   ·have:=pQ (f:=fun j=>listed.getD j false) (g:=fun j=>(listed.setIfInBounds i true).getD j false) hun hset ops.size his;omega
   ·have:(fun j=>(listed.setIfInBounds i true).getD j false)=fun j=>listed.getD j false||decide (j=i):=funext hset;rw[this];exact hS'
theorem qC {id:Nat} {w:World} {l:List Oper} (Inv:(Nat→Bool)→(Nat→Value)→World→Prop) (dp nd:Nat→List Nat) (hm:P.follows .mixedOrders=true) (hB:fG l.toArray=true)
 (hdp:((List.range l.length).all fun i=>(dp i).all fun j=>bC .any l.toArray l.length i j)=true) (hnd:((List.range l.length).all fun i=>(nd i).all fun k=>bC .any l.toArray l.length k i)=true)
 (h0:Inv (fun _=>false) (fun _=>undef) w.drew)
 (hstep:∀i o,l[i]?=some o→∀(L:Nat→Bool) (vs:Nat→Value) w,L i=false→(∀j∈dp i,L j=true)→(∀k∈nd i,L k=false)→Inv L vs w→wpList P l.toArray (rz (fun v w'=>Inv (fun j=>L j||decide (j=i)) (dh vs i v) w') (acV l.toArray a vs i) o.dst) [o] (acV l.toArray a vs i) w)
 (hend:∀(L:Nat→Bool) (vs:Nat→Value) w,(∀j,j<l.length→L j=true)→Inv L vs w→Q .normal (acV l.toArray a vs l.length) w):(Code.region id l.toArray true).wp P Q a w:=by
 have hsz:l.toArray.size=l.length:=(by simp);have hget:∀i:Nat,l.toArray[i]?=l[i]?:=fun i=>List.getElem?_toArray ..;refine wp_region_any hm ?_;refine Ij (Inv:=Inv) hB (fun i o ho L vs w h1 h2 h3 hI=> ?_) (fun L vs w h1 h2=>by rw[hsz];exact hend L vs w (by rw[←hsz];exact h1) h2) _ _ a _ (fun _=>undef) (Closed.start _ _ _) (by simp) ?_ (Flo.start fun j=>getD_replicate_false _ _) ?_
 ·have ho':l[i]?=some o:=(by rw[←hget];exact ho);have hil:i<l.length:=(List.getElem?_eq_some_iff.1 ho').1;refine hstep i o ho' L vs w h1 (fun j hj=>h2 j ?_) (fun k hk=>h3 k ?_) hI
  ·rw[hsz];exact List.all_eq_true.1 (List.all_eq_true.1 hdp i (List.mem_range.2 hil)) j hj
  ·rw[hsz];exact List.all_eq_true.1 (List.all_eq_true.1 hnd i (List.mem_range.2 hil)) k hk
 ·have:(fun j=>(Array.replicate l.toArray.size false).getD j false)=fun _=>false:=funext fun j=>getD_replicate_false _ _;rw[this,mX]
 ·have:(fun j=>(Array.replicate l.toArray.size false).getD j false)=fun _=>false:=funext fun j=>getD_replicate_false _ _;rw[this];exact h0
end
end Go.Inq
