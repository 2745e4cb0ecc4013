/-
  Plain words of layers 19, 22: facts, and what they follow from; no program in sight.
-/
import Derived.Test.YtfhnamomiaekdaaGreatDoorU05
import Derived.Test.YtfhnamomiaekdaaGreatDoorU07
import Derived.Test.YtfhnamomiaekdaaGreatDoorU02
import Derived.Test.YtfhnamomiaekdaaGreatDoorU06
set_option linter.unusedVariables false
set_option linter.unusedSimpArgs false
namespace Go.Inq
structure Fct where
 c:Cho
 kind:Int
 i:Int
 j:Int
 cyc:List Int
deriving DecidableEq
def zQ(L:List Fct)(f:Fct):Bool:=
 decide (0≤f.i)&&decide (f.i<(L.length:Int))&&decide (0≤f.j)&&decide (f.j<(L.length:Int))&&
  match L[f.i.toNat]?,L[f.j.toNat]? with
  |some x,some y=>decide (x.c.b=y.c.a)&&decide (x.c.key=y.c.key)&&decide (f.c=⟨x.c.key,x.c.a,y.c.b⟩)
  |_,_=>false
def zR(H:List Txn)(f:Fct):Bool:=
 decide (f.j=0)&&decide (f.i≠f.c.a)&&decide (0≤f.i)&&decide (f.i<(H.length:Int))&&
  ((aG H f.i.toNat).reads.any fun x=>decide (x.a=f.c.key)&&decide (x.b=f.c.b))&&bD H [] f.c.a f.i
def axB(H:List Txn)(f:Fct):Bool:=decide (f.i=0)&&decide (f.j=0)&&bD H [] f.c.a f.c.b
def zS(H:List Txn)(level:Int)(L:List Fct)(f:Fct):Bool:=decide (f.i=0)&&decide (f.j=0)&&iK H level (L.map (·.c)++[aL f.c]) f.cyc
def qj(H:List Txn)(level:Int)(L:List Fct)(f:Fct):Bool:=
 if f.kind=1 then axB H f else if f.kind=2 then zQ L f else if f.kind=3 then zR H f else if f.kind=4 then zS H level L f else false
def nE(H:List Txn)(level:Int):Bool:=aA H&&(decide (level=0)||decide (level=1))
def aW(H:List Txn)(level:Int)(L:List Fct)(f:Fct):Bool:=
 nE H level&&bO H f.c&&(decide (f.kind=4)||decide (f.cyc=[]))&&qj H level L f
end Go.Inq
namespace Go.Proofs.YtfhnamomiaekdaaGreatDoor
open Go.RowKit Go.Inq
set_option maxHeartbeats 8000000
attribute [local go_sem↓] Go.wp_at_zero Go.wp_at_succ
set_option maxRecDepth 100000 in
theorem LA(A:Option Addr)(c:Nat)(H:List Txn)(t key:Int)(bh bc:Nat)(w:World)(h:aC w (Old w) (.slice A H.length c) H)(hn:aD H)(hbh:w.cell? ⟨bh,0,none⟩=some (.slice A H.length c))(hbc:w.cell? ⟨bc,0,none⟩=some (.int .i64 key)):
 Calls Tryz.prog 179 #[.int .i64 t,.pointer (some ⟨bh,0,none⟩),.pointer (some ⟨bc,0,none⟩)] w fun e w'=>e= .returned (.bool (wrB H t key))∧Below w.heap.size w w':=by
 have hlen:=hn.1;have Fh:=hide (fun W (hW:Below w.heap.size w W)=>(hW.cell (p:=⟨bh,0,none⟩) (block_lt_of_cell hbh)).trans hbh);have hbc2:=hide (fun W (hW:Below w.heap.size w W)=>(hW.cell (p:=⟨bc,0,none⟩) (block_lt_of_cell hbc)).trans hbc);clear hbh hbc;by_cases h0:0≤t
 ·have h0b:decide (t≥0)=true:=(by simpa using h0);by_cases h1:t<(H.length:Int)
  ·obtain⟨m,rfl⟩:∃m:Nat,t=m:=⟨t.toNat,by omega⟩;have hm:m<H.length:=(by omega);have hr:=BO (key:=key) hm;rw[aJ hm]at hr;obtain⟨b,off,Aw,cw,Ar,cr,rfl,hbK,d0,d1,d2,hws,_⟩:=aC.at_ h hm;have hd1:=hide (fun W (hW:Below w.heap.size w W)=>(hW.cell (p:=⟨b,off+m*3+1,none⟩) hbK).trans d1);have hwl:H[m].writes.length≤maxLen:=(by have:=(hn.2 _ (List.getElem_mem hm)).1;unfold maxLen;omega);have hcc:=hide (fun W (hW:Below w.heap.size w W)=>dS Aw cw H[m].writes key (Old W) W (aO.below hws hW) hwl);generalize H[m].writes=L at*;generalize hqe:L.contains key=q at*;rw[hr];have hm1:decide (m<H.length)=true:=(by simpa using hm);have hm2:(0:Int)≤(m:Int):=Int.natCast_nonneg _;replace hn:=hide hn;clear h h0 hws d0 d1 d2 hr hqe;go_enter Tryz.func179,Tryz.ntmps179;go_upto_region 1 with fail;refine bF (fun W=>Below w.heap.size w W) (by kernel_rfl) (by kernel_rfl) (Below.refl _ _).drew ?_;refine⟨.int .i64 (m:Int),fun W hW=>(by go_wp2),?_⟩;refine⟨.bool true,fun W hW=>(by go_wp2),?_⟩;refine⟨.bool true,fun W hW=>(by go_wp2),?_⟩;refine⟨.int .i64 (m:Int),fun W hW=>(by go_wp2),?_⟩;refine⟨.pointer (some ⟨bh,0,none⟩),fun W hW=>(by go_wp2),?_⟩;refine⟨.slice (some ⟨b,off,none⟩) H.length c,fun W hW=>(by have v0:=Fh.out W hW;go_wp2),?_⟩;refine⟨.int .i64 (H.length:Int),fun W hW=>(by go_wp2),?_⟩;refine⟨.bool true,fun W hW=>(by go_wp2),?_⟩;refine⟨.bool true,fun W hW=>(by go_wp2),?_⟩;refine⟨.bool true,fun W hW=>(by go_wp2),?_⟩;refine⟨.pointer (some ⟨bh,0,none⟩),fun W hW=>(by go_wp2),?_⟩;refine⟨.slice (some ⟨b,off,none⟩) H.length c,fun W hW=>(by have v0:=Fh.out W hW;go_wp2),?_⟩;refine⟨.int .i64 (m:Int),fun W hW=>(by go_wp2),?_⟩;refine⟨.pointer (some ⟨b,off+m*3,none⟩),fun W hW=>(by go_wp2),?_⟩;refine⟨.pointer (some ⟨b,off+m*3+1,none⟩),fun W hW=>(by go_wp2),?_⟩;refine⟨.slice Aw L.length cw,fun W hW=>(by have v0:=hd1.out W hW;go_wp2),?_⟩;refine⟨.pointer (some ⟨bc,0,none⟩),fun W hW=>(by go_wp2),?_⟩;refine⟨.int .i64 key,fun W hW=>(by have v0:=hbc2.out W hW;go_wp2),?_⟩;refine⟨.bool q,fun W hW=>(by
    go_wp2_with fail;refine(hcc.out W hW).mono ?_;rintro e w' ⟨rfl,rfl⟩;go_wp2),?_⟩
   refine⟨.bool q,fun W hW=>(by go_wp2),?_⟩;refine⟨.bool q,fun W hW=>(by go_wp2),?_⟩;intro W5 hW5;simp only[Act.put,sA,sZ,sS];go_wp2;go_ret;exact⟨rfl,hW5⟩
  ·have hr:wrB H t key=false:=(by unfold wrB;simp;intro _ e;exact absurd e h1);have h1b:decide (t<(H.length:Int))=false:=(by simpa using h1);rw[hr];replace hn:=hide hn;clear h h0 h1 hr;go_enter Tryz.func179,Tryz.ntmps179;go_upto_region 1 with fail;refine bF (fun W=>Below w.heap.size w W) (by kernel_rfl) (by kernel_rfl) (Below.refl _ _).drew ?_;refine⟨.int .i64 t,fun W hW=>(by go_wp2),?_⟩;refine⟨.bool true,fun W hW=>(by go_wp2),?_⟩;refine⟨.bool true,fun W hW=>(by go_wp2),?_⟩;refine⟨.int .i64 t,fun W hW=>(by go_wp2),?_⟩;refine⟨.pointer (some ⟨bh,0,none⟩),fun W hW=>(by go_wp2),?_⟩;refine⟨.slice A H.length c,fun W hW=>(by have v0:=Fh.out W hW;go_wp2),?_⟩;refine⟨.int .i64 (H.length:Int),fun W hW=>(by go_wp2),?_⟩;refine⟨.bool false,fun W hW=>(by go_wp2),?_⟩;refine⟨.bool false,fun W hW=>(by go_wp2),?_⟩;refine⟨.bool false,fun W hW=>(by go_wp2),?_⟩;refine⟨undef,fun W hW=>(by go_wp2),?_⟩;refine⟨undef,fun W hW=>(by go_wp2),?_⟩;refine⟨undef,fun W hW=>(by go_wp2),?_⟩;refine⟨undef,fun W hW=>(by go_wp2),?_⟩;refine⟨undef,fun W hW=>(by go_wp2),?_⟩;refine⟨undef,fun W hW=>(by go_wp2),?_⟩;refine⟨undef,fun W hW=>(by go_wp2),?_⟩;refine⟨undef,fun W hW=>(by go_wp2),?_⟩;refine⟨undef,fun W hW=>(by go_wp2),?_⟩;refine⟨.bool false,fun W hW=>(by go_wp2),?_⟩;refine⟨.bool false,fun W hW=>(by go_wp2),?_⟩;intro W5 hW5;simp only[Act.put,sA,sZ,sS];go_wp2;go_ret;exact⟨rfl,hW5⟩
 ·have hr:wrB H t key=false:=(by unfold wrB;simp;intro e;exact absurd e h0);have h0b:decide (t≥0)=false:=(by simpa using h0);rw[hr];replace hn:=hide hn;clear h h0 hr;go_enter Tryz.func179,Tryz.ntmps179;go_upto_region 1 with fail;refine bF (fun W=>Below w.heap.size w W) (by kernel_rfl) (by kernel_rfl) (Below.refl _ _).drew ?_;refine⟨.int .i64 t,fun W hW=>(by go_wp2),?_⟩;refine⟨.bool false,fun W hW=>(by go_wp2),?_⟩;refine⟨.bool false,fun W hW=>(by go_wp2),?_⟩;refine⟨undef,fun W hW=>(by go_wp2),?_⟩;refine⟨undef,fun W hW=>(by go_wp2),?_⟩;refine⟨undef,fun W hW=>(by go_wp2),?_⟩;refine⟨undef,fun W hW=>(by go_wp2),?_⟩;refine⟨undef,fun W hW=>(by go_wp2),?_⟩;refine⟨.bool false,fun W hW=>(by go_wp2),?_⟩;refine⟨.bool false,fun W hW=>(by go_wp2),?_⟩;refine⟨undef,fun W hW=>(by go_wp2),?_⟩;refine⟨undef,fun W hW=>(by go_wp2),?_⟩;refine⟨undef,fun W hW=>(by go_wp2),?_⟩;refine⟨undef,fun W hW=>(by go_wp2),?_⟩;refine⟨undef,fun W hW=>(by go_wp2),?_⟩;refine⟨undef,fun W hW=>(by go_wp2),?_⟩;refine⟨undef,fun W hW=>(by go_wp2),?_⟩;refine⟨undef,fun W hW=>(by go_wp2),?_⟩;refine⟨undef,fun W hW=>(by go_wp2),?_⟩;refine⟨.bool false,fun W hW=>(by go_wp2),?_⟩;refine⟨.bool false,fun W hW=>(by go_wp2),?_⟩;intro W5 hW5;simp only[Act.put,sA,sZ,sS];go_wp2;go_ret;exact⟨rfl,hW5⟩
set_option maxRecDepth 100000 in
theorem zT(A:Option Addr)(c:Nat)(H:List Txn)(level:Int)(w:World)(h:aC w (Old w) (.slice A H.length c) H)(hn:aD H):
 Calls Tryz.prog 111 #[.agg #[.slice A H.length c],.int .i64 level] w fun e w'=>e= .returned (.bool (aA H&&(decide (level=0)||decide (level=1))))∧Below w.heap.size w w':=by
 obtain⟨W0,hW0⟩:∃W0,w.alloc (.cells #[.slice A H.length c] 24)=W0:=⟨_,rfl⟩;have hB:=ah (Below.refl w.heap.size w) hW0 (Nat.le_refl _);have k0:=Blk.newEq hW0;have hrc:=hide (bY A c H W0 (h.below hB) hn);have c0:=Blk.n0 k0;generalize aA H=q at*;clear h;have hz:decide (level=0)=(level==0):=(by rw[Bool.eq_iff_iff];simp);have ho:decide (level=1)=(level==1):=(by rw[Bool.eq_iff_iff];simp);rw[hz,ho];obtain⟨z,hz2⟩:∃z,(level==0)=z:=⟨_,rfl⟩;obtain⟨o,ho2⟩:∃o,(level==1)=o:=⟨_,rfl⟩;rw[hz2,ho2];clear hz ho;go_enter Tryz.func111,Tryz.ntmps111;go_wp2_with fail;clear hW0 c0;refine hrc.out.mono ?_;rintro e w1 ⟨rfl,hb1⟩;cases q<;>cases z<;>cases o;all_goals
  go_wp2;go_ret;exact⟨rfl,hB.trans (hb1.mono hB.size)⟩
set_option maxRecDepth 100000 in
theorem BQ(A:Option Addr)(c:Nat)(H:List Txn)(key a b:Int)(w:World)(h:aC w (Old w) (.slice A H.length c) H)(hn:aD H):
 Calls Tryz.prog 112 #[.agg #[.slice A H.length c],.agg #[.int .i64 key,.int .i64 a,.int .i64 b]] w fun e w'=>e= .returned (.bool (bO H ⟨key,a,b⟩))∧Below w.heap.size w w':=by
 obtain⟨W0,hW0⟩:∃W0,(w.alloc (.cells #[.slice A H.length c] 24)).alloc (.cells #[.int .i64 key,.int .i64 a,.int .i64 b] 102)=W0:=⟨_,rfl⟩;have hB:=aM hW0;have k0:=Blk.jr hW0;have k1:=Blk.iE hW0;have hT:=hide (h.below hB);have hcl:=hide (fun(t:Int) W (hW:Below W0.heap.size W0 W)=>LA A c H t key w.heap.size (w.heap.size+1) W (hT.out.below hW) hn (by have:=(k0.below hW k0.lt).cell 0;simpa using this) (by have:=(k1.below hW k1.lt).cell 0;simpa using this));have c0:=Blk.n0 k1;have c1:=Blk.n1 k1;have c2:=Blk.n2 k1;have hone:Hid (bO H ⟨key,a,b⟩=(decide (a≠b)&&wrB H a key&&wrB H b key)):=hide rfl;obtain⟨r,hr⟩:∃r,bO H ⟨key,a,b⟩=r:=⟨_,rfl⟩;rw[hr]at hone;rw[hr];clear h hr;by_cases hab:a=b
 ·have g1:(a !=b)=false:=(by simp[hab]);have hre:r=false:=(by rw[hone.out];simp[hab]);subst hre;clear hab hone hcl;go_enter Tryz.func112,Tryz.ntmps112;go_wp2;go_ret;exact⟨rfl,hB⟩
 ·have g1:(a !=b)=true:=(by simpa using hab);have l7:=hide (show r=(wrB H a key&&wrB H b key) by rw[hone.out];simp[hab]);have h1:=hide (hcl.out a W0 (Below.refl _ _));have h2:=hide (fun W hW=>hcl.out b W hW);generalize wrB H a key=q1 at*;generalize wrB H b key=q2 at*;clear hab hone hcl;go_enter Tryz.func112,Tryz.ntmps112;go_wp2_with fail;refine h1.out.mono ?_;rintro e w1 ⟨rfl,hb1⟩;have d2:=(hb1.cell (p:=⟨w.heap.size+1,2,none⟩) k1.lt).trans c2;have hb2:=hB.trans (hb1.mono hB.size);have h3:=hide (h2.out w1 hb1);clear hW0 h1 h2 c0 c1 c2;cases q1 with
  |false=>
   have hre:r=false:=(by rw[l7.out];rfl);subst hre;clear h3 l7;go_wp2;go_ret;exact⟨rfl,hb2⟩
  |true=>
   have hre:r=q2:=(by rw[l7.out];rfl);subst hre;clear l7;go_wp2_with fail;refine h3.out.mono ?_;rintro e w2 ⟨rfl,hb3⟩;go_wp2;go_ret;exact⟨rfl,hb2.trans (hb3.mono hb2.size)⟩
theorem qF(w:World):
 Calls Tryz.prog 113 #[] w fun e w'=>e= .returned (.slice (some ⟨w.heap.size,0,none⟩) 4 4)∧Blk w' w.heap.size 188 #[.int .i64 1,.func (.func 180) #[] #[],.int .i64 2,.func (.func 181) #[] #[],.int .i64 3,.func (.func 182) #[] #[],.int .i64 4,.func (.func 183) #[] #[]]∧Below w.heap.size w w':=by
 go_enter Tryz.func113,Tryz.ntmps113;go_wp2;go_ret;exact⟨rfl,Blk.new _ _ _,(Below.refl _ _).alloc (Nat.le_refl _) _⟩
set_option maxRecDepth 100000 in
theorem LB(A:Option Addr)(c:Nat)(H:List Txn)(level:Int)(vl:Value)(f:Fct)(vc:Value)(w:World)(h:aC w (Old w) (.slice A H.length c) H)(hn:aD H):
 Calls Tryz.prog 180 #[.agg #[.slice A H.length c,.int .i64 level,vl,.int .i64 f.c.key,.int .i64 f.c.a,.int .i64 f.c.b,.int .i64 f.kind,.int .i64 f.i,.int .i64 f.j,vc]] w fun e w'=>e= .returned (.bool (axB H f))∧Below w.heap.size w w':=by
 obtain⟨⟨key,a,b⟩,kind,i,j,cyc⟩:=f;dsimp only;obtain⟨W0,hW0⟩:∃W0,w.alloc (.cells #[.slice A H.length c,.int .i64 level,vl,.int .i64 key,.int .i64 a,.int .i64 b,.int .i64 kind,.int .i64 i,.int .i64 j,vc] 190)=W0:=⟨_,rfl⟩;have hB:=ah (Below.refl w.heap.size w) hW0 (Nat.le_refl _);have k0:=Blk.newEq hW0;have hdi:=hide (nA A c H none 0 [] a b W0 (h.below hB) hn (bq.nil _ _ _ _) (by simp));have hre:Hid (axB H ⟨⟨key,a,b⟩,kind,i,j,cyc⟩=(decide (i=0)&&decide (j=0)&&bD H [] a b)):=hide rfl;obtain⟨r,hr⟩:∃r,axB H ⟨⟨key,a,b⟩,kind,i,j,cyc⟩=r:=⟨_,rfl⟩;rw[hr]at hre;rw[hr];generalize bD H [] a b=q at*;have c0:=Blk.n0 k0;have c4:=Blk.n4 k0;have c5:=Blk.n5 k0;have c7:=Blk.n7 k0;have c8:=Blk.n8 k0;clear h hr;by_cases h1:i=0
 ·by_cases h2:j=0
  ·have hrq:r=q:=(by rw[hre.out];simp[h1,h2]);have g1:(i==0)=true:=(by simp[h1]);have g2:(j==0)=true:=(by simp[h2]);subst hrq;clear h1 h2 hre;go_enter Tryz.func180,Tryz.ntmps180;go_wp2_with fail;refine hdi.out.mono ?_;rintro e w1 ⟨rfl,hb1⟩;go_wp2;go_ret;exact⟨rfl,hB.trans (hb1.mono hB.size)⟩
  ·have hrq:r=false:=(by rw[hre.out];simp[h2]);have g1:(i==0)=true:=(by simp[h1]);have g2:(j==0)=false:=(by simpa using h2);subst hrq;clear h1 h2 hre hdi;go_enter Tryz.func180,Tryz.ntmps180;go_wp2;go_ret;exact⟨rfl,hB⟩
 ·have hrq:r=false:=(by rw[hre.out];simp[h1]);have g1:(i==0)=false:=(by simpa using h1);subst hrq;clear h1 hre hdi;go_enter Tryz.func180,Tryz.ntmps180;go_wp2;go_ret;exact⟨rfl,hB⟩
end Go.Proofs.YtfhnamomiaekdaaGreatDoor
namespace Go.Inq
open Go
section
variable{P:Program}{ops:Array Oper}{Q:Exit→Act→World→Prop}{md:Region.Mode}
def fK(i:Nat)(tss:List (List Nat)):List (List Nat):=
 tss.filterMap fun r=>match r with
  |t::r'=>if t=i then some r' else none
  |[]=>none
def yh(P:Program)(ops:Array Oper)(Q:Exit→Act→World→Prop):Nat→List (List Nat)→Act→World→Prop
 |0,_,a,w=>Q .normal a w
 |n+1,tss,a,w=>∀i∈tss.filterMap List.head?,wpOp P ops Q i (yh P ops Q n (fK i tss)) a w
def uG(md:Region.Mode)(ops:Array Oper)(us:List Nat):Nat→List (List Nat)→Array Bool→Bool
 |0,_,listed=>(Region.ready md ops listed).isEmpty
 |n+1,tss,listed=>
  (match tss.filterMap List.head? with
   |t::r=>r.all (·==t)&&us.contains t&&(Region.ready md ops listed).contains t&&Region.free md ops listed t&&(match ops[t]? with|some o=>mW o.op|none=>false)&&
    uG md ops us n (fK t tss) (listed.setIfInBounds t true)
   |[]=>false)||
  (!(Region.ready md ops listed).isEmpty&&(Region.ready md ops listed).all fun i=>(tss.filterMap List.head?).contains i&&us.contains i&&uG md ops us n (fK i tss) (listed.setIfInBounds i true))
def jI:Op→Bool
 | .move _| .assign _| .pick .. | .build .. | .indexAddr .. | .extract .. | .makeFunc .. | .nilCheck _| .load .. =>true
 |_=>false
theorem BR{ρ:Operand→Value}{o:Oper}(h:jI o.op=true){w w':World}{n:Next}(hr:(execOp ρ o).run P w= .ok n w'):w'=w∧∃v,n= .value v:=by
 by_cases hl:lQ o.op=true
 ·cases ho:o.op<;>rw[ho]at hl<;>simp[lQ]at hl;case load t x=>
   have e:execOp ρ o=(do Pure.pure (.value (←Instr.loadAt t (ρ x)))):=(by unfold execOp;rw[ho]);have hv:=jF (P:=P) (ρ:=ρ) (o:=o) (by rw[ho];rfl) hr;rw[e]at hr;exact⟨(Stb.bind (Stb.loadAt _ _) (fun _=>(Clear.pure _).stb) P _ _ _ hr).1,hv⟩
 ·have hw:worldless P o.op=true:=(by cases ho:o.op<;>rw[ho]at h hl<;>simp[jI,lQ]at h hl<;>rfl);have hv:=jF (P:=P) (ρ:=ρ) (o:=o) (by cases ho:o.op<;>rw[ho]at h hl<;>simp[jI,lQ]at h hl<;>rfl) hr;refine⟨?_,hv⟩;have:=(jR hw hr w).symm.trans hr;injection this with _ e
  exact e.symm
theorem Fj{t:Nat}{o:Oper}{a:Act}{w:World}{K:Act→World→Prop}(ho:ops[t]?=some o)(hc:jI o.op=true)(h:wpOp P ops Q t K a w):wpOp P ops Q t (fun a' w'=>w'=w∧K a' w') a w:=by
 unfold wpOp at*;rw[ho]at h⊢;dsimp only at*;by_cases hw:Region.wanted o (yielded ops a.tmps)=true
 ·rw[if_pos hw]at h⊢;refine h.imp (fun h=> ?_) id;unfold Oper.wp at*;generalize hr:(execOp a.eval o).run P w=r at*;cases r with
  |halt x w'=>cases x<;>simp only[Oper.upon]at h⊢<;>exact h
  |ok n w'=>
   obtain⟨he,v,rfl⟩:=BR hc hr;exact⟨he,h⟩
 ·rw[if_neg hw]at h⊢;exact⟨rfl,h⟩
def gV(ops:Array Oper)(us:List Nat)(j:Nat):Nat:=
 if us.contains j then(match ops[j]? with|some o=>if gL o.op then 1 else if jI o.op then 0 else 2|none=>0)else 0
theorem Ja{us:List Nat}{t:Nat}(hf:us.contains t=true){K:Act→World→Prop}{a:Act}{w:World}(h:wpOp P ops Q t K a w):
 wpOp P ops Q t (fun a' w'=>((gV ops us t=0→w'=w)∧(gV ops us t=1→Ext w w'))∧K a' w') a w:=by
 cases ho:ops[t]? with
 |none=>unfold wpOp at*;rw[ho]at h⊢;exact⟨⟨fun _=>rfl,fun _=>Ext.refl _⟩,h⟩
 |some o=>
  have e:gV ops us t=if gL o.op then 1 else if jI o.op then 0 else 2:=(by unfold gV;rw[if_pos hf,ho]);rw[e];by_cases hal:gL o.op=true
  ·rw[if_pos hal];exact wpOp_mono (fun a' w' h=>⟨⟨fun h0=>absurd h0 (by simp),fun _=>h.1⟩,h.2⟩) (xD ho hal h)
  ·rw[if_neg hal];by_cases hst:jI o.op=true
   ·rw[if_pos hst];exact wpOp_mono (fun a' w' h=>⟨⟨fun _=>h.1,fun h1=>absurd h1 (by simp)⟩,h.2⟩) (Fj ho hst h)
   ·rw[if_neg hst];exact wpOp_mono (fun a' w' h=>⟨⟨fun h0=>absurd h0 (by simp),fun h1=>absurd h1 (by simp)⟩,h⟩) h
theorem rz{us:List Nat}(hQ:∀c a (d:Option Tmp) v w,Q (.panic c) (a.put d v) w→Q (.panic c) a w)(hs:Region.noSelect ops=true):∀(n:Nat) (tss:List (List Nat)) (listed:Array Bool) (a:Act) (w:World),Closed md ops listed→uG md ops us n tss listed=true→
 yh P ops Q n tss a w→nZ P md ops Q (gV ops us) n listed a w
 |0,_,_,_,_,_,hB,h=>⟨by simpa[uG]using hB,h⟩
 |n+1,tss,listed,a,w,hcl,hB,h=>by
  unfold uG at hB;rw[Bool.or_eq_true]at hB;unfold yh at h;rcases hB with hB|hB
  ·split at hB
   ·rename_i t r Qe;simp only[Bool.and_eq_true]at hB;obtain⟨⟨⟨⟨⟨_,hu⟩,hr⟩,hfr⟩,hc⟩,hB⟩:=hB;have hr':t∈Region.ready md ops listed:=(by simpa using hr);have h1:=h t (by rw[Qe];simp);cases ho:ops[t]? with
    |none=>rw[ho]at hc;cases hc
    |some o=>
     rw[ho]at hc;obtain⟨v,hy,hK⟩:=og ho hc h1;exact dP (S:=fun _=>True) ho (Region.noSelect_spec hs) (fun c a w=>hQ c a _ _ w) (fun _ _ _ _ _ _ _ _ _=>trivial) _ listed a w hcl (Region.free_spec ho hfr) hr' hy trivial
      (rz hQ hs n _ _ _ w (hcl.aH hr') hB hK)
   ·cases hB
  ·simp only[Bool.and_eq_true,List.all_eq_true]at hB;refine⟨fun h0=>(by rw[h0]at hB;simp at hB),fun i hi=> ?_⟩;obtain⟨⟨hh,hu⟩,hB2⟩:=hB.2 i hi;have h1:=h i (by simpa using hh);exact wpOp_mono (fun a' w' h'=>⟨h'.1,rz hQ hs n _ _ a' w' (hcl.aH hi) hB2 h'.2⟩) (Ja hu h1)
def wW(P:Program)(md:Region.Mode)(ops:Array Oper)(us:List Nat)(tss:List (List Nat)):List Nat→Array Bool→Bool
 |[],listed=>uG md ops us us.length tss listed
 |i::es,listed=>(Region.ready md ops listed).contains i&&Region.free md ops listed i&& !us.contains i&&
  (match ops[i]? with
   |some o=>mV o.op&&(worldless P o.op||(us.all fun j=>aZ md ops ops.size j i||((match ops[j]? with|some oj=>jI oj.op&& !gL oj.op|none=>false)||(lQ o.op&&(match ops[j]? with|some oj=>gL oj.op|none=>false)))))
   |none=>false)&&
  wW P md ops us tss es (listed.setIfInBounds i true)
theorem vH{us:List Nat}{j:Nat}(hfj:us.contains j=true)(h:(match ops[j]? with|some oj=>jI oj.op&& !gL oj.op|none=>false)=true):gV ops us j=0:=by
 unfold gV;rw[if_pos hfj];cases hoj:ops[j]? with
 |none=>rfl
 |some oj=>
  rw[hoj]at h;simp only[Bool.and_eq_true,Bool.not_eq_true']at h;simp[h.1,h.2]
theorem qG{w:World}(hQ:∀c a (d:Option Tmp) v w,Q (.panic c) (a.put d v) w→Q (.panic c) a w)(hs:Region.noSelect ops=true)(us:List Nat)(tss:List (List Nat)):∀(es:List Nat) (listed:Array Bool) (a:Act),Closed md ops listed→
 wW P md ops us tss es listed=true→wpStill P ops w (fun a'=>yh P ops Q us.length tss a' w) (es.filterMap (ops[·]?)) a→nZ P md ops Q (gV ops us) (es.length+us.length) listed a w
 |[],listed,a,hcl,hB,h=>by
  simp only[List.length_nil,Nat.zero_add];exact rz hQ hs us.length tss listed a w hcl hB h
 |i::es,listed,a,hcl,hB,h=>by
  simp only[wW,Bool.and_eq_true]at hB;obtain⟨⟨⟨⟨hr,hf⟩,hnt⟩,hk⟩,hrest⟩:=hB;have hr':i∈Region.ready md ops listed:=(by simpa using hr);cases ho:ops[i]? with
  |none=>rw[ho]at hk;cases hk
  |some o=>
   rw[ho]at hk;simp only[Bool.and_eq_true,Bool.or_eq_true]at hk;rw[List.filterMap_cons_some ho]at h;obtain⟨v,hy,hy0,hyl,hK⟩:=kL (K:=wpStill P ops w (fun a'=>yh P ops Q us.length tss a' w) (es.filterMap (ops[·]?))) hk.1 h;have IH:=qG hQ hs us tss es (listed.setIfInBounds i true) _ (hcl.aH hr') hrest hK;rw[List.length_cons,show es.length+1+us.length=(es.length+us.length)+1 by omega];rcases hk.2 with hl|hl
   ·exact dP (S:=fun _=>True) ho (Region.noSelect_spec hs) (fun c a w=>hQ c a _ _ w) (fun _ _ _ _ _ _ _ _ _=>trivial) _ listed a w hcl (Region.free_spec ho hf) hr' (hy0 hl) trivial IH
   ·by_cases hld:lQ o.op=true
    ·refine dP (S:=fun u=>Ext w u) ho (Region.noSelect_spec hs) (fun c a w=>hQ c a _ _ w) (fun listed' j hcl' hj hun u u' hu hc=> ?_) _ listed a w hcl (Region.free_spec ho hf) hr' (hyl hld) (Ext.refl _) IH;cases hfj:us.contains j with
     |false=>
      have:gV ops us j=0:=(by unfold gV;rw[if_neg (by rw[hfj];simp)]);rw[hc.1 this];exact hu
     |true=>
      have hwj:=List.all_eq_true.1 hl j (by simpa using hfj);simp only[Bool.or_eq_true,Bool.and_eq_true]at hwj;rcases hwj with hwj|hwj|⟨_,hwj⟩
      ·rw[hcl'.ready hwj hj]at hun;cases hun
      ·rw[hc.1 (vH hfj hwj)];exact hu
      ·cases hoj:ops[j]? with
       |none=>rw[hoj]at hwj;cases hwj
       |some oj=>
        rw[hoj]at hwj;have:gV ops us j=1:=(by unfold gV;rw[if_pos hfj,hoj];simp[hwj]);exact hu.trans (hc.2 this)
    ·refine dP (S:=fun u=>u=w) ho (Region.noSelect_spec hs) (fun c a w=>hQ c a _ _ w) (fun listed' j hcl' hj hun u u' hu hc=> ?_) _ listed a w hcl (Region.free_spec ho hf) hr' hy rfl IH;cases hfj:us.contains j with
     |false=>
      have:gV ops us j=0:=(by unfold gV;rw[if_neg (by rw[hfj];simp)]);rw[hc.1 this];exact hu
     |true=>
      have hwj:=List.all_eq_true.1 hl j (by simpa using hfj);simp only[Bool.or_eq_true,Bool.and_eq_true]at hwj;rcases hwj with hwj|hwj|⟨h2,_⟩
      ·rw[hcl'.ready hwj hj]at hun;cases hun
      ·rw[hc.1 (vH hfj hwj)];exact hu
      ·exact absurd h2 hld
def LC(P:Program)(ops:Array Oper)(es us:List Nat)(tss:List (List Nat)):Bool:=
 Region.noSelect ops&&(es.length+us.length==ops.size)&&wW P .any ops us tss es (Array.replicate ops.size false)
theorem oI {id:Nat} {a:Act} {w:World} {l:List Oper} (es us:List Nat) (tss:List (List Nat)) (hm:P.follows .mixedOrders=true) (hB:LC P l.toArray es us tss=true)
 (hQ:∀c a (d:Option Tmp) v w,Q (.panic c) (a.put d v) w→Q (.panic c) a w)
 (h:wpStill P l.toArray w.drew (fun a'=>yh P l.toArray Q us.length tss a' w.drew) (es.filterMap (l[·]?)) a):(Code.region id l.toArray true).wp P Q a w:=by
 simp only[LC,Bool.and_eq_true,beq_iff_eq]at hB;obtain⟨⟨hs,hn⟩,hE⟩:=hB;refine wp_region_any hm (qR (cls:=gV l.toArray us) _ _ _ _ ?_);rw[←hn];refine qG (w:=w.drew) hQ hs us tss es _ a (Closed.start _ _ _) (by rw[hn];exact hE) ?_;have e1:(fun(i:Nat)=>l.toArray[i]?)=fun(i:Nat)=>l[i]?:=(by funext i;simp);rw[e1];exact h
theorem iC{i:Nat}{o:Oper}{K:Act→World→Prop}{a:Act}{w:World}(ho:ops[i]?=some o)(h:wpList P ops (Exit.then K Q) [o] a w):wpOp P ops Q i K a w:=by
 unfold wpOp;rw[ho];unfold wpList at h;dsimp only;split at h
 ·rename_i hw;rw[if_pos hw];refine h.imp (fun h=> ?_) id;unfold Oper.wp at h⊢;generalize(execOp a.eval o).run P w=r at h⊢;cases r with
  |halt x w'=>cases x<;>exact h
  |ok n w'=>cases n<;>exact h
 ·rename_i hw;rw[if_neg hw];exact h
theorem fM:∀(ts:List Nat) (n:Nat) (a:Act) (w:World),ts.length=n→wpList P ops Q (ts.filterMap (ops[·]?)) a w→yh P ops Q n [ts] a w
 |[],n,a,w,hn,h=>by
  subst hn;exact h
 |t::ts,n,a,w,hn,h=>by
  subst hn;intro i hi;have:i=t:=(by simpa using hi);subst this;have e:fK i [i::ts]=[ts]:=(by simp[fK]);rw[e];cases ho:ops[i]? with
  |none=>
   unfold wpOp;rw[ho];rw[List.filterMap_cons_none ho]at h;exact fM ts _ a w rfl h
  |some o=>
   rw[List.filterMap_cons_some ho]at h;unfold wpOp;rw[ho];unfold wpList at h;dsimp only;split at h
   ·rename_i hw;rw[if_pos hw];exact h.imp (Oper.wp_mono fun a w=>fM ts _ a w rfl) id
   ·rename_i hw;rw[if_neg hw];exact fM ts _ _ _ rfl h
end
end Go.Inq
namespace Go.Proofs.YtfhnamomiaekdaaGreatDoor
open Go.RowKit Go.Inq
set_option maxHeartbeats 8000000
attribute [local go_sem↓] Go.wp_at_zero Go.wp_at_succ
set_option maxRecDepth 100000 in
theorem Fp(A:Option Addr)(c:Nat)(H:List Txn)(level:Int)(vl:Value)(f:Fct)(vc:Value)(w:World)(h:aC w (Old w) (.slice A H.length c) H)(hn:aD H):
 Calls Tryz.prog 182 #[.agg #[.slice A H.length c,.int .i64 level,vl,.int .i64 f.c.key,.int .i64 f.c.a,.int .i64 f.c.b,.int .i64 f.kind,.int .i64 f.i,.int .i64 f.j,vc]] w fun e w'=>e= .returned (.bool (zR H f))∧Below w.heap.size w w':=by
 obtain⟨⟨key,a,b⟩,kind,i,j,cyc⟩:=f;dsimp only;obtain⟨W0,hW0⟩:∃W0,w.alloc (.cells #[.slice A H.length c,.int .i64 level,vl,.int .i64 key,.int .i64 a,.int .i64 b,.int .i64 kind,.int .i64 i,.int .i64 j,vc] 190)=W0:=⟨_,rfl⟩;have hB:=ah (Below.refl w.heap.size w) hW0 (Nat.le_refl _);have k0:=Blk.newEq hW0;have hT:=h.below hB;have hdi:=hide (fun W (hb:Below w.heap.size w W)=>nA A c H none 0 [] a i W (h.below hb) hn (bq.nil _ _ _ _) (by simp));have hre:Hid (zR H ⟨⟨key,a,b⟩,kind,i,j,cyc⟩=(decide (j=0)&&decide (i≠a)&&decide (0≤i)&&decide (i<(H.length:Int))&&((aG H i.toNat).reads.any fun x=>decide (x.a=key)&&decide (x.b=b))&&bD H [] a i)):=hide rfl;obtain⟨r,hr⟩:∃r,zR H ⟨⟨key,a,b⟩,kind,i,j,cyc⟩=r:=⟨_,rfl⟩;rw[hr]at hre;rw[hr];generalize bD H [] a i=q at*;have c0:=Blk.n0 k0;have c3:=Blk.n3 k0;have c4:=Blk.n4 k0;have c5:=Blk.n5 k0;have c7:=Blk.n7 k0;have c8:=Blk.n8 k0;have hct:Hid True:=hide trivial;clear hr;by_cases h1:j=0
 ·have g1:(j !=0)=false:=(by simp[h1]);by_cases h2:i=a
  ·have hrq:r=false:=(by rw[hre.out];simp[h2]);have g2:(i==a)=true:=(by simp[h2]);subst hrq;clear h1 h2 hre h hT;clear hdi hct;go_enter Tryz.func182,Tryz.ntmps182;go_wp2;go_ret;exact⟨rfl,hB⟩
  ·have g2:(i==a)=false:=(by simpa using h2);by_cases h3:i<0
   ·have hrq:r=false:=(by rw[hre.out,decide_eq_false (show¬0≤i by omega)];simp);have g3:decide (i<0)=true:=(by simpa using h3);subst hrq;clear h1 h2 h3 hre h hT;clear hdi hct;go_enter Tryz.func182,Tryz.ntmps182;go_wp2;go_ret;exact⟨rfl,hB⟩
   ·have g3:decide (i<0)=false:=(by simpa using h3);by_cases h4:(H.length:Int)≤i
    ·have hrq:r=false:=(by rw[hre.out,decide_eq_false (show¬i<(H.length:Int) by omega)];simp);have g4:decide (i≥(H.length:Int))=true:=(by simpa using h4);have g5:decide ((H.length:Int)≤i)=true:=(by simpa using h4);subst hrq;clear h1 h2 h3 h4 hre h hT;clear hdi hct;go_enter Tryz.func182,Tryz.ntmps182;go_wp2;go_ret;exact⟨rfl,hB⟩
    ·obtain⟨m,rfl⟩:∃m:Nat,i=(m:Int):=⟨i.toNat,by omega⟩;have hm:m<H.length:=(by omega);have hm0:(0:Int)≤(m:Int):=Int.natCast_nonneg _;have hm1:(m:Int)<(H.length:Int):=(by omega);have g4:decide ((m:Int)≥(H.length:Int))=false:=(by simp;omega);have g5:decide ((H.length:Int)≤(m:Int))=false:=(by simp;omega);have g6:decide (H.length≤m)=false:=(by simp;omega);obtain⟨bt,ot,Aw,cw,Ar,cr,rfl,_,d0,d1,d2,-,hrs⟩:=aC.at_ hT hm;have hrl:H[m].reads.length≤1000000:=(hn.2 _ (List.getElem_mem hm)).2;have hct:=hide (qC Ar cr H[m].reads key b W0.drew (ItS.keep hrs (Agree.drew _ _) (fun b h=>h)) (by omega));have yj:=hide (show r=((H[m].reads.any fun x=>decide (x.a=key)&&decide (x.b=b))&&q) by
      rw[hre.out,Int.toNat_natCast,aJ hm,decide_eq_true h1,decide_eq_true h2,decide_eq_true hm0,decide_eq_true hm1];simp)
     generalize(H[m].reads.any fun x=>decide (x.a=key)&&decide (x.b=b))=q1 at*;generalize H[m].reads=R at*;clear h1 h2 h3 h4 hre hT hrs h;go_enter Tryz.func182,Tryz.ntmps182;go_upto_region 3 with fail;refine fC [0,1,2,3,4,5,6,7,8,9,10,11,12,13,14,15,16,17] [18,19] (by kernel_rfl) (by kernel_rfl) (fun _ _ d _ _ h=>by cases d<;>exact h) ?_;simp only[List.filterMap_cons,List.filterMap_nil,gZ,gS];repeat still_step
     refine wpStill_nil ?_;go_wp2_with fail;refine hct.out.mono ?_;rintro e w1 ⟨rfl,hb1⟩;have hb2:=(jV hB).trans (hb1.mono hB.size);have k1:=k0.drew.below hb1 k0.lt;have e0:=Blk.n0 k1;have e4:=Blk.n4 k1;have e7:=Blk.n7 k1;have hd2:=hide (hdi.out w1 hb2);clear hW0 hct hdi c0 c3 c4 c5 c7 c8 d0 d1 d2;cases q1 with
     |false=>
      have hrq:r=false:=(by rw[yj.out];rfl);subst hrq;clear hd2 yj;go_wp2;go_ret;exact⟨rfl,hb2⟩
     |true=>
      have hrq:r=q:=(by rw[yj.out];rfl);subst hrq;clear yj;go_wp2_with fail;refine hd2.out.mono ?_;rintro e w2 ⟨rfl,hb3⟩;go_wp2;go_ret;exact⟨rfl,hb2.trans (hb3.mono hb2.size)⟩
 ·have g1:(j !=0)=true:=(by simpa using h1);have hrq:r=false:=(by rw[hre.out];simp[h1]);subst hrq;clear h1 hre h hT;clear hdi hct;go_enter Tryz.func182,Tryz.ntmps182;go_wp2;go_ret;exact⟨rfl,hB⟩
end Go.Proofs.YtfhnamomiaekdaaGreatDoor
namespace Go.Inq
def oJ(E:aj):Nat→aj
 |0=>E
 |k+1=>fun x y=>oJ E k x y||(oJ E k x k&&oJ E k k y)
def iF(E:aj)(x:Nat):List Nat→Nat→Bool
 |[],y=>E x y
 |a::l,y=>E x a&&iF E a l y
theorem lC{E:aj}:∀{x:Nat} {a:List Nat} {k:Nat} {b:List Nat} {y:Nat},iF E x (a++k::b) y=(iF E x a k&&iF E k b y)
 |x,[],k,b,y=>rfl
 |x,c::a,k,b,y=>by
  show(E x c&&iF E c (a++k::b) y)=(E x c&&iF E c a k&&iF E k b y);rw[lC,Bool.and_assoc]
theorem vI{k:Nat}:∀{l:List Nat},k∈l→∃a b,l=a++k::b∧k∉a
 |[],h=>by simp at h
 |c::l,h=>by
  by_cases e:c=k
  ·exact⟨[],l,by rw[e];rfl,by simp⟩
  ·have h2:k∈l:=by
    rw[List.mem_cons]at h;exact h.resolve_left fun g=>e g.symm
   obtain⟨a,b,h3,h4⟩:=vI h2;exact⟨c::a,b,by rw[h3];rfl,by simp;exact⟨fun g=>e g.symm,h4⟩⟩
theorem fO{E:aj}:∀(k:Nat) (x y:Nat),oJ E k x y=true→∃l:List Nat,(∀a∈l,a<k)∧iF E x l y=true
 |0,x,y,h=>⟨[],by simp,h⟩
 |k+1,x,y,h=>by
  unfold oJ at h;rw[Bool.or_eq_true,Bool.and_eq_true]at h;rcases h with h|⟨h1,h2⟩
  ·obtain⟨l,hl,hw⟩:=fO k x y h;exact⟨l,fun a ha=>by have:=hl a ha;omega,hw⟩
  ·obtain⟨l1,hl1,hw1⟩:=fO k x k h1;obtain⟨l2,hl2,hw2⟩:=fO k k y h2;refine⟨l1++k::l2,fun a ha=> ?_,by rw[lC,hw1,hw2];rfl⟩;simp only[List.mem_append,List.mem_cons]at ha;rcases ha with ha|rfl|ha
   ·have:=hl1 a ha;omega
   ·omega
   ·have:=hl2 a ha;omega
theorem jQ{E:aj}:∀(k:Nat) (m:Nat) (l:List Nat) (x y:Nat),l.length≤m→(∀a∈l,a<k)→iF E x l y=true→oJ E k x y=true:=by
 intro k
 induction k with
 |zero=>
  intro m l x y _ hl hw;cases l with
  |nil=>exact hw
  |cons a l=>exact absurd (hl a (by simp)) (by omega)
 |succ k ihk=>
  intro m
  induction m with
  |zero=>
   intro l x y hm hl hw;obtain rfl:l=[]:=List.eq_nil_of_length_eq_zero (by omega);unfold oJ;rw[ihk 0 [] x y (by simp) (by simp) hw];rfl
  |succ m ihm=>
   intro l x y hm hl hw;by_cases hk:k∈l
   ·obtain⟨a,b,rfl,hka⟩:=vI hk;rw[lC,Bool.and_eq_true]at hw;have h1:=ihk a.length a x k (Nat.le_refl _) (fun c hc=>by
     have:=hl c (by simp[hc]);have:c≠k:=fun e=>hka (e▸hc);omega) hw.1
    have h2:=ihm b k y (by simp at hm;omega) (fun c hc=>hl c (by simp[hc])) hw.2;unfold oJ at h2⊢;rw[Bool.or_eq_true,Bool.and_eq_true]at h2;have h3:oJ E k k y=true:=(by rcases h2 with h|h;exact h;exact h.2);rw[h1,h3];simp
   ·unfold oJ;rw[ihk l.length l x y (Nat.le_refl _) (fun c hc=>by
     have:=hl c hc;have:c≠k:=fun e=>hk (e▸hc);omega) hw]
    rfl
def uH(n:Nat)(E:aj):aj:=oJ E n
theorem pX{n:Nat}{E:aj}{x y:Nat}(h:E x y=true):uH n E x y=true:=jQ n 0 [] x y (by simp) (by simp) h
theorem yt{n:Nat}{E:aj}{x y z:Nat}(hy:y<n)(h1:uH n E x y=true)(h2:uH n E y z=true):uH n E x z=true:=by
 obtain⟨a,ha,wa⟩:=fO n x y h1;obtain⟨b,hb,wb⟩:=fO n y z h2;refine jQ n _ (a++y::b) x z (Nat.le_refl _) (fun c hc=> ?_) (by rw[lC,wa,wb];rfl);simp only[List.mem_append,List.mem_cons]at hc;rcases hc with hc|rfl|hc
 ·exact ha c hc
 ·exact hy
 ·exact hb c hc
theorem zU{n:Nat}{E:aj}(f:Nat→Nat)(h:∀x y,x<n→y<n→E x y=true→f x<f y):∀(l:List Nat) (x y:Nat),x<n→y<n→(∀a∈l,a<n)→iF E x l y=true→f x<f y
 |[],x,y,hx,hy,_,hw=>h x y hx hy hw
 |a::l,x,y,hx,hy,hl,hw=>by
  have hw':(E x a&&iF E a l y)=true:=hw;rw[Bool.and_eq_true]at hw';have ha:=hl a (by simp);have h1:=h x a hx ha hw'.1;have h2:=zU f h l a y ha hy (fun b hb=>hl b (by simp[hb])) hw'.2;omega
def fV(n:Nat)(E:aj):Bool:=(List.range n).any fun x=>uH n E x x
theorem Da{n:Nat}{E:aj}(f:Nat→Nat)(h:∀x y,x<n→y<n→E x y=true→f x<f y):fV n E=false:=by
 unfold fV;rw[List.any_eq_false];intro x hx hc;obtain⟨l,hl,hw⟩:=fO n x x hc;have:=zU f h l x x (List.mem_range.1 hx) (List.mem_range.1 hx) hl hw;omega
theorem jJ:∀(A B:List Nat),A.Nodup→(∀x∈A,x∈B)→A.length≤B.length
 |[],_,_,_=>Nat.zero_le _
 |a::A,B,hn,h=>by
  rw[List.nodup_cons]at hn;have h1:=jJ A (B.erase a) hn.2 fun x hx=>(List.mem_erase_of_ne (fun e:x=a=>hn.1 (by rw[←e];exact hx))).2 (h x (by simp[hx]));rw[List.length_erase_of_mem (h a (by simp))]at h1;have:=List.length_pos_of_mem (h a (by simp));simp;omega
theorem Fq{n:Nat}{E:aj}{l:List Nat}{v:Nat}(h:l5 n E l=some v):v<n∧v∉l∧∀x,x<n→E x v=true→x∈l:=by
 unfold l5 at h;have h1:=List.find?_some h;have h2:=List.mem_of_find?_eq_some h;simp only[Bool.and_eq_true,Bool.not_eq_true',List.all_eq_true,List.mem_range,Bool.or_eq_true,List.contains_iff_mem]at h1;refine⟨by simpa using h2,fun hv=> ?_,fun x hx he=> ?_⟩
 ·have:=h1.1;rw[List.contains_iff_mem.2 hv]at this;cases this
 ·rcases h1.2 x hx with g|g
  ·rw[he]at g;cases g
  ·exact g
theorem Db{n:Nat}{E:aj}{l:List Nat}(h:l5 n E l=none){v:Nat}(hv:v<n)(hl:v∉l):∃x,x<n∧x∉l∧E x v=true:=by
 unfold l5 at h;rw[List.find?_eq_none]at h;have h1:=h v (List.mem_range.2 hv);have hc:l.contains v=false:=by
  rw[Bool.eq_false_iff];intro e;exact hl (List.contains_iff_mem.1 e)
 rw[hc]at h1;simp only[Bool.not_false,Bool.true_and,List.all_eq_true,List.mem_range,Classical.not_forall]at h1;obtain⟨x,hx,h2⟩:=h1;simp only[Bool.or_eq_true,Bool.not_eq_true',List.contains_iff_mem,not_or]at h2;exact⟨x,hx,h2.2,by simpa using h2.1⟩
structure Pt(n:Nat)(E:aj)(l:List Nat):Prop where
 nd:l.Nodup
 lt:∀x∈l,x<n
 up:∀y∈l,∀x,x<n→E x y=true→x∈l∧l.idxOf x<l.idxOf y
theorem jK{n:Nat}{E:aj}:∀(k:Nat) (l:List Nat),bV n E k=some l→Pt n E l
 |0,l,h=>by
  unfold bV at h;injection h with h
  subst h;exact⟨List.nodup_nil,by simp,by simp⟩
 |k+1,l,h=>by
  unfold bV at h;split at h
  ·cases h
  ·rename_i l0 h0;split at h
   ·cases h
   ·rename_i v hv;injection h with h
    subst h;have ih:=jK k l0 h0;obtain⟨h1,h2,h3⟩:=Fq hv;refine⟨?_,fun x hx=> ?_,fun y hy x hx he=> ?_⟩
    ·rw[List.nodup_append];refine⟨ih.nd,by simp,fun a ha b hb e=> ?_⟩;simp at hb;subst hb;exact h2 (e▸ha)
    ·rw[List.mem_append,List.mem_singleton]at hx;rcases hx with hx|rfl
     ·exact ih.lt x hx
     ·exact h1
    ·rw[List.mem_append,List.mem_singleton]at hy;rcases hy with hy|rfl
     ·obtain⟨g1,g2⟩:=ih.up y hy x hx he;exact⟨List.mem_append.2 (.inl g1),by rw[List.idxOf_append,List.idxOf_append,if_pos g1,if_pos hy];exact g2⟩
     ·have g1:=h3 x hx he;refine⟨List.mem_append.2 (.inl g1),?_⟩;rw[List.idxOf_append,List.idxOf_append,if_pos g1,if_neg h2];have:=List.idxOf_lt_length_of_mem g1;omega
theorem wG{n:Nat}{E:aj}{o:List Nat}(h:fD n E=some o):fV n E=false:=by
 have ht:=jK n o h;have hl:=iq h;have hall:∀y,y<n→y∈o:=fun y hy=>by
  refine Classical.byContradiction fun hno=> ?_;have:=jJ (y::o) (List.range n) (List.nodup_cons.2 ⟨hno,ht.nd⟩) (fun x hx=>by
   rw[List.mem_cons]at hx;rw[List.mem_range];rcases hx with rfl|hx
   ·exact hy
   ·exact ht.lt x hx)
  simp at this;omega
 exact Da (fun x=>o.idxOf x) fun x y hx hy he=>(ht.up y (hall y hy) x hx he).2
theorem Dc{n:Nat}{E:aj}(R:Nat→Prop)(hR:∀v,R v→v<n)(hp:∀v,R v→∃x,R x∧E x v=true):∀(m:Nat) (v:Nat),R v→((List.range n).filter fun x=>uH n E x v).length≤m→fV n E=true
 |m,v,hv,hm=>by
  obtain⟨x,hx,he⟩:=hp v hv;by_cases hc:uH n E x x=true
  ·unfold fV;rw[List.any_eq_true];exact⟨x,List.mem_range.2 (hR x hx),hc⟩
  ·have hlt:((List.range n).filter fun y=>uH n E y x).length+1≤((List.range n).filter fun y=>uH n E y v).length:=by
    have:=jJ (x::(List.range n).filter fun y=>uH n E y x) ((List.range n).filter fun y=>uH n E y v) (List.nodup_cons.2 ⟨fun h=>hc (List.mem_filter.1 h).2,List.Pairwise.filter _ List.nodup_range⟩) (fun y hy=>by
     rw[List.mem_cons]at hy;rw[List.mem_filter,List.mem_range];rcases hy with rfl|hy
     ·exact⟨hR y hx,pX he⟩
     ·rw[List.mem_filter,List.mem_range]at hy;exact⟨hy.1,yt (hR x hx) hy.2 (pX he)⟩)
    simpa using this
   match m,hm with
   |0,hm=>omega
   |m+1,hm=>exact Dc R hR hp m x hx (by omega)
theorem qH{n:Nat}{E:aj}:∀k,bV n E k=none→∃j l,j<k∧bV n E j=some l∧l5 n E l=none
 |0,h=>by unfold bV at h;cases h
 |k+1,h=>by
  unfold bV at h;split at h
  ·rename_i h0;obtain⟨j,l,h1,h2⟩:=qH k h0;exact⟨j,l,by omega,h2⟩
  ·rename_i l0 h0;split at h
   ·rename_i hv;exact⟨k,l0,by omega,h0,hv⟩
   ·cases h
theorem wH{n:Nat}{E:aj}(h:fD n E=none):fV n E=true:=by
 obtain⟨j,l,hj,hl,hx⟩:=qH n h;have ht:=jK j l hl;have hlen:=iq hl;obtain⟨v,hv,hvl⟩:∃v,v<n∧v∉l:=by
  refine Classical.byContradiction fun hno=> ?_;have:=jJ (List.range n) l List.nodup_range fun x hx=>Classical.byContradiction fun hn=>hno ⟨x,List.mem_range.1 hx,hn⟩;simp at this;omega
 refine Dc (fun u=>u<n∧u∉l) (fun u hu=>hu.1) (fun u hu=> ?_) _ v ⟨hv,hvl⟩ (Nat.le_refl _);obtain⟨x,h1,h2,h3⟩:=Db hx hu.1 hu.2;exact⟨x,⟨h1,h2⟩,h3⟩
theorem yu(n:Nat)(E:aj):(fD n E).isSome= !fV n E:=by
 cases h:fD n E with
 |none=>rw[wH h];rfl
 |some o=>rw[wG h];rfl
def bU(n:Nat)(E:aj)(v:Nat):Nat→Nat→Nat
 |0,x=>if E x v=true then 1 else 0
 |k+1,x=>if bU n E v k x≠0 then bU n E v k x else if((List.range n).any fun y=>E x y&&decide (bU n E v k y=k+1))=true then k+2 else 0
section
variable{n:Nat}{E:aj}{v:Nat}
theorem l8{k x:Nat}(h:bU n E v k x≠0):bU n E v (k+1) x=bU n E v k x:=by
 show(if _ then _ else _)=_;rw[if_pos h]
theorem l9{k x:Nat}(h:bU n E v k x≠0):∀d,bU n E v (k+d) x=bU n E v k x
 |0=>rfl
 |d+1=>by
  have ih:=l9 h d;rw[show k+(d+1)=(k+d)+1 by omega,l8 (by rw[ih];exact h),ih]
theorem wY(k x:Nat):bU n E v k x≤k+1:=by
 induction k with
 |zero=>
  show(if _ then _ else _)≤_;split<;>omega
 |succ k ih=>
  show(if _ then _ else _)≤_;split
  ·omega
  ·split
   ·exact Nat.le_refl _
   ·exact Nat.zero_le _
theorem BS{k x j:Nat}(h:bU n E v k x=j+1):j≤k∧bU n E v j x=j+1:=by
 induction k with
 |zero=>
  have:=wY (n:=n) (E:=E) (v:=v) 0 x;obtain rfl:j=0:=(by omega);exact⟨Nat.le_refl _,h⟩
 |succ k ih=>
  by_cases h0:bU n E v k x=0
  ·have h1:bU n E v (k+1) x=(if bU n E v k x≠0 then bU n E v k x else if((List.range n).any fun y=>E x y&&decide (bU n E v k y=k+1))=true then k+2 else 0):=rfl;rw[if_neg (by omega)]at h1;split at h1
   ·obtain rfl:j=k+1:=(by omega);exact⟨Nat.le_refl _,h⟩
   ·omega
  ·rw[l8 h0]at h;obtain⟨g1,g2⟩:=ih h;exact⟨by omega,g2⟩
theorem pY{k x:Nat}(h0:bU n E v k x=0):bU n E v (k+1) x=if((List.range n).any fun y=>E x y&&decide (bU n E v k y=k+1))=true then k+2 else 0:=by
 show(if _ then _ else _)=_;rw[if_neg (by omega)]
theorem uI{k x j:Nat}(h:bU n E v k x=j+2):∃y,y<n∧E x y=true∧bU n E v k y=j+1:=by
 obtain⟨h1,h2⟩:=BS (j:=j+1) h;have h0:bU n E v j x=0:=by
  refine Classical.byContradiction fun hne=> ?_;rw[l8 hne]at h2;have:=wY (n:=n) (E:=E) (v:=v) j x;omega
 rw[pY h0]at h2;split at h2
 ·rename_i hy;rw[List.any_eq_true]at hy;obtain⟨y,hy,h3⟩:=hy;rw[Bool.and_eq_true]at h3;have h4:=of_decide_eq_true h3.2;have:=l9 (n:=n) (E:=E) (v:=v) (k:=j) (x:=y) (by omega) (k-j);rw[show j+(k-j)=k by omega]at this;exact⟨y,List.mem_range.1 hy,h3.1,by omega⟩
 ·omega
theorem Df{k x:Nat}(h:bU n E v k x=1):E x v=true:=by
 obtain⟨_,h2⟩:=BS (j:=0) h;have h3:(if E x v=true then 1 else 0)=1:=h2;split at h3
 ·assumption
 ·omega
theorem Jb{k x:Nat}(h:E x v=true):bU n E v k x=1:=by
 have h0:bU n E v 0 x=1:=by
  show(if _ then _ else _)=_;rw[if_pos h]
 have:=l9 (n:=n) (E:=E) (v:=v) (k:=0) (x:=x) (by omega) k;rw[Nat.zero_add]at this;omega
theorem Om{k x y j:Nat}(hy:y<n)(he:E x y=true)(h:bU n E v k y=j+1)(hj:j<k):bU n E v k x≠0:=by
 obtain⟨_,h2⟩:=BS h;by_cases h0:bU n E v j x=0
 ·have h3:bU n E v (j+1) x=j+2:=by
   rw[pY h0,if_pos (by rw[List.any_eq_true];exact⟨y,List.mem_range.2 hy,by rw[he,decide_eq_true h2];rfl⟩)]
  have:=l9 (n:=n) (E:=E) (v:=v) (k:=j+1) (x:=x) (by omega) (k-(j+1));rw[show j+1+(k-(j+1))=k by omega]at this;omega
 ·have:=l9 (n:=n) (E:=E) (v:=v) h0 (k-j);rw[show j+(k-j)=k by omega]at this;omega
theorem rA{k:Nat}:∀(j x:Nat),x<n→bU n E v k x=j+1→∃l:List Nat,l.Nodup∧l.length=j+1∧∀y∈l,y<n∧bU n E v k y≠0∧bU n E v k y≤j+1
 |0,x,hx,h=>⟨[x],by simp,rfl,fun y hy=>by rw[List.mem_singleton]at hy;subst hy;omega⟩
 |j+1,x,hx,h=>by
  obtain⟨y,hy,_,h2⟩:=uI h;obtain⟨l,h3,h4,h5⟩:=rA j y hy h2;refine⟨x::l,List.nodup_cons.2 ⟨fun hm=> ?_,h3⟩,by rw[List.length_cons,h4],fun z hz=> ?_⟩
  ·have:=h5 x hm;omega
  ·rw[List.mem_cons]at hz;rcases hz with rfl|hz
   ·omega
   ·have:=h5 z hz;omega
theorem oK{k x:Nat}(hx:x<n):bU n E v k x≤n:=by
 cases h:bU n E v k x with
 |zero=>omega
 |succ j=>
  obtain⟨l,h1,h2,h3⟩:=rA j x hx h;have:=jJ l (List.range n) h1 fun y hy=>List.mem_range.2 (h3 y hy).1;simp at this;omega
theorem zV{k x:Nat}(hx:x<n)(h:bU n E v k x=n){y:Nat}(hy:y<n):bU n E v k y≠0:=by
 intro h0;obtain⟨j,rfl⟩:∃j,n=j+1:=⟨n-1,by omega⟩;obtain⟨l,h1,h2,h3⟩:=rA j x hx h;have:=jJ (y::l) (List.range (j+1)) (List.nodup_cons.2 ⟨fun hm=>(h3 y hm).2.1 h0,h1⟩) fun z hz=>by
  rw[List.mem_cons]at hz;rw[List.mem_range];rcases hz with rfl|hz
  ·exact hy
  ·exact(h3 z hz).1
 simp at this;omega
theorem Fu{d x:Nat}(hx:x<n):bU n E v (n-1+d) x=bU n E v (n-1) x:=by
 induction d with
 |zero=>rfl
 |succ d ih=>
  rw[show n-1+(d+1)=n-1+d+1 by omega];by_cases h0:bU n E v (n-1+d) x=0
  ·rw[pY h0];split
   ·rename_i hy;exfalso;rw[List.any_eq_true]at hy;obtain⟨y,hy,h3⟩:=hy;rw[Bool.and_eq_true]at h3;have h4:=of_decide_eq_true h3.2;have h5:=oK (n:=n) (E:=E) (v:=v) (k:=n-1+d) (List.mem_range.1 hy);exact zV (List.mem_range.1 hy) (show bU n E v (n-1+d) y=n by omega) hx h0
   ·omega
  ·rw[l8 h0,ih]
theorem LD{k:Nat}(h:∀x y,x<n→y<n→bU n E v k y=k+1→E x y=false)(d:Nat){x:Nat}(hx:x<n):bU n E v (k+d) x=bU n E v k x:=by
 induction d generalizing x with
 |zero=>rfl
 |succ d ih=>
  rw[show k+(d+1)=k+d+1 by omega];by_cases h0:bU n E v (k+d) x=0
  ·rw[pY h0];split
   ·rename_i hy;exfalso;rw[List.any_eq_true]at hy;obtain⟨y,hy,h3⟩:=hy;have hy:=List.mem_range.1 hy;rw[Bool.and_eq_true]at h3;have h4:=of_decide_eq_true h3.2;rw[ih hy]at h4;have h5:=wY (n:=n) (E:=E) (v:=v) k y;obtain rfl:d=0:=(by omega);rw[h x y hx hy (by omega)]at h3;exact absurd h3.1 (by decide)
   ·rw[←ih hx];exact h0.symm
  ·rw[l8 h0,ih hx]
end
def dA(n:Nat)(E:aj)(v x:Nat):Nat:=bU n E v (n-1) x
theorem zW{n:Nat}{E:aj}{v k:Nat}(h:∀x y,x<n→y<n→bU n E v k y=k+1→E x y=false){x:Nat}(hx:x<n):bU n E v k x=dA n E v x:=by
 unfold dA;by_cases hk:k≤n-1
 ·have:=LD h (n-1-k) hx;rw[show k+(n-1-k)=n-1 by omega]at this;exact this.symm
 ·have:=Fu (n:=n) (E:=E) (v:=v) (d:=k-(n-1)) hx;rw[show n-1+(k-(n-1))=k by omega]at this;exact this
theorem Dg{n:Nat}{E:aj}{v:Nat}:∀(j x:Nat),dA n E v x=j+1→∃l:List Nat,(∀a∈l,a<n)∧iF E x l v=true
 |0,x,h=>⟨[],by simp,Df h⟩
 |j+1,x,h=>by
  obtain⟨y,hy,he,h2⟩:=uI (n:=n) (E:=E) (v:=v) h;obtain⟨l,hl,hw⟩:=Dg j y h2;exact⟨y::l,by simp;exact⟨hy,hl⟩,by show(E x y&&iF E y l v)=true;rw[he,hw];rfl⟩
theorem Dh{n:Nat}{E:aj}{v:Nat}:∀(l:List Nat) (x:Nat),x<n→(∀a∈l,a<n)→iF E x l v=true→dA n E v x≠0
 |[],x,hx,_,hw=>by
  have hw:E x v=true:=hw;unfold dA;rw[Jb hw];decide
 |a::l,x,hx,hl,hw=>by
  have hw:(E x a&&iF E a l v)=true:=hw;rw[Bool.and_eq_true]at hw;have ha:=hl a (by simp);have ih:=Dh l a ha (fun b hb=>hl b (by simp[hb])) hw.2;unfold dA at ih⊢;obtain⟨j,hj⟩:∃j,bU n E v (n-1) a=j+1:=⟨bU n E v (n-1) a-1,by omega⟩;have lU:=oK (n:=n) (E:=E) (v:=v) (k:=n-1) ha;by_cases hjn:j+1=n
  ·exact zV ha (hj.trans hjn) hx
  ·exact Om ha hw.1 hj (by omega)
def sM(n:Nat)(E:aj)(d:Nat→Nat)(x left:Nat):Option Nat:=(List.range n).find? fun y=>E x y&&decide (d y=left)
def jC(n:Nat)(E:aj)(d:Nat→Nat)(x:Nat):Nat→List Nat
 |0=>[]
 |l+1=>match sM n E d x (l+1)with
  |some y=>y::jC n E d y l
  |none=>[]
def eD(n:Nat)(E:aj):List Nat:=match (List.range n).find? fun v=>dA n E v v !=0 with
 |none=>[]
 |some v=>v::jC n E (dA n E v) v (dA n E v v-1)
theorem jX{n:Nat}{E:aj}{v x l:Nat}(h:dA n E v x=l+2):∃y,sM n E (dA n E v) x (l+1)=some y∧y<n∧E x y=true∧dA n E v y=l+1:=by
 obtain⟨z,hz,he,h2⟩:=uI (n:=n) (E:=E) (v:=v) h;cases hf:sM n E (dA n E v) x (l+1)with
 |none=>
  unfold sM at hf;rw[List.find?_eq_none]at hf;exact absurd (by rw[he,Bool.true_and];exact decide_eq_true h2) (hf z (List.mem_range.2 hz))
 |some y=>
  have h1:=List.find?_some hf;have h3:=List.mem_of_find?_eq_some hf;rw[Bool.and_eq_true]at h1;exact⟨y,rfl,List.mem_range.1 h3,h1.1,of_decide_eq_true h1.2⟩
theorem jY{n:Nat}{E:aj}{d:Nat→Nat}{x y l:Nat}(h:sM n E d x (l+1)=some y):jC n E d x (l+1)=y::jC n E d y l:=by
 show(match sM n E d x (l+1)with|some y=>y::jC n E d y l|none=>[])=_;rw[h]
theorem zX{n:Nat}{E:aj}{v:Nat}:∀(l x:Nat),dA n E v x=l+1→(jC n E (dA n E v) x l).length=l
 |0,x,_=>rfl
 |l+1,x,h=>by
  obtain⟨y,h1,_,_,h4⟩:=jX h;rw[jY h1,List.length_cons,zX l y h4]
theorem Jc{n:Nat}{E:aj}:eD n E=[]↔fV n E=false:=by
 have hcl:∀v,v<n→(dA n E v v≠0↔uH n E v v=true):=fun v hv=>by
  constructor
  ·intro h;obtain⟨l,hl,hw⟩:=Dg (dA n E v v-1) v (show dA n E v v=_ by omega);exact jQ n l.length l v v (Nat.le_refl _) hl hw
  ·intro h;obtain⟨l,hl,hw⟩:=fO n v v h;exact Dh l v hv hl hw
 unfold eD fV;cases hf:(List.range n).find? fun v=>dA n E v v !=0 with
 |none=>
  rw[List.find?_eq_none]at hf;simp only[true_iff];rw[List.any_eq_false];intro v hv hc;exact hf v hv (by rw[bne_iff_ne];exact(hcl v (List.mem_range.1 hv)).2 hc)
 |some v=>
  have h1:=List.find?_some hf;have h2:=List.mem_of_find?_eq_some hf;rw[bne_iff_ne]at h1;constructor
  ·intro h;cases h
  ·intro h;rw[List.any_eq_false]at h;exact absurd ((hcl v (List.mem_range.1 h2)).1 h1) (h v h2)
theorem LG{n:Nat}{E:aj}:∀x∈eD n E,x<n:=by
 have hp:∀(d:Nat→Nat) (l x:Nat),∀y∈jC n E d x l,y<n:=by
  intro d l
  induction l with
  |zero=>intro x y hy;cases hy
  |succ l ih=>
   intro x y hy;have hy:y∈(match sM n E d x (l+1)with|some y=>y::jC n E d y l|none=>[]):=hy;split at hy
   ·rename_i z hz;rw[List.mem_cons]at hy;rcases hy with rfl|hy
    ·exact List.mem_range.1 (List.mem_of_find?_eq_some hz)
    ·exact ih _ _ hy
   ·cases hy
 intro x hx;unfold eD at hx;split at hx
 ·cases hx
 ·rename_i v hv;rw[List.mem_cons]at hx;rcases hx with rfl|hx
  ·exact List.mem_range.1 (List.mem_of_find?_eq_some hv)
  ·exact hp _ _ _ _ hx
theorem p8{n:Nat}{E:aj}:(eD n E).length≤n+1:=by
 unfold eD;cases hf:(List.range n).find? fun v=>dA n E v v !=0 with
 |none=>simp
 |some v=>
  have h1:=List.find?_some hf;have hv:=List.mem_range.1 (List.mem_of_find?_eq_some hf);have h0:dA n E v v≠0:=(by simpa using h1);have hle:dA n E v v≤n:=oK hv;rw[List.length_cons,zX (dA n E v v-1) v (by omega)];omega
section
variable{H:List Txn}{l:List Cho}{x y:Nat}
theorem Di(hr:aA H=true)(hx:x<H.length){r:It}(h:r∈(aG H x).reads):r.b= -1∨∃k:Nat,r.b=(k:Int)∧k<H.length∧k≠x∧r.a∈(aG H k).writes:=by
 rw[aJ hx]at h;have h1:=(((aB H).1 hr).2 x hx).there r h;rw[gT]at h1;rcases h1 with h1|⟨k,hk,h1,h2,h3⟩
 ·exact .inl h1
 ·exact .inr ⟨k,h1,hk,h2,by rw[aJ hk];exact h3⟩
theorem Oo(hr:aA H=true)(hy:y<H.length):ru H x y=wrE H x y:=by
 unfold ru wrE;by_cases e:x=y
 ·subst e;have:((aG H x).reads.any fun r=>decide (r.b=(x:Int)))=false:=by
   rw[List.any_eq_false];intro r hm;rcases Di hr hy hm with g|⟨k,g1,_,g2,_⟩
   ·simp;omega
   ·simp;omega
  rw[this];simp
 ·simp[e]
theorem LH(ho:∀c∈l,bO H c=true):qD H l x y=wwE l x y:=by
 unfold qD wwE;rw[Bool.eq_iff_iff,List.any_eq_true,List.any_eq_true];constructor
 ·rintro⟨c,hc,h⟩;unfold sJ at h;simp only[Bool.and_eq_true]at h;exact⟨c,hc,by rw[h.1.1.1.1,h.1.1.1.2];rfl⟩
 ·rintro⟨c,hc,h⟩;rw[Bool.and_eq_true,decide_eq_true_eq,decide_eq_true_eq]at h;obtain⟨a,b,ha,hb,hne,_,_,h1,h2⟩:=je.1 (ho c hc);obtain rfl:a=x:=(by omega);obtain rfl:b=y:=(by omega);refine⟨c,hc,?_⟩;unfold sJ;rw[decide_eq_true ha,decide_eq_true hb,decide_eq_true hne,List.contains_iff_mem.2 h1,List.contains_iff_mem.2 h2];rfl
theorem mg(hr:aA H=true)(ho:∀c∈l,bO H c=true)(hy:y<H.length):Lp H l x y=orE (bG H) (wwE l) x y:=by
 unfold Lp orE bG orE;rw[Oo hr hy,LH ho]
theorem rC(hr:aA H=true)(ho:∀c∈l,bO H c=true)(hx:x<H.length):nP H l x y=rwE H l x y:=by
 unfold nP rwE lZ;by_cases e:x=y
 ·subst e;have:(l.any fun c=>decide (c.b=(x:Int))&&decide (x≠x)&&(aG H x).reads.any fun r=>decide (r.a=c.key)&&decide (r.b=c.a))=false:=by
   rw[List.any_eq_false];intro c _;simp
  rw[this];simp
 ·rw[decide_eq_true e,Bool.true_and,Bool.true_and,Bool.eq_iff_iff,Bool.or_eq_true,List.any_eq_true,List.any_eq_true,List.any_eq_true];constructor
  ·rintro⟨r,hm,h⟩;unfold qE at h;rw[Bool.and_eq_true,Bool.or_eq_true]at h;obtain⟨h1,h2⟩:=h;rcases h2 with h2|h2
   ·left;have h2:=of_decide_eq_true h2;rcases Di hr hx hm with g|⟨k,g,_⟩
    ·exact⟨r,hm,by rw[decide_eq_true g,h1];rfl⟩
    ·omega
   ·right;rw[Bool.and_eq_true,List.any_eq_true]at h2;obtain⟨_,c,hc,h3⟩:=h2;have h3:=of_decide_eq_true h3;refine⟨c,hc,?_⟩;rw[h3];have:((aG H x).reads.any fun r'=>decide (r'.a=r.a)&&decide (r'.b=r.b))=true:=List.any_eq_true.2 ⟨r,hm,by simp⟩;simp[this]
  ·rintro(⟨r,hm,h⟩|⟨c,hc,h⟩)
   ·rw[Bool.and_eq_true,decide_eq_true_eq]at h;refine⟨r,hm,?_⟩;unfold qE;rw[h.2,decide_eq_true (show r.b<0 by omega)];rfl
   ·simp only[Bool.and_eq_true,decide_eq_true_eq,List.any_eq_true]at h;obtain⟨⟨h1,-⟩,r,hm,h2,h3⟩:=h;obtain⟨a,b,ha,hb,hne,_,_,g1,g2⟩:=je.1 (ho c hc);obtain rfl:b=y:=(by omega);refine⟨r,hm,?_⟩;unfold qE;rw[Bool.and_eq_true,Bool.or_eq_true];refine⟨by rw[h2,List.contains_iff_mem];exact g2,.inr ?_⟩;rw[Bool.and_eq_true,List.any_eq_true];refine⟨decide_eq_true (by omega),c,hc,decide_eq_true ?_⟩;obtain⟨ck,ca,cb⟩:=c;dsimp only at*;rw[h2,h3,hb]
theorem Dj{level:Int}(hr:aA H=true)(hl:level=0∨level=1)(ho:∀c∈l,bO H c=true)(hx:x<H.length)(hy:y<H.length):isB H level l x y=aX H level l x y:=by
 have hf:aX H level l x y=(orE (bG H) (wwE l) x y||(if level=1 then iT H.length (orE (bG H) (wwE l)) (rwE H l)else rwE H l) x y):=rfl;rw[hf];unfold isB;rcases hl with rfl|rfl
 ·rw[if_pos rfl,if_neg (by decide),lg hr hx hy,uF hr hx hy,mg hr ho hy,rC hr ho hx]
 ·rw[if_neg (by decide),if_pos rfl,if_pos rfl];unfold iT;rw[Bool.eq_iff_iff,List.any_eq_true,Bool.or_eq_true,List.any_eq_true];constructor
  ·rintro⟨m,hm,h⟩;have hm':=List.mem_range.1 hm;rw[lg hr hx hm',uF hr hm' hy,mg hr ho hm',rC hr ho hm',Bool.and_eq_true,Bool.or_eq_true]at h;rcases h.2 with h2|h2
   ·left;have:=of_decide_eq_true h2;obtain rfl:m=y:=(by omega);exact h.1
   ·exact .inr ⟨m,hm,by rw[h.1,h2];rfl⟩
  ·rintro(h|⟨m,hm,h⟩)
   ·exact⟨y,List.mem_range.2 hy,by rw[lg hr hx hy,mg hr ho hy,h];simp⟩
   ·have hm':=List.mem_range.1 hm;rw[Bool.and_eq_true]at h;exact⟨m,hm,by rw[lg hr hx hm',uF hr hm' hy,mg hr ho hm',rC hr ho hm',h.1,h.2];simp⟩
theorem Oq{level a b:Int}(h:isB H level l a b=true):∃x y:Nat,a=x∧b=y∧x<H.length∧y<H.length:=by
 have hd:∀{l:List Cho} {a b:Int},bD H l a b=true→∃x y:Nat,a=x∧b=y∧x<H.length∧y<H.length:=fun h=>by
  unfold bD at h;rw[Bool.and_eq_true,iL]at h;exact h.1.2
 have ha:∀{l:List Cho} {a b:Int},iJ H l a b=true→∃x y:Nat,a=x∧b=y∧x<H.length∧y<H.length:=fun h=>by
  unfold iJ at h;rw[Bool.and_eq_true,iL]at h;exact h.1.2
 unfold isB at h;split at h
 ·rw[Bool.or_eq_true]at h;exact h.elim hd ha
 ·split at h
  ·rw[List.any_eq_true]at h;obtain⟨m,hm,h⟩:=h;rw[Bool.and_eq_true,Bool.or_eq_true]at h;obtain⟨p,q,h1,h2,h3,h4⟩:=hd h.1;rcases h.2 with g|g
   ·exact⟨p,m,h1,(of_decide_eq_true g).symm,h3,List.mem_range.1 hm⟩
   ·obtain⟨p',q',g1,g2,g3,g4⟩:=ha g;exact⟨p,q',h1,g2,h3,g4⟩
  ·cases h
theorem Jd{level a b:Int}(h:isB H level l a b=true):level=0∨level=1:=by
 unfold isB at h;split at h
 ·exact .inl ‹_›
 ·split at h
  ·exact .inr ‹_›
  ·cases h
theorem Je{level a b:Int}(h:isB H level l a b=true):aA H=true:=by
 have hd:∀{l:List Cho} {a b:Int},bD H l a b=true→aA H=true:=fun h=>by
  unfold bD at h;rw[Bool.and_eq_true,iL]at h;exact h.1.1
 unfold isB at h;split at h
 ·rw[Bool.or_eq_true]at h;rcases h with h|h
  ·exact hd h
  ·unfold iJ at h;rw[Bool.and_eq_true,iL]at h;exact h.1.1
 ·split at h
  ·rw[List.any_eq_true]at h;obtain⟨m,hm,h⟩:=h;rw[Bool.and_eq_true]at h;exact hd h.1
  ·cases h
end
theorem wZ{n:Nat}{E:aj}{x:Nat}{l:List Nat}(hx:x<n)(hl:∀a∈l,a<n)(h:iF E x l x=true):fV n E=true:=by
 unfold fV;rw[List.any_eq_true];exact⟨x,List.mem_range.2 hx,jQ n l.length l x x (Nat.le_refl _) hl h⟩
theorem Hr{n:Nat}{E:aj}{x y:Nat}(hx:x<n)(hy:y<n)(h1:E x y=true)(h2:E y x=true):fV n E=true:=
 wZ (l:=[y]) hx (by simpa using hy) (by show(E x y&&E y x)=true;rw[h1,h2];rfl)
theorem Ot{n:Nat}{E:aj}{x:Nat}(hx:x<n)(h:E x x=true):fV n E=true:=wZ (l:=[]) hx (by simp) h
theorem Jf{n:Nat}{E:aj}{x y z:Nat}(hx:x<n)(hy:y<n)(hz:z<n)(h1:E x y=true)(h2:E y z=true)(h3:E z x=true):fV n E=true:=
 wZ (l:=[y,z]) hx (by simp;omega) (by show(E x y&&(E y z&&E z x))=true;rw[h1,h2,h3];rfl)
theorem BU{E:aj}:∀(r:List Nat) (x y:Nat),iF E x r y=true↔∀i,i<r.length+1→E ((x::r).getD i 0) ((r++[y]).getD i 0)=true
 |[],x,y=>by
  constructor
  ·intro h i hi;obtain rfl:i=0:=(by simp at hi;omega);exact h
  ·intro h;exact h 0 (by simp)
 |a::r,x,y=>by
  have hw:iF E x (a::r) y=(E x a&&iF E a r y):=rfl;rw[hw,Bool.and_eq_true,BU r a y];constructor
  ·rintro⟨h1,h2⟩ i hi;cases i with
   |zero=>exact h1
   |succ i=>exact h2 i (by simp at hi;omega)
  ·intro h;exact⟨h 0 (by simp),fun i hi=>h (i+1) (by simp;omega)⟩
theorem LJ{H:List Txn}{level:Int}{l:List Cho}{row:List Int}(ho:∀c∈l,bO H c=true)(h:iK H level l row=true):fV H.length (aX H level l)=true:=by
 unfold iK at h;rw[Bool.and_eq_true,List.all_eq_true]at h;have h0:0<row.length:=of_decide_eq_true h.1;have he:∀i,i<row.length→isB H level l (row.getD i 0) (row.getD ((i+1)%row.length) 0)=true:=fun i hi=>by
  have:=h.2 i (List.mem_range.2 hi);rw[Bool.and_eq_true]at this;exact this.2
 have lU:=Jd (he 0 h0);have hri:=Je (he 0 h0);have Ou:∀i,i<row.length→row.getD i 0=((row.getD i 0).toNat:Int)∧(row.getD i 0).toNat<H.length:=fun i hi=>by
  obtain⟨x,y,e,-,hx,-⟩:=Oq (he i hi);rw[e];simp;exact hx
 have hE:∀i,i<row.length→aX H level l (row.getD i 0).toNat (row.getD ((i+1)%row.length) 0).toNat=true:=fun i hi=>by
  obtain⟨g1,g2⟩:=Ou i hi;obtain⟨g3,g4⟩:=Ou ((i+1)%row.length) (Nat.mod_lt _ h0);rw[←Dj hri lU ho g2 g4,←g1,←g3];exact he i hi
 clear h he;cases row with
 |nil=>simp at h0
 |cons x r=>
  refine wZ (x:=x.toNat) (l:=r.map Int.toNat) (Ou 0 h0).2 ?_ ?_
  ·intro a ha;obtain⟨y,hy,rfl⟩:=List.mem_map.1 ha;obtain⟨i,hi,rfl⟩:=List.getElem_of_mem hy;have:=(Ou (i+1) (by simp;omega)).2;simpa[List.getD_eq_getElem?_getD,List.getElem?_eq_getElem hi]using this
  ·rw[BU];intro i hi;rw[List.length_map]at hi;have:=hE i (by simpa using hi);have e1:(x.toNat::r.map Int.toNat).getD i 0=((x::r).getD i 0).toNat:=by
    rw[show x.toNat::r.map Int.toNat=(x::r).map Int.toNat by rfl,List.getD_eq_getElem?_getD,List.getD_eq_getElem?_getD,List.getElem?_map];rw[List.getElem?_eq_getElem (show i<(x::r).length by simpa using hi)];rfl
   have e2:(r.map Int.toNat++[x.toNat]).getD i 0=((x::r).getD ((i+1)%(x::r).length) 0).toNat:=by
    rw[show r.map Int.toNat++[x.toNat]=(r++[x]).map Int.toNat by simp,List.getD_eq_getElem?_getD,List.getElem?_map,List.getD_eq_getElem?_getD];by_cases hlt:i<r.length
    ·rw[List.getElem?_append_left hlt,Nat.mod_eq_of_lt (show i+1<(x::r).length by simp;omega),gS,List.getElem?_eq_getElem hlt];rfl
    ·obtain rfl:i=r.length:=(by omega);rw[List.getElem?_append_right (Nat.le_refl _),Nat.sub_self,show(r.length+1)%(x::r).length=0 by simp];rfl
   rw[e1,e2];exact this
theorem zY{n:Nat}{E:aj}{v:Nat}:∀(l x:Nat),dA n E v x=l+1→iF E x (jC n E (dA n E v) x l) v=true
 |0,x,h=>Df h
 |l+1,x,h=>by
  obtain⟨y,h1,_,h3,h4⟩:=jX h;rw[jY h1];show(E x y&&iF E y _ v)=true;rw[h3,zY l y h4];rfl
theorem zZ{n:Nat}{E:aj}{v:Nat}:∀(l x:Nat),dA n E v x=l+1→∀y∈jC n E (dA n E v) x l,dA n E v y≤l
 |0,x,h,y,hy=>by cases hy
 |l+1,x,h,y,hy=>by
  obtain⟨z,h1,_,_,h4⟩:=jX h;rw[jY h1,List.mem_cons]at hy;rcases hy with rfl|hy
  ·omega
  ·have:=zZ l z h4 y hy;omega
theorem vJ{n:Nat}{E:aj}{v:Nat}:∀(l x:Nat),dA n E v x=l+1→(x::jC n E (dA n E v) x l).Nodup
 |0,x,h=>by simp[jC]
 |l+1,x,h=>by
  obtain⟨z,h1,_,_,h4⟩:=jX h;refine List.nodup_cons.2 ⟨fun hm=> ?_,?_⟩
  ·have:=zZ (l+1) x h x hm;omega
  ·rw[jY h1];exact vJ l z h4
theorem Fv{n:Nat}{E:aj}(h:eD n E≠[]):∃x r,eD n E=x::r∧(x::r).Nodup∧iF E x r x=true:=by
 unfold eD at h⊢;split at h
 ·exact absurd rfl h
 ·rename_i v hv;have h1:=List.find?_some hv;rw[bne_iff_ne]at h1;have hj:dA n E v v=(dA n E v v-1)+1:=(by omega);exact⟨v,_,rfl,vJ _ v hj,zY _ v hj⟩
def aV(H:List Txn)(level:Int)(l:List Cho):List Int:=(eD H.length (aX H level l)).map fun(x:Nat)=>(x:Int)
theorem Ae{H:List Txn}{level:Int}{l:List Cho}:aV H level l=[]↔fV H.length (aX H level l)=false:=by
 unfold aV;rw[List.map_eq_nil_iff];exact Jc
theorem yx{H:List Txn}{level:Int}{l:List Cho}(hr:aA H=true)(hl:level=0∨level=1)(ho:∀c∈l,bO H c=true)(h:aV H level l≠[]):iK H level l (aV H level l)=true:=by
 have h0:eD H.length (aX H level l)≠[]:=fun e=>h (by unfold aV;rw[e];rfl);obtain⟨x,r,e,hnd,hw⟩:=Fv h0;have hlt:∀a∈x::r,a<H.length:=fun a ha=>LG a (by rw[e];exact ha);unfold aV;rw[e];unfold iK;rw[List.length_map,decide_eq_true (show 0<(x::r).length by simp),Bool.true_and,List.all_eq_true];intro i hi;have hi:=List.mem_range.1 hi;have hj:(i+1)%(x::r).length<(x::r).length:=Nat.mod_lt _ (by simp);have g1:((x::r).map fun(x:Nat)=>(x:Int)).getD i 0=(((x::r)[i]:Nat):Int):=by
  rw[List.getD_eq_getElem?_getD,List.getElem?_map,List.getElem?_eq_getElem hi];rfl
 have g2:((x::r).map fun(x:Nat)=>(x:Int)).getD ((i+1)%(x::r).length) 0=(((x::r)[(i+1)%(x::r).length]:Nat):Int):=by
  rw[List.getD_eq_getElem?_getD,List.getElem?_map,List.getElem?_eq_getElem hj];rfl
 rw[g1,g2,Bool.and_eq_true];constructor
 ·rw[←List.map_take];rw[Bool.not_eq_true',←Bool.not_eq_true,List.contains_iff_mem];intro hm;obtain⟨y,hy,e2⟩:=List.mem_map.1 hm;obtain⟨k,hk,e3⟩:=List.mem_take_iff_getElem.1 hy;have:=List.pairwise_iff_getElem.1 (List.nodup_iff_pairwise_ne.1 hnd) k i (by omega) hi (by omega);exact this (by rw[e3];omega)
 ·rw[Dj hr hl ho (hlt _ (List.getElem_mem hi)) (hlt _ (List.getElem_mem hj))];rw[BU]at hw;have:=hw i (by simpa using hi);have e1:(x::r).getD i 0=(x::r)[i]:=(by rw[List.getD_eq_getElem?_getD,List.getElem?_eq_getElem hi];rfl);have e2:(r++[x]).getD i 0=(x::r)[(i+1)%(x::r).length]:=by
   have h3:(r++[x])[i]?=(x::r)[(i+1)%(x::r).length]?:=by
    by_cases hl2:i<r.length
    ·rw[List.getElem?_append_left hl2,Nat.mod_eq_of_lt (show i+1<(x::r).length by simp;omega),gS]
    ·have:i=r.length:=(by simp at hi;omega);subst this;rw[List.getElem?_append_right (Nat.le_refl _),Nat.sub_self,show(r.length+1)%(x::r).length=0 by simp];rfl
   rw[List.getD_eq_getElem?_getD,h3,List.getElem?_eq_getElem hj];rfl
  rw[e1,e2]at this;exact this
structure Nod where
 c:Cho
 cyc:List Int
deriving DecidableEq
def aY:Cho:=⟨0,0,0⟩
def oL:Fct:=⟨aY,0,0,0,[]⟩
def av(L:List Fct):List Cho:=L.map (·.c)
theorem dZ(L:List Fct):(av L).length=L.length:=List.length_map ..
theorem yA(L:List Fct)(f:Fct):av (L++[f])=av L++[f.c]:=by unfold av;rw[List.map_append];rfl
theorem Fw(L:List Fct)(i:Nat):av (L.take i)=(av L).take i:=by unfold av;rw[List.map_take]
def iU(H:List Txn)(level:Int)(L:List Fct)(n:Nat):Bool:=(List.range n).all fun i=>aW H level (L.take i) (L.getD i oL)
def dF(H:List Txn)(level:Int)(L:List Fct):Bool:=iU H level L L.length&&nE H level
theorem Dk(H:List Txn)(level:Int)(L:List Fct)(n:Nat):iU H level L (n+1)=(iU H level L n&&aW H level (L.take n) (L.getD n oL)):=by
 unfold iU;rw[List.range_succ,List.all_append];simp
theorem Jg{H:List Txn}{level:Int}{L:List Fct}{n i:Nat}(h:iU H level L n=true)(hi:i<n):aW H level (L.take i) (L.getD i oL)=true:=by
 unfold iU at h;rw[List.all_eq_true]at h;exact h i (List.mem_range.2 hi)
theorem Jh{H:List Txn}{level:Int}{L:List Fct}{n i:Nat}(h:aW H level (L.take i) (L.getD i oL)=false)(hi:i<n):iU H level L n=false:=by
 unfold iU;rw[List.all_eq_false];exact⟨i,List.mem_range.2 hi,by rw[h];decide⟩
theorem iZ{α:Type}{l:List α}{i:Nat}{d:α}(h:i<l.length):l.getD i d=l[i]:=by rw[List.getD_eq_getElem?_getD,List.getElem?_eq_getElem h];rfl
theorem yB{H:List Txn}{level:Int}{L:List Fct}(h:dF H level L=true){i:Nat}(hi:i<L.length):aW H level (L.take i) L[i]=true:=by
 unfold dF at h;rw[Bool.and_eq_true]at h;have:=Jg h.1 hi;rwa[iZ hi]at this
theorem dO{H:List Txn}{level:Int}{L:List Fct}(h:dF H level L=true):nE H level=true:=by
 unfold dF at h;rw[Bool.and_eq_true]at h;exact h.2
theorem iN{H:List Txn}{level:Int}:nE H level=true↔aA H=true∧(level=0∨level=1):=by
 unfold nE;rw[Bool.and_eq_true,Bool.or_eq_true,decide_eq_true_eq,decide_eq_true_eq]
theorem Ji{H:List Txn}{level:Int}{L:List Fct}:dF H level L=true↔nE H level=true∧∀i (hi:i<L.length),aW H level (L.take i) L[i]=true:=by
 constructor
 ·intro h;exact⟨dO h,fun i hi=>yB h hi⟩
 ·rintro⟨h1,h2⟩;unfold dF iU;rw[h1,Bool.and_true,List.all_eq_true];intro i hi;have hi:=List.mem_range.1 hi;rw[iZ hi];exact h2 i hi
theorem Fx{H:List Txn}{level:Int}{L:List Fct}(h:dF H level L=true)(n:Nat):dF H level (L.take n)=true:=by
 rw[Ji]at h⊢;refine⟨h.1,fun i hi=> ?_⟩;rw[List.length_take]at hi;rw[List.take_take,Nat.min_eq_left (by omega),List.getElem_take];exact h.2 i (by omega)
theorem holds_one{H:List Txn}{level:Int}{L:List Fct}{f:Fct}(h:aW H level L f=true):bO H f.c=true:=by
 unfold aW at h;simp only[Bool.and_eq_true]at h;exact h.1.1.2
theorem Jj{H:List Txn}{level:Int}{L:List Fct}{f:Fct}(h:aW H level L f=true):nE H level=true:=by
 unfold aW at h;simp only[Bool.and_eq_true]at h;exact h.1.1.1
theorem jl{H:List Txn}{level:Int}{L:List Fct}(h:dF H level L=true):∀c∈av L,bO H c=true:=fun c hc=>by
 unfold av at hc;obtain⟨f,hf,rfl⟩:=List.mem_map.1 hc;obtain⟨i,hi,rfl⟩:=List.getElem_of_mem hf;exact holds_one (yB h hi)
theorem Fy{H:List Txn}{level:Int}{L:List Fct}(h:dF H level L=true)(hn:L.length≤20000):dM H (av L)=true:=by
 unfold dM;rw[(iN.1 (dO h)).1,dZ,decide_eq_true hn,Bool.true_and,Bool.true_and,List.all_eq_true];exact jl h
def qI(H:List Txn)(level:Int)(L:List Fct)(i:Nat):Nod:=⟨aY,aV H level (av (L.take i)++[aL (L.getD i oL).c])⟩
def d9(H:List Txn)(level:Int)(L:List Fct)(tree:List Nod):List Nod:=
 L.map (fun f=>⟨f.c,[]⟩)++tree++(List.range L.length).map fun k=>qI H level L (L.length-1-k)
def mh(H:List Txn)(l:List Cho):Option Cho:=(aI H).find? fun p=> !l.contains p&& !l.contains (aL p)
structure Say where
 said:Int
 order:List Nat
 tree:List Nod
 facts:List Fct
deriving DecidableEq
def jv:Say:=⟨3,[],[],[]⟩
def nQ:Say:=⟨0,[],[],[]⟩
def jw(H:List Txn)(at' idle:Int):Bool:=aA H&&decide (0≤idle)&&decide (idle≤((aI H).length:Int))&&decide (0≤at')&&decide (at'<max ((aI H).length:Int) 1)
def dK(H:List Txn)(level:Int)(L:List Fct):Say:=
 match mh H (av L)with
 |some _=>jv
 |none=>match fD H.length (aX H level (av L))with
  |some o=>⟨1,o,[],[]⟩
  |none=>⟨2,[],d9 H level L [⟨aY,aV H level (av L)⟩],[]⟩
def gG(c:Cho)(x:Nat×Nat):Fct:=⟨c,2,(x.1:Int),(x.2:Int),[]⟩
def Qf(n:Nat):List (Nat×Nat):=((List.range n).map fun i=>(List.range n).map fun j=>(i,j)).flatten
def dL(H:List Txn)(level:Int)(L:List Fct)(c:Cho):Option Fct:=((Qf L.length).map (gG c)).find? (aW H level L)
def eG(H:List Txn)(level:Int)(L:List Fct)(p:Cho):Say:=
 match dL H level L p with
 |some f=>⟨0,[],[],[f]⟩
 |none=>match dL H level L (aL p)with
  |some f=>⟨0,[],[],[f]⟩
  |none=>
   let a:=aV H level (av L++[aL p])
   let b:=aV H level (av L++[p])
   if a=[]then if b=[]then nQ else⟨0,[],[],[⟨aL p,4,0,0,b⟩]⟩
   else if b=[]then⟨0,[],[],[⟨p,4,0,0,a⟩]⟩
   else⟨2,[],d9 H level L [⟨p,[]⟩,⟨aY,b⟩,⟨aY,a⟩],[]⟩
def dG(H:List Txn)(level at' idle:Int)(L:List Fct):(Int×Int)×Say:=
 if jw H at' idle&&decide (L.length<20000)&&dF H level L then
  if idle=((aI H).length:Int)then((at',idle),dK H level L)
  else
   let p:=(aI H).getD at'.toNat aY
   let at2:Int:=(((at'.toNat+1)%(aI H).length:Nat):Int)
   if(av L).contains p||(av L).contains (aL p)then((at2,idle+1),nQ)
   else
    let o:=eG H level L p
    ((at2,if o.facts=[]then idle+1 else 0),o)
 else((at',idle),jv)
theorem Fz{H:List Txn}{l:List Cho}(h:mh H l=none){p:Cho}(hp:p∈aI H):p∈l∨aL p∈l:=by
 unfold mh at h;rw[List.find?_eq_none]at h;have:=h p hp;simp at this;exact Classical.or_iff_not_imp_left.2 this
theorem nG{H:List Txn}{level:Int}{L:List Fct}{c:Cho}{f:Fct}(h:dL H level L c=some f):aW H level L f=true∧f.c=c:=by
 unfold dL at h;have h1:=List.find?_some h;have h2:=List.mem_of_find?_eq_some h;obtain⟨x,_,rfl⟩:=List.mem_map.1 h2;exact⟨h1,rfl⟩
theorem sN{H:List Txn}{level:Int}{L:List Fct}{c:Cho}(hm:nE H level=true)(hL:∀d∈av L,bO H d=true)(hc:bO H c=true)(h:aV H level (av L++[aL c])≠[]):aW H level L ⟨c,4,0,0,aV H level (av L++[aL c])⟩=true:=by
 obtain⟨h1,h2⟩:=iN.1 hm;have ho:∀d∈av L++[aL c],bO H d=true:=fun d hd=>by
  rw[List.mem_append,List.mem_singleton]at hd;rcases hd with hd|rfl
  ·exact hL d hd
  ·exact jg hc
 have hr:=yx h1 h2 ho h;unfold aW qj zS;dsimp only;rw[hm,hc];simp only[Bool.true_and,decide_true,Bool.true_or,if_neg (show¬(4:Int)=1 by decide),if_neg (show¬(4:Int)=2 by decide),if_neg (show¬(4:Int)=3 by decide),if_true];exact hr
theorem FB{H:List Txn}{level:Int}{L:List Fct}{p:Cho}(hr:dF H level L=true)(hp:bO H p=true){f:Fct}(hf:f∈(eG H level L p).facts):aW H level L f=true∧(f.c=p∨f.c=aL p):=by
 have hm:=dO hr;have hL:=jl hr;unfold eG at hf;split at hf
 ·rename_i g hg;obtain rfl:f=g:=(by simpa using hf);exact⟨(nG hg).1,.inl (nG hg).2⟩
 ·split at hf
  ·rename_i g hg;obtain rfl:f=g:=(by simpa using hf);exact⟨(nG hg).1,.inr (nG hg).2⟩
  ·dsimp only at hf;split at hf
   ·split at hf
    ·cases hf
    ·rename_i h1;have hf:f=⟨aL p,4,0,0,aV H level (av L++[p])⟩:=(by simpa using hf);subst hf;exact⟨sN (c:=aL p) hm hL (jg hp) h1,.inr rfl⟩
   ·split at hf
    ·rename_i h1 _;have hf:f=⟨p,4,0,0,aV H level (av L++[aL p])⟩:=(by simpa using hf);subst hf;exact⟨sN hm hL hp h1,.inl rfl⟩
    ·cases hf
theorem Jk(H:List Txn)(level:Int)(L:List Fct)(p:Cho):((eG H level L p).said=0∧(eG H level L p).facts.length≤1)∨((eG H level L p).said=2∧(eG H level L p).facts=[]):=by
 unfold eG;split
 ·exact .inl ⟨rfl,Nat.le_refl _⟩
 ·split
  ·exact .inl ⟨rfl,Nat.le_refl _⟩
  ·dsimp only;split
   ·split
    ·exact .inl ⟨rfl,Nat.zero_le _⟩
    ·exact .inl ⟨rfl,Nat.le_refl _⟩
   ·split
    ·exact .inl ⟨rfl,Nat.le_refl _⟩
    ·exact .inr ⟨rfl,rfl⟩
theorem FC(H:List Txn)(level:Int)(L:List Fct):(dK H level L).said≠0∧(dK H level L).facts=[]:=by
 unfold dK;split
 ·exact⟨by show(3:Int)≠0;decide,rfl⟩
 ·split
  ·exact⟨by show(1:Int)≠0;decide,rfl⟩
  ·exact⟨by show(2:Int)≠0;decide,rfl⟩
end Go.Inq
namespace Go.Proofs.YtfhnamomiaekdaaGreatDoor
open Go.RowKit Go.Inq
set_option maxHeartbeats 1000000
def jZ(w:World)(K:Nat→Prop)(cs:List Value)(f:Fct):Prop:=∃A c,cs=[.int .i64 f.c.key,.int .i64 f.c.a,.int .i64 f.c.b,.int .i64 f.kind,.int .i64 f.i,.int .i64 f.j,.slice A f.cyc.length c]∧aO w K (.slice A f.cyc.length c) f.cyc
theorem jZ.aT:lN jZ:=fun _ _ _ _ _ _ h ha hk=>by
 obtain⟨A,c,h1,h2⟩:=h;exact⟨A,c,h1,aO.keep h2 ha hk⟩
def eU(w:World)(K:Nat→Prop)(v:Value)(l:List Fct):Prop:=SlR 7 jZ w K v l
section
variable{w w':World}{K K':Nat→Prop}{v:Value}{l:List Fct}
theorem eU.keep(h:eU w K v l)(ha:Agree K w w')(hk:∀b,K b→K' b):eU w' K' v l:=SlR.keep jZ.aT h ha hk
theorem eU.below(h:eU w (Old w) v l)(hb:Below w.heap.size w w'):eU w' (Old w') v l:=SlR.below jZ.aT h hb
theorem eU.fit(h:eU w K v l)(hk:∀b,K b→K' b):eU w K' v l:=SlR.fit jZ.aT h hk
theorem eU.nil(w:World)(K:Nat→Prop)(A:Option Addr)(c:Nat):eU w K (.slice A 0 c) []:=SlR.nil _ _ _ _ _ _
theorem eU.take{A:Option Addr}{n c:Nat}(h:eU w K (.slice A n c) l){k:Nat}(hk:k≤l.length):eU w K (.slice A k c) (l.take k):=SlR.take h hk
theorem eU.cap{A:Option Addr}{n c:Nat}(h:eU w K (.slice A n c) l):l.length≤c:=by
 obtain⟨_,_,e,h1⟩:=SlR.len h;simp only[Value.slice.injEq]at e;omega
structure Rk(w:World)(K:Nat→Prop)(b o:Nat)(f:Fct)(Ay:Option Addr)(cy:Nat):Prop where
 d0:w.cell? ⟨b,o,none⟩=some (.int .i64 f.c.key)
 d1:w.cell? ⟨b,o+1,none⟩=some (.int .i64 f.c.a)
 d2:w.cell? ⟨b,o+2,none⟩=some (.int .i64 f.c.b)
 d3:w.cell? ⟨b,o+3,none⟩=some (.int .i64 f.kind)
 d4:w.cell? ⟨b,o+4,none⟩=some (.int .i64 f.i)
 d5:w.cell? ⟨b,o+5,none⟩=some (.int .i64 f.j)
 d6:w.cell? ⟨b,o+6,none⟩=some (.slice Ay f.cyc.length cy)
 cyc:aO w K (.slice Ay f.cyc.length cy) f.cyc
theorem eU.at_{A:Option Addr}{n c:Nat}(h:eU w K (.slice A n c) l){i:Nat}(hi:i<l.length):∃b off Ay cy,A=some ⟨b,off,none⟩∧K b∧Rk w K b (off+i*7) l[i] Ay cy:=by
 obtain⟨b,off,cs,hA,hK,-,⟨Ay,cy,rfl,hy⟩,hc⟩:=SlR.at_ h hi;exact⟨b,off,Ay,cy,hA,hK,hc 0 _ rfl,hc 1 _ rfl,hc 2 _ rfl,hc 3 _ rfl,hc 4 _ rfl,hc 5 _ rfl,hc 6 _ rfl,hy⟩
end
def fP(w:World)(K:Nat→Prop)(cs:List Value)(n:Nod):Prop:=∃A c,cs=[.int .i64 n.c.key,.int .i64 n.c.a,.int .i64 n.c.b,.slice A n.cyc.length c]∧aO w K (.slice A n.cyc.length c) n.cyc
theorem fP.aT:lN fP:=fun _ _ _ _ _ _ h ha hk=>by
 obtain⟨A,c,h1,h2⟩:=h;exact⟨A,c,h1,aO.keep h2 ha hk⟩
def eX(w:World)(K:Nat→Prop)(v:Value)(l:List Nod):Prop:=SlR 4 fP w K v l
section
variable{w w':World}{K K':Nat→Prop}{v:Value}{l:List Nod}
theorem eX.keep(h:eX w K v l)(ha:Agree K w w')(hk:∀b,K b→K' b):eX w' K' v l:=SlR.keep fP.aT h ha hk
theorem eX.below(h:eX w (Old w) v l)(hb:Below w.heap.size w w'):eX w' (Old w') v l:=SlR.below fP.aT h hb
theorem eX.fit(h:eX w K v l)(hk:∀b,K b→K' b):eX w K' v l:=SlR.fit fP.aT h hk
theorem eX.nil(w:World)(K:Nat→Prop)(A:Option Addr)(c:Nat):eX w K (.slice A 0 c) []:=SlR.nil _ _ _ _ _ _
theorem eX.cap{A:Option Addr}{n c:Nat}(h:eX w K (.slice A n c) l):l.length≤c:=by
 obtain⟨_,_,e,h1⟩:=SlR.len h;simp only[Value.slice.injEq]at e;omega
structure Rl(w:World)(K:Nat→Prop)(b o:Nat)(n:Nod)(Ay:Option Addr)(cy:Nat):Prop where
 d0:w.cell? ⟨b,o,none⟩=some (.int .i64 n.c.key)
 d1:w.cell? ⟨b,o+1,none⟩=some (.int .i64 n.c.a)
 d2:w.cell? ⟨b,o+2,none⟩=some (.int .i64 n.c.b)
 d3:w.cell? ⟨b,o+3,none⟩=some (.slice Ay n.cyc.length cy)
 cyc:aO w K (.slice Ay n.cyc.length cy) n.cyc
theorem eX.at_{A:Option Addr}{n c:Nat}(h:eX w K (.slice A n c) l){i:Nat}(hi:i<l.length):∃b off Ay cy,A=some ⟨b,off,none⟩∧K b∧Rl w K b (off+i*4) l[i] Ay cy:=by
 obtain⟨b,off,cs,hA,hK,-,⟨Ay,cy,rfl,hy⟩,hc⟩:=SlR.at_ h hi;exact⟨b,off,Ay,cy,hA,hK,hc 0 _ rfl,hc 1 _ rfl,hc 2 _ rfl,hc 3 _ rfl,hy⟩
end
def Jl(L:List Fct):Prop:=L.length≤1000000∧∀f∈L,f.cyc.length≤1000000
def Dl(l:List Nod):Prop:=l.length≤100000000∧∀n∈l,n.cyc.length≤1000000
end Go.Proofs.YtfhnamomiaekdaaGreatDoor
namespace Go.Inq
open Go
section
variable{P:Program}{ops:Array Oper}{Q:Exit→Act→World→Prop}{a b a0:Act}
theorem Flo.congr{vs vs':Nat→Value}{L:Nat→Bool}(h:Flo ops a0 vs L a)(hv:∀j,L j=true→vs j=vs' j):Flo ops a0 vs' L a:=
 ⟨h.defers,h.size,fun j o t hj hd hl hs=>by rw[←hv j hl];exact h.hit j o t hj hd hl hs,h.miss⟩
theorem Dm {i:Nat} {o:Oper} {w:World} {R:Value→World→Prop} {K:Act→World→Prop} (ho:ops[i]?=some o) (hsel:∀cs b,o.op≠ .select cs b)
 (hr:∀t∈iM ops o,a.tmps[t]?=b.tmps[t]?) (hs:a.tmps.size=b.tmps.size) (hK:∀v w',R v w'→K (a.put o.dst v) w')
 (h:wpList P ops (fun e a' w'=>e= .normal∧∃v,a'=b.put o.dst v∧R v w') [o] b w):wpOp P ops Q i K a w:=by
 have hw:Region.wanted o (yielded ops a.tmps)=Region.wanted o (yielded ops b.tmps):=by
  unfold Region.wanted;cases hg:o.guard with
  |none=>rfl
  |some g=>
   obtain⟨j,x⟩:=g;dsimp only;have:yielded ops a.tmps j=yielded ops b.tmps j:=by
    unfold yielded;cases hd:(ops[j]?).bind (·.dst)with
    |none=>rfl
    |some t=>
     have hm:t∈iM ops o:=by
      unfold iM;rw[hg];refine List.mem_append.2 (.inr ?_);show t∈((ops[j]?).bind (·.dst)).toList;rw[hd];simp
     simp only[Option.bind_some];rw[hr t hm]
   rw[this]
 have he:execOp a.eval o=execOp b.eval o:=by
  refine execOp_congr o hsel fun x hx=> ?_;cases x with
  |tmp t=>
   have hm:t∈iM ops o:=by
    unfold iM;refine List.mem_append.2 (.inl ?_);rw[List.mem_filterMap];exact⟨.tmp t,by simpa using hx,rfl⟩
   have:=hr t hm;simp only[Act.eval,Array.getD_eq_getD_getElem?,this]
  |_=>rfl
 unfold wpOp;rw[ho];dsimp only;unfold wpList at h;rw[hw];by_cases hwd:Region.wanted o (yielded ops b.tmps)=true
 ·rw[if_pos hwd]at h⊢;left;rcases h with h|⟨_,_,_,h,_⟩
  ·unfold Oper.wp at*;rw[he];generalize(execOp b.eval o).run P w=r at h;have key:∀u w',wpList P ops (fun e a' w'=>e= .normal∧∃v,a'=b.put o.dst v∧R v w') [] (b.put o.dst u) w'→K (a.put o.dst u) w':=fun u w' h=>by
    unfold wpList at h;obtain⟨_,v,h1,h2⟩:=h;rw[wT hs h1];exact hK v w' h2
   cases r with
   |halt x w'=>
    cases x<;>simp only[Oper.upon]at h⊢;exact absurd h.1 (by simp)
   |ok n w'=>
    cases n with
    |value u=>exact key u w' h
    |skip=>exact key undef w' h
    |defer d=>
     simp only[Oper.upon]at h;unfold wpList at h;obtain⟨_,v,h1,_⟩:=h;have h1:=congrArg Act.defers h1;rw[put_defers,put_defers]at h1;exact absurd (congrArg List.length h1) (by simp)
    |enter f args=>
     simp only[Oper.upon]at h⊢;refine Calls.mono h fun e w'' he=> ?_;cases e with
     |returned u=>exact key u w'' he
     |panicked c=>exact absurd he.1 (by simp)
     |outgrown=>
      obtain⟨_,_,h1,_⟩:=he;cases h1
    |row r args=>
     simp only[Oper.upon]at h⊢;exact Rows.mono h fun u w'' he=>key u w'' he
    |_=>simp only[Oper.upon]at h
  ·cases h
 ·rw[if_neg hwd]at h⊢;unfold wpList at h;obtain⟨_,v,h1,h2⟩:=h;rw[wT hs h1];exact hK v w h2
def acV(ops:Array Oper)(a0:Act)(vs:Nat→Value):Nat→Act
 |0=>a0
 |i+1=>match ops[i]? with
  |some o=>(acV ops a0 vs i).put o.dst (vs i)
  |none=>acV ops a0 vs i
theorem sO(hB:eF ops=true)(vs:Nat→Value):∀i,Flo ops a0 vs (fun j=>decide (j<i)) (acV ops a0 vs i)
 |0=>Flo.start fun j=>by simp
 |i+1=>by
  unfold acV;have ih:=sO hB vs i;cases hx:ops[i]? with
  |none=>
   have hle:ops.size≤i:=by
    rcases Nat.lt_or_ge i ops.size with h1|h1
    ·rw[Array.getElem?_eq_getElem h1]at hx;cases hx
    ·exact h1
   dsimp only;refine⟨ih.defers,ih.size,fun j o t hj hd hlt hs=>ih.hit j o t hj hd ?_ hs,fun t ht=>ih.miss t fun j o hj hd=> ?_⟩
   ·have:=(Array.getElem?_eq_some_iff.1 hj).1;simp at this⊢;omega
   ·have:=ht j o hj hd;simp at this⊢;omega
  |some o=>
   dsimp only;refine ih.put hB hx fun j=> ?_;rw[Bool.eq_iff_iff];simp;omega
def dx(vs:Nat→Value)(i:Nat)(v:Value):Nat→Value:=fun j=>if j=i then v else vs j
theorem Jm {Rs:Nat→(Nat→Value)→World→Prop} {S:World→Prop} {St:Nat→World→World→Prop} (hB:eF ops=true) (dp:Nat→List Nat) (hdp:∀i j,j∈dp i→aZ .any ops ops.size i j=true)
 (kl:Nat→List Nat) (hkl:∀i j k,i<ops.size→k<ops.size→j∈kl i→j∈dp k→k=i∨aZ .any ops ops.size i k=true)
 (hcg:∀j vs vs' w,(∀k,k=j∨k∈dp j→vs k=vs' k)→Rs j vs w→Rs j vs' w) (hR:∀i j vs w w',j≠i→j∉kl i→Rs j vs w→St i w w'→Rs j vs w')
 (hstep:∀i o,ops[i]?=some o→∀(vs:Nat→Value) w,S w→(∀j∈dp i,Rs j vs w)→wpList P ops (fun e a' w'=>e= .normal∧∃v,a'=(acV ops a0 vs i).put o.dst v∧Rs i (dx vs i v) w'∧S w'∧St i w w') [o] (acV ops a0 vs i) w)
 (hend:∀(vs:Nat→Value) w,S w→(∀j,j<ops.size→(∀i,i<ops.size→j∉kl i)→Rs j vs w)→Q .normal (acV ops a0 vs ops.size) w):
 ∀(fuel:Nat) (listed:Array Bool) (a:Act) (w:World) (vs:Nat→Value),Closed .any ops listed→listed.size=ops.size→lacks ops.size (fun j=>listed.getD j false)=fuel→Flo ops a0 vs (fun j=>listed.getD j false) a→S w→
  (∀j,listed.getD j false=true→(∀i,listed.getD i false=true→j∉kl i)→Rs j vs w)→wpAny P .any ops Q fuel listed a w:=by
 have hnone:∀(listed:Array Bool),listed.size=ops.size→Region.ready .any ops listed=[]→∀i,i<ops.size→listed.getD i false=true:=by
  intro listed hsz hr i
  induction i using Nat.strongRecOn with
  |_ i ih=>
   intro hi;cases hl:listed.getD i false with
   |true=>rfl
   |false=>
    exfalso;have ho:ops[i]?=some ops[i]:=Array.getElem?_eq_getElem hi;have hm:i∈Region.ready .any ops listed:=by
     rw[mem_ready];refine⟨?_,ops[i],ho,fun e he hb=> ?_⟩
     ·have hi2:i<listed.size:=(by omega);simp only[Array.getD_eq_getD_getElem?,Array.getElem?_eq_getElem hi2,Option.getD_some]at hl⊢;exact hl
     ·have h1:=nC hB ho e he hb;exact ih e.on h1 (by omega)
    rw[hr]at hm;cases hm
 have hfin:∀(listed:Array Bool) (a:Act) (w:World) (vs:Nat→Value),listed.size=ops.size→(∀i,i<ops.size→listed.getD i false=true)→Flo ops a0 vs (fun j=>listed.getD j false) a→S w→(∀j,listed.getD j false=true→(∀i,listed.getD i false=true→j∉kl i)→Rs j vs w)→Q .normal a w:=by
  intro listed a w vs SB hall hf hS hRs;have hac:=sO (a0:=a0) hB vs ops.size;have:a=acV ops a0 vs ops.size:=by
   have h1:a.tmps=(acV ops a0 vs ops.size).tmps:=by
    refine Array.ext_getElem? fun t=> ?_;refine hf.agree hac fun j o hj _=> ?_;have hjs:=(Array.getElem?_eq_some_iff.1 hj).1;rw[hall j hjs];simp[hjs]
   have h2:a.defers=(acV ops a0 vs ops.size).defers:=(by rw[hf.defers,hac.defers]);cases a;cases hx:acV ops a0 vs ops.size;rw[hx]at h1 h2;simp only at h1 h2;rw[h1,h2]
  rw[this];refine hend vs w hS fun j hj hk=>hRs j (hall j hj) fun i hi=>hk i ?_;rcases Nat.lt_or_ge i ops.size with h|h
  ·exact h
  ·rw[Array.getD_eq_getD_getElem?,Array.getElem?_eq_none (by omega)]at hi;cases hi
 intro fuel
 induction fuel with
 |zero=>
  intro listed a w vs hcl hsz hlk hf hS hRs;have hall:=pV _ _ hlk;refine⟨?_,hfin listed a w vs hsz hall hf hS hRs⟩;rw[List.eq_nil_iff_forall_not_mem];intro i hi;obtain⟨h1,o,ho,_⟩:=mem_ready.1 hi;have his:=(Array.getElem?_eq_some_iff.1 ho).1;have h2:=hall i his;have hi2:i<listed.size:=(by omega);simp only[Array.getD_eq_getD_getElem?,Array.getElem?_eq_getElem hi2,Option.getD_some]at h1 h2;rw[h1]at h2;cases h2
 |succ fuel ih=>
  intro listed a w vs hcl hsz hlk hf hS hRs;refine⟨fun hr=>hfin listed a w vs hsz (hnone listed hsz hr) hf hS hRs,fun i hi=> ?_⟩;obtain⟨h1,o,ho,hall⟩:=mem_ready.1 hi;have his:=(Array.getElem?_eq_some_iff.1 ho).1;have hi2:i<listed.size:=(by omega);have hun:listed.getD i false=false:=by
   simp only[Array.getD_eq_getD_getElem?,Array.getElem?_eq_getElem hi2,Option.getD_some]at h1⊢;exact h1
  have hset:∀j,(listed.setIfInBounds i true).getD j false=(listed.getD j false||decide (j=i)):=fun j=>by
   by_cases hji:j=i
   ·subst hji;simp[Array.getD_eq_getD_getElem?,hi2]
   ·rw[getD_set_ne false (Ne.symm hji)];simp[hji]
  have hsel:=fun cs b=>Region.noSelect_spec (ops:=ops) (by unfold eF at hB;rw[Bool.and_eq_true]at hB;exact hB.1) i o cs b ho;have hac:=sO (a0:=a0) hB vs i;refine Dm (b:=acV ops a0 vs i) (R:=fun v w'=>Rs i (dx vs i v) w'∧S w'∧St i w w') ho hsel (fun t ht=> ?_) (by rw[hf.size,hac.size]) (fun v w' hS'=> ?_) (hstep i o ho vs w hS fun j hj=>hRs j (hcl.ready (hdp i j hj) hi) fun i' hi' hk=>by
   have SC:i'<ops.size:=by
    rcases Nat.lt_or_ge i' ops.size with h|h
    ·exact h
    ·rw[Array.getD_eq_getD_getElem?,Array.getElem?_eq_none (by omega)]at hi';cases hi'
   rcases hkl i' j i SC his hk hj with e|e
   ·subst e;rw[hun]at hi';cases hi'
   ·have:=hcl.waits _ _ _ e hi';rw[hun]at this;cases this)
  ·refine hf.agree hac fun j oj hj hd=> ?_;rcases(lu hB ho hj hd).2 ht with⟨h2,h3⟩|⟨h2,h3⟩|h2
   ·rw[hcl.ready h3 hi];simp[h2]
   ·have h4:decide (j<i)=false:=(by simp;omega);rw[h4];cases hlj:listed.getD j false with
    |false=>rfl
    |true=>
     have:=hcl.waits _ _ _ h3 hlj;rw[hun]at this;cases this
   ·subst h2;rw[hun];simp
  ·obtain⟨hv,hS2,hst⟩:=hS';have hf2:Flo ops a0 (dx vs i v) (fun j=>listed.getD j false) a:=hf.congr fun j hj=>by
    unfold dx;rw[if_neg];rintro rfl;rw[hun]at hj;cases hj
   have hput:=hf2.put hB ho hset;have hvi:dx vs i v i=v:=(by simp[dx]);rw[hvi]at hput;refine ih (listed.setIfInBounds i true) _ w' (dx vs i v) (hcl.aH hi) (by rw[Array.size_setIfInBounds];exact hsz) ?_ hput hS2 fun j hj hkj=> ?_
   ·have:=pW (f:=fun j=>listed.getD j false) (g:=fun j=>(listed.setIfInBounds i true).getD j false) hun hset ops.size his;omega
   ·rw[hset]at hj;by_cases hji:j=i
    ·subst hji;exact hv
    ·have hjl:listed.getD j false=true:=(by simpa[hji]using hj);refine hcg j vs _ _ (fun k hk=> ?_) (hR i j _ _ _ hji (hkj i (by rw[hset];simp)) (hRs j hjl fun i' hi'=>hkj i' (by rw[hset,hi'];rfl)) hst);unfold dx;rw[if_neg];rintro rfl;rcases hk with e|hk
     ·exact hji e.symm
     ·have:=hcl.waits _ _ _ (hdp j k hk) hjl;rw[hun]at this;cases this
def rD(R:Value→World→Prop)(a:Act)(d:Option Tmp):Exit→Act→World→Prop:=fun e a' w'=>e= .normal∧∃v,a'=a.put d v∧R v w'
theorem lV {id:Nat} {w:World} {l:List Oper} (Rs:Nat→(Nat→Value)→World→Prop) (S:World→Prop) (St:Nat→World→World→Prop) (dp:Nat→List Nat) (hm:P.follows .mixedOrders=true) (hB:eF l.toArray=true)
 (hdp:((List.range l.length).all fun i=>(dp i).all fun j=>aZ .any l.toArray l.length i j)=true) (Qg:∀i,l.length≤i→dp i=[])
 (kl:Nat→List Nat) (hkl:((List.range l.length).all fun i=>(kl i).all fun j=>(List.range l.length).all fun k=> !(dp k).contains j||k==i||aZ .any l.toArray l.length i k)=true)
 (hcg:∀j vs vs' w,(∀k,k=j∨k∈dp j→vs k=vs' k)→Rs j vs w→Rs j vs' w) (hR:∀i j vs w w',j≠i→j∉kl i→Rs j vs w→St i w w'→Rs j vs w') (hS:S w.drew)
 (hstep:∀i o,l[i]?=some o→∀(vs:Nat→Value) w,S w→(∀j∈dp i,Rs j vs w)→wpList P l.toArray (rD (fun v w'=>Rs i (dx vs i v) w'∧S w'∧St i w w') (acV l.toArray a vs i) o.dst) [o] (acV l.toArray a vs i) w)
 (hend:∀(vs:Nat→Value) w,S w→(∀j,j<l.length→(∀i,i<l.length→j∉kl i)→Rs j vs w)→Q .normal (acV l.toArray a vs l.length) w):(Code.region id l.toArray true).wp P Q a w:=by
 have hsz:l.toArray.size=l.length:=(by simp);have hget:∀i:Nat,l.toArray[i]?=l[i]?:=fun i=>List.getElem?_toArray ..;refine wp_region_any hm ?_;refine Jm (Rs:=Rs) (S:=S) (St:=St) hB dp (fun i j hj=> ?_) kl (fun i j k hi hk hj hd=> ?_) hcg hR (fun i o ho=>hstep i o (by rw[←hget];exact ho)) (fun vs w h1 h2=>by rw[hsz];exact hend vs w h1 (by rw[←hsz];exact h2)) _ _ a _ (fun _=>undef) (Closed.start _ _ _) (by simp) ?_ (Flo.start fun j=>getD_replicate_false _ _) hS (fun j hj _=>by rw[getD_replicate_false]at hj;cases hj)
 ·rw[hsz];rcases Nat.lt_or_ge i l.length with h|h
  ·exact List.all_eq_true.1 (List.all_eq_true.1 hdp i (List.mem_range.2 h)) j hj
  ·rw[Qg i h]at hj;cases hj
 ·rw[hsz]at hi hk⊢;have h1:=List.all_eq_true.1 (List.all_eq_true.1 (List.all_eq_true.1 hkl i (List.mem_range.2 hi)) j hj) k (List.mem_range.2 hk);rw[Bool.or_eq_true,Bool.or_eq_true,Bool.not_eq_true',beq_iff_eq]at h1;rcases h1 with(h1|h1)|h1
  ·rw[List.contains_iff_mem.2 hd]at h1;cases h1
  ·exact .inl h1
  ·exact .inr h1
 ·have:(fun j=>(Array.replicate l.toArray.size false).getD j false)=fun _=>false:=funext fun j=>getD_replicate_false _ _;rw[this,nD]
end
section
variable{P:Program}{ops:Array Oper}{Q:Exit→Act→World→Prop}{a b a0:Act}
theorem Jo {Inv:(Nat→Bool)→(Nat→Value)→World→Prop} (hB:eF ops=true)
 (hstep:∀i o,ops[i]?=some o→∀(L:Nat→Bool) (vs:Nat→Value) w,L i=false→(∀j,aZ .any ops ops.size i j=true→L j=true)→(∀k,aZ .any ops ops.size k i=true→L k=false)→Inv L vs w→wpList P ops (fun e a' w'=>e= .normal∧∃v,a'=(acV ops a0 vs i).put o.dst v∧Inv (fun j=>L j||decide (j=i)) (dx vs i v) w') [o] (acV ops a0 vs i) w)
 (hend:∀(L:Nat→Bool) (vs:Nat→Value) w,(∀j,j<ops.size→L j=true)→Inv L vs w→Q .normal (acV ops a0 vs ops.size) w):
 ∀(fuel:Nat) (listed:Array Bool) (a:Act) (w:World) (vs:Nat→Value),Closed .any ops listed→listed.size=ops.size→lacks ops.size (fun j=>listed.getD j false)=fuel→Flo ops a0 vs (fun j=>listed.getD j false) a→
  Inv (fun j=>listed.getD j false) vs w→wpAny P .any ops Q fuel listed a w:=by
 have hnone:∀(listed:Array Bool),listed.size=ops.size→Region.ready .any ops listed=[]→∀i,i<ops.size→listed.getD i false=true:=by
  intro listed hsz hr i
  induction i using Nat.strongRecOn with
  |_ i ih=>
   intro hi;cases hl:listed.getD i false with
   |true=>rfl
   |false=>
    exfalso;have ho:ops[i]?=some ops[i]:=Array.getElem?_eq_getElem hi;have hm:i∈Region.ready .any ops listed:=by
     rw[mem_ready];refine⟨?_,ops[i],ho,fun e he hb=> ?_⟩
     ·have hi2:i<listed.size:=(by omega);simp only[Array.getD_eq_getD_getElem?,Array.getElem?_eq_getElem hi2,Option.getD_some]at hl⊢;exact hl
     ·have h1:=nC hB ho e he hb;exact ih e.on h1 (by omega)
    rw[hr]at hm;cases hm
 have hfin:∀(listed:Array Bool) (a:Act) (w:World) (vs:Nat→Value),listed.size=ops.size→(∀i,i<ops.size→listed.getD i false=true)→Flo ops a0 vs (fun j=>listed.getD j false) a→Inv (fun j=>listed.getD j false) vs w→Q .normal a w:=by
  intro listed a w vs SB hall hf hI;have hac:=sO (a0:=a0) hB vs ops.size;have:a=acV ops a0 vs ops.size:=by
   have h1:a.tmps=(acV ops a0 vs ops.size).tmps:=by
    refine Array.ext_getElem? fun t=> ?_;refine hf.agree hac fun j o hj _=> ?_;have hjs:=(Array.getElem?_eq_some_iff.1 hj).1;rw[hall j hjs];simp[hjs]
   have h2:a.defers=(acV ops a0 vs ops.size).defers:=(by rw[hf.defers,hac.defers]);cases a;cases hx:acV ops a0 vs ops.size;rw[hx]at h1 h2;simp only at h1 h2;rw[h1,h2]
  rw[this];exact hend _ vs w hall hI
 intro fuel
 induction fuel with
 |zero=>
  intro listed a w vs hcl hsz hlk hf hI;have hall:=pV _ _ hlk;refine⟨?_,hfin listed a w vs hsz hall hf hI⟩;rw[List.eq_nil_iff_forall_not_mem];intro i hi;obtain⟨h1,o,ho,_⟩:=mem_ready.1 hi;have his:=(Array.getElem?_eq_some_iff.1 ho).1;have h2:=hall i his;have hi2:i<listed.size:=(by omega);simp only[Array.getD_eq_getD_getElem?,Array.getElem?_eq_getElem hi2,Option.getD_some]at h1 h2;rw[h1]at h2;cases h2
 |succ fuel ih=>
  intro listed a w vs hcl hsz hlk hf hI;refine⟨fun hr=>hfin listed a w vs hsz (hnone listed hsz hr) hf hI,fun i hi=> ?_⟩;obtain⟨h1,o,ho,hall⟩:=mem_ready.1 hi;have his:=(Array.getElem?_eq_some_iff.1 ho).1;have hi2:i<listed.size:=(by omega);have hun:listed.getD i false=false:=by
   simp only[Array.getD_eq_getD_getElem?,Array.getElem?_eq_getElem hi2,Option.getD_some]at h1⊢;exact h1
  have hset:∀j,(listed.setIfInBounds i true).getD j false=(listed.getD j false||decide (j=i)):=fun j=>by
   by_cases hji:j=i
   ·subst hji;simp[Array.getD_eq_getD_getElem?,hi2]
   ·rw[getD_set_ne false (Ne.symm hji)];simp[hji]
  have hsel:=fun cs b=>Region.noSelect_spec (ops:=ops) (by unfold eF at hB;rw[Bool.and_eq_true]at hB;exact hB.1) i o cs b ho;have hac:=sO (a0:=a0) hB vs i;refine Dm (b:=acV ops a0 vs i) (R:=fun v w'=>Inv (fun j=>listed.getD j false||decide (j=i)) (dx vs i v) w') ho hsel (fun t ht=> ?_) (by rw[hf.size,hac.size]) (fun v w' hS'=> ?_) (hstep i o ho (fun j=>listed.getD j false) vs w hun (fun j hj=>hcl.ready hj hi) (fun k hk=>by
   cases hlk:listed.getD k false with
   |false=>rfl
   |true=>
    have:=hcl.waits _ _ _ hk hlk;rw[hun]at this;cases this) hI)
  ·refine hf.agree hac fun j oj hj hd=> ?_;rcases(lu hB ho hj hd).2 ht with⟨h2,h3⟩|⟨h2,h3⟩|h2
   ·rw[hcl.ready h3 hi];simp[h2]
   ·have h4:decide (j<i)=false:=(by simp;omega);rw[h4];cases hlj:listed.getD j false with
    |false=>rfl
    |true=>
     have:=hcl.waits _ _ _ h3 hlj;rw[hun]at this;cases this
   ·subst h2;rw[hun];simp
  ·have hf2:Flo ops a0 (dx vs i v) (fun j=>listed.getD j false) a:=hf.congr fun j hj=>by
    unfold dx;rw[if_neg];rintro rfl;rw[hun]at hj;cases hj
   have hput:=hf2.put hB ho hset;have hvi:dx vs i v i=v:=(by simp[dx]);rw[hvi]at hput;refine ih (listed.setIfInBounds i true) _ w' (dx vs i v) (hcl.aH hi) (by rw[Array.size_setIfInBounds];exact hsz) ?_ hput ?_
   ·have:=pW (f:=fun j=>listed.getD j false) (g:=fun j=>(listed.setIfInBounds i true).getD j false) hun hset ops.size his;omega
   ·have:(fun j=>(listed.setIfInBounds i true).getD j false)=fun j=>listed.getD j false||decide (j=i):=funext hset;rw[this];exact hS'
theorem qJ {id:Nat} {w:World} {l:List Oper} (Inv:(Nat→Bool)→(Nat→Value)→World→Prop) (dp nd:Nat→List Nat) (hm:P.follows .mixedOrders=true) (hB:eF l.toArray=true)
 (hdp:((List.range l.length).all fun i=>(dp i).all fun j=>aZ .any l.toArray l.length i j)=true) (hnd:((List.range l.length).all fun i=>(nd i).all fun k=>aZ .any l.toArray l.length k i)=true)
 (h0:Inv (fun _=>false) (fun _=>undef) w.drew)
 (hstep:∀i o,l[i]?=some o→∀(L:Nat→Bool) (vs:Nat→Value) w,L i=false→(∀j∈dp i,L j=true)→(∀k∈nd i,L k=false)→Inv L vs w→wpList P l.toArray (rD (fun v w'=>Inv (fun j=>L j||decide (j=i)) (dx vs i v) w') (acV l.toArray a vs i) o.dst) [o] (acV l.toArray a vs i) w)
 (hend:∀(L:Nat→Bool) (vs:Nat→Value) w,(∀j,j<l.length→L j=true)→Inv L vs w→Q .normal (acV l.toArray a vs l.length) w):(Code.region id l.toArray true).wp P Q a w:=by
 have hsz:l.toArray.size=l.length:=(by simp);have hget:∀i:Nat,l.toArray[i]?=l[i]?:=fun i=>List.getElem?_toArray ..;refine wp_region_any hm ?_;refine Jo (Inv:=Inv) hB (fun i o ho L vs w h1 h2 h3 hI=> ?_) (fun L vs w h1 h2=>by rw[hsz];exact hend L vs w (by rw[←hsz];exact h1) h2) _ _ a _ (fun _=>undef) (Closed.start _ _ _) (by simp) ?_ (Flo.start fun j=>getD_replicate_false _ _) ?_
 ·have ho':l[i]?=some o:=(by rw[←hget];exact ho);have hil:i<l.length:=(List.getElem?_eq_some_iff.1 ho').1;refine hstep i o ho' L vs w h1 (fun j hj=>h2 j ?_) (fun k hk=>h3 k ?_) hI
  ·rw[hsz];exact List.all_eq_true.1 (List.all_eq_true.1 hdp i (List.mem_range.2 hil)) j hj
  ·rw[hsz];exact List.all_eq_true.1 (List.all_eq_true.1 hnd i (List.mem_range.2 hil)) k hk
 ·have:(fun j=>(Array.replicate l.toArray.size false).getD j false)=fun _=>false:=funext fun j=>getD_replicate_false _ _;rw[this,nD]
 ·have:(fun j=>(Array.replicate l.toArray.size false).getD j false)=fun _=>false:=funext fun j=>getD_replicate_false _ _;rw[this];exact h0
end
end Go.Inq
