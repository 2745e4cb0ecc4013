/-
  Walks: layer 22: whether a choice is one; whether a history and a level may be.
-/
import Derived.Test.YtpjechjoijjhpaaGreatDoorZ11
import Derived.Test.YtpjechjoijjhpaaGreatDoorZ01
import Derived.Test.YtpjechjoijjhpaaGreatDoorZ02
set_option linter.unusedVariables false
set_option linter.unusedSimpArgs false
namespace Go.Proofs.YtpjechjoijjhpaaGreatDoor
open Go.RowKit Go.Inq
set_option maxHeartbeats 8000000
attribute [local go_sem↓] Go.wp_at_zero Go.wp_at_succ
set_option maxRecDepth 100000 in
theorem NW(A:Option Addr)(c:Nat)(H:List Txn)(t key:Int)(bh bc:Nat)(w:World)(h:aC w (Old w) (.slice A H.length c) H)(hn:aA H)(hbh:w.cell? ⟨bh,0,none⟩=some (.slice A H.length c))(hbc:w.cell? ⟨bc,0,none⟩=some (.int .i64 key)):
 Calls Tryz.prog 146 #[.int .i64 t,.pointer (some ⟨bh,0,none⟩),.pointer (some ⟨bc,0,none⟩)] w fun e w'=>e= .returned (.bool (wrB H t key))∧Below w.heap.size w w':=by
 have hlen:=hn.1;have Hy:=hide (fun W (hW:Below w.heap.size w W)=>(hW.cell (p:=⟨bh,0,none⟩) (block_lt_of_cell hbh)).trans hbh);have hbc2:=hide (fun W (hW:Below w.heap.size w W)=>(hW.cell (p:=⟨bc,0,none⟩) (block_lt_of_cell hbc)).trans hbc);clear hbh hbc;by_cases h0:0≤t
 ·have h0b:decide (t≥0)=true:=(by simpa using h0);by_cases h1:t<(H.length:Int)
  ·obtain⟨m,rfl⟩:∃m:Nat,t=m:=⟨t.toNat,by omega⟩;have hm:m<H.length:=(by omega);have hr:=mZ (key:=key) hm;rw[aQ hm]at hr;obtain⟨b,off,Aw,cw,Ar,cr,rfl,hbK,d0,d1,d2,hws,_⟩:=aC.at_ h hm;have hd1:=hide (fun W (hW:Below w.heap.size w W)=>(hW.cell (p:=⟨b,off+m*3+1,none⟩) hbK).trans d1);have hwl:H[m].writes.length≤maxLen:=(by have:=(hn.2 _ (List.getElem_mem hm)).1;unfold maxLen;omega);have hcc:=hide (fun W (hW:Below w.heap.size w W)=>fO Aw cw H[m].writes key (Old W) W (aM.below hws hW) hwl);generalize H[m].writes=L at*;generalize hqe:L.contains key=q at*;rw[hr];have hm1:decide (m<H.length)=true:=(by simpa using hm);have hm2:(0:Int)≤(m:Int):=Int.natCast_nonneg _;replace hn:=hide hn;clear h h0 hws d0 d1 d2 hr hqe;go_enter Tryz.func146,Tryz.ntmps146;go_upto_region 1 with fail;refine bT (fun W=>Below w.heap.size w W) (by kernel_rfl) (by kernel_rfl) (Below.refl _ _).drew ?_;refine⟨.int .i64 (m:Int),fun W hW=>(by go_wp2),?_⟩;refine⟨.bool true,fun W hW=>(by go_wp2),?_⟩;refine⟨.bool true,fun W hW=>(by go_wp2),?_⟩;refine⟨.int .i64 (m:Int),fun W hW=>(by go_wp2),?_⟩;refine⟨.pointer (some ⟨bh,0,none⟩),fun W hW=>(by go_wp2),?_⟩;refine⟨.slice (some ⟨b,off,none⟩) H.length c,fun W hW=>(by have v0:=Hy.out W hW;go_wp2),?_⟩;refine⟨.int .i64 (H.length:Int),fun W hW=>(by go_wp2),?_⟩;refine⟨.bool true,fun W hW=>(by go_wp2),?_⟩;refine⟨.bool true,fun W hW=>(by go_wp2),?_⟩;refine⟨.bool true,fun W hW=>(by go_wp2),?_⟩;refine⟨.pointer (some ⟨bh,0,none⟩),fun W hW=>(by go_wp2),?_⟩;refine⟨.slice (some ⟨b,off,none⟩) H.length c,fun W hW=>(by have v0:=Hy.out W hW;go_wp2),?_⟩;refine⟨.int .i64 (m:Int),fun W hW=>(by go_wp2),?_⟩;refine⟨.pointer (some ⟨b,off+m*3,none⟩),fun W hW=>(by go_wp2),?_⟩;refine⟨.pointer (some ⟨b,off+m*3+1,none⟩),fun W hW=>(by go_wp2),?_⟩;refine⟨.slice Aw L.length cw,fun W hW=>(by have v0:=hd1.out W hW;go_wp2),?_⟩;refine⟨.pointer (some ⟨bc,0,none⟩),fun W hW=>(by go_wp2),?_⟩;refine⟨.int .i64 key,fun W hW=>(by have v0:=hbc2.out W hW;go_wp2),?_⟩;refine⟨.bool q,fun W hW=>(by
    go_wp2_with fail;refine(hcc.out W hW).mono ?_;rintro e w' ⟨rfl,rfl⟩;go_wp2),?_⟩
   refine⟨.bool q,fun W hW=>(by go_wp2),?_⟩;refine⟨.bool q,fun W hW=>(by go_wp2),?_⟩;intro W5 hW5;simp only[Act.put,sA,sZ,sS];go_wp2;go_ret;exact⟨rfl,hW5⟩
  ·have hr:wrB H t key=false:=(by unfold wrB;simp;intro _ e;exact absurd e h1);have h1b:decide (t<(H.length:Int))=false:=(by simpa using h1);rw[hr];replace hn:=hide hn;clear h h0 h1 hr;go_enter Tryz.func146,Tryz.ntmps146;go_upto_region 1 with fail;refine bT (fun W=>Below w.heap.size w W) (by kernel_rfl) (by kernel_rfl) (Below.refl _ _).drew ?_;refine⟨.int .i64 t,fun W hW=>(by go_wp2),?_⟩;refine⟨.bool true,fun W hW=>(by go_wp2),?_⟩;refine⟨.bool true,fun W hW=>(by go_wp2),?_⟩;refine⟨.int .i64 t,fun W hW=>(by go_wp2),?_⟩;refine⟨.pointer (some ⟨bh,0,none⟩),fun W hW=>(by go_wp2),?_⟩;refine⟨.slice A H.length c,fun W hW=>(by have v0:=Hy.out W hW;go_wp2),?_⟩;refine⟨.int .i64 (H.length:Int),fun W hW=>(by go_wp2),?_⟩;refine⟨.bool false,fun W hW=>(by go_wp2),?_⟩;refine⟨.bool false,fun W hW=>(by go_wp2),?_⟩;refine⟨.bool false,fun W hW=>(by go_wp2),?_⟩;refine⟨undef,fun W hW=>(by go_wp2),?_⟩;refine⟨undef,fun W hW=>(by go_wp2),?_⟩;refine⟨undef,fun W hW=>(by go_wp2),?_⟩;refine⟨undef,fun W hW=>(by go_wp2),?_⟩;refine⟨undef,fun W hW=>(by go_wp2),?_⟩;refine⟨undef,fun W hW=>(by go_wp2),?_⟩;refine⟨undef,fun W hW=>(by go_wp2),?_⟩;refine⟨undef,fun W hW=>(by go_wp2),?_⟩;refine⟨undef,fun W hW=>(by go_wp2),?_⟩;refine⟨.bool false,fun W hW=>(by go_wp2),?_⟩;refine⟨.bool false,fun W hW=>(by go_wp2),?_⟩;intro W5 hW5;simp only[Act.put,sA,sZ,sS];go_wp2;go_ret;exact⟨rfl,hW5⟩
 ·have hr:wrB H t key=false:=(by unfold wrB;simp;intro e;exact absurd e h0);have h0b:decide (t≥0)=false:=(by simpa using h0);rw[hr];replace hn:=hide hn;clear h h0 hr;go_enter Tryz.func146,Tryz.ntmps146;go_upto_region 1 with fail;refine bT (fun W=>Below w.heap.size w W) (by kernel_rfl) (by kernel_rfl) (Below.refl _ _).drew ?_;refine⟨.int .i64 t,fun W hW=>(by go_wp2),?_⟩;refine⟨.bool false,fun W hW=>(by go_wp2),?_⟩;refine⟨.bool false,fun W hW=>(by go_wp2),?_⟩;refine⟨undef,fun W hW=>(by go_wp2),?_⟩;refine⟨undef,fun W hW=>(by go_wp2),?_⟩;refine⟨undef,fun W hW=>(by go_wp2),?_⟩;refine⟨undef,fun W hW=>(by go_wp2),?_⟩;refine⟨undef,fun W hW=>(by go_wp2),?_⟩;refine⟨.bool false,fun W hW=>(by go_wp2),?_⟩;refine⟨.bool false,fun W hW=>(by go_wp2),?_⟩;refine⟨undef,fun W hW=>(by go_wp2),?_⟩;refine⟨undef,fun W hW=>(by go_wp2),?_⟩;refine⟨undef,fun W hW=>(by go_wp2),?_⟩;refine⟨undef,fun W hW=>(by go_wp2),?_⟩;refine⟨undef,fun W hW=>(by go_wp2),?_⟩;refine⟨undef,fun W hW=>(by go_wp2),?_⟩;refine⟨undef,fun W hW=>(by go_wp2),?_⟩;refine⟨undef,fun W hW=>(by go_wp2),?_⟩;refine⟨undef,fun W hW=>(by go_wp2),?_⟩;refine⟨.bool false,fun W hW=>(by go_wp2),?_⟩;refine⟨.bool false,fun W hW=>(by go_wp2),?_⟩;intro W5 hW5;simp only[Act.put,sA,sZ,sS];go_wp2;go_ret;exact⟨rfl,hW5⟩
set_option maxRecDepth 100000 in
theorem Cq(A:Option Addr)(c:Nat)(H:List Txn)(level:Int)(w:World)(h:aC w (Old w) (.slice A H.length c) H)(hn:aA H):
 Calls Tryz.prog 75 #[.agg #[.slice A H.length c],.int .i64 level] w fun e w'=>e= .returned (.bool (aG H&&(decide (level=0)||decide (level=1))))∧Below w.heap.size w w':=by
 obtain⟨W0,hW0⟩:∃W0,w.alloc (.cells #[.slice A H.length c] 24)=W0:=⟨_,rfl⟩;have hB:=ah (Below.refl w.heap.size w) hW0 (Nat.le_refl _);have k0:=Blk.newEq hW0;have hrc:=hide (gL A c H W0 (h.below hB) hn);have c0:=Blk.n0 k0;generalize aG H=q at*;clear h;have hz:decide (level=0)=(level==0):=(by rw[Bool.eq_iff_iff];simp);have ho:decide (level=1)=(level==1):=(by rw[Bool.eq_iff_iff];simp);rw[hz,ho];obtain⟨z,hz2⟩:∃z,(level==0)=z:=⟨_,rfl⟩;obtain⟨o,ho2⟩:∃o,(level==1)=o:=⟨_,rfl⟩;rw[hz2,ho2];clear hz ho;go_enter Tryz.func75,Tryz.ntmps75;go_wp2_with fail;clear hW0 c0;refine hrc.out.mono ?_;rintro e w1 ⟨rfl,hb1⟩;cases q<;>cases z<;>cases o;all_goals
  go_wp2;go_ret;exact⟨rfl,hB.trans (hb1.mono hB.size)⟩
set_option maxRecDepth 100000 in
theorem Dv(A:Option Addr)(c:Nat)(H:List Txn)(key a b:Int)(w:World)(h:aC w (Old w) (.slice A H.length c) H)(hn:aA H):
 Calls Tryz.prog 114 #[.agg #[.slice A H.length c],.agg #[.int .i64 key,.int .i64 a,.int .i64 b]] w fun e w'=>e= .returned (.bool (dh H ⟨key,a,b⟩))∧Below w.heap.size w w':=by
 obtain⟨W0,hW0⟩:∃W0,(w.alloc (.cells #[.slice A H.length c] 24)).alloc (.cells #[.int .i64 key,.int .i64 a,.int .i64 b] 62)=W0:=⟨_,rfl⟩;have hB:=aF hW0;have k0:=Blk.fG hW0;have k1:=Blk.eP hW0;have hT:=hide (h.below hB);have hcl:=hide (fun(t:Int) W (hW:Below W0.heap.size W0 W)=>NW A c H t key w.heap.size (w.heap.size+1) W (hT.out.below hW) hn (by have:=(k0.below hW k0.lt).cell 0;simpa using this) (by have:=(k1.below hW k1.lt).cell 0;simpa using this));have c0:=Blk.n0 k1;have c1:=Blk.n1 k1;have c2:=Blk.n2 k1;have hone:Hid (dh H ⟨key,a,b⟩=(decide (a≠b)&&wrB H a key&&wrB H b key)):=hide rfl;obtain⟨r,hr⟩:∃r,dh H ⟨key,a,b⟩=r:=⟨_,rfl⟩;rw[hr]at hone;rw[hr];clear h hr;by_cases hab:a=b
 ·have g1:(a !=b)=false:=(by simp[hab]);have hre:r=false:=(by rw[hone.out];simp[hab]);subst hre;clear hab hone hcl;go_enter Tryz.func114,Tryz.ntmps114;go_wp2;go_ret;exact⟨rfl,hB⟩
 ·have g1:(a !=b)=true:=(by simpa using hab);have uo:=hide (show r=(wrB H a key&&wrB H b key) by rw[hone.out];simp[hab]);have h1:=hide (hcl.out a W0 (Below.refl _ _));have h2:=hide (fun W hW=>hcl.out b W hW);generalize wrB H a key=q1 at*;generalize wrB H b key=q2 at*;clear hab hone hcl;go_enter Tryz.func114,Tryz.ntmps114;go_wp2_with fail;refine h1.out.mono ?_;rintro e w1 ⟨rfl,hb1⟩;have d2:=(hb1.cell (p:=⟨w.heap.size+1,2,none⟩) k1.lt).trans c2;have hb2:=hB.trans (hb1.mono hB.size);have h3:=hide (h2.out w1 hb1);clear hW0 h1 h2 c0 c1 c2;cases q1 with
  |false=>
   have hre:r=false:=(by rw[uo.out];rfl);subst hre;clear h3 uo;go_wp2;go_ret;exact⟨rfl,hb2⟩
  |true=>
   have hre:r=q2:=(by rw[uo.out];rfl);subst hre;clear uo;go_wp2_with fail;refine h3.out.mono ?_;rintro e w2 ⟨rfl,hb3⟩;go_wp2;go_ret;exact⟨rfl,hb2.trans (hb3.mono hb2.size)⟩
theorem rz(w:World):
 Calls Tryz.prog 115 #[] w fun e w'=>e= .returned (.slice (some ⟨w.heap.size,0,none⟩) 4 4)∧Blk w' w.heap.size 175 #[.int .i64 1,.func (.func 147) #[] #[],.int .i64 2,.func (.func 148) #[] #[],.int .i64 3,.func (.func 149) #[] #[],.int .i64 4,.func (.func 150) #[] #[]]∧Below w.heap.size w w':=by
 go_enter Tryz.func115,Tryz.ntmps115;go_wp2;go_ret;exact⟨rfl,Blk.new _ _ _,(Below.refl _ _).alloc (Nat.le_refl _) _⟩
set_option maxRecDepth 100000 in
theorem NY(A:Option Addr)(c:Nat)(H:List Txn)(level:Int)(vl:Value)(f:Fct)(vc:Value)(w:World)(h:aC w (Old w) (.slice A H.length c) H)(hn:aA H):
 Calls Tryz.prog 147 #[.agg #[.slice A H.length c,.int .i64 level,vl,.int .i64 f.c.key,.int .i64 f.c.a,.int .i64 f.c.b,.int .i64 f.kind,.int .i64 f.i,.int .i64 f.j,vc]] w fun e w'=>e= .returned (.bool (axB H f))∧Below w.heap.size w w':=by
 obtain⟨⟨key,a,b⟩,kind,i,j,cyc⟩:=f;dsimp only;obtain⟨W0,hW0⟩:∃W0,w.alloc (.cells #[.slice A H.length c,.int .i64 level,vl,.int .i64 key,.int .i64 a,.int .i64 b,.int .i64 kind,.int .i64 i,.int .i64 j,vc] 177)=W0:=⟨_,rfl⟩;have hB:=ah (Below.refl w.heap.size w) hW0 (Nat.le_refl _);have k0:=Blk.newEq hW0;have hdi:=hide (nS A c H none 0 [] a b W0 (h.below hB) hn (aV.nil _ _ _ _) (by simp));have hre:Hid (axB H ⟨⟨key,a,b⟩,kind,i,j,cyc⟩=(decide (i=0)&&decide (j=0)&&aL H [] a b)):=hide rfl;obtain⟨r,hr⟩:∃r,axB H ⟨⟨key,a,b⟩,kind,i,j,cyc⟩=r:=⟨_,rfl⟩;rw[hr]at hre;rw[hr];generalize aL H [] a b=q at*;have c0:=Blk.n0 k0;have c4:=Blk.n4 k0;have c5:=Blk.n5 k0;have c7:=Blk.n7 k0;have c8:=Blk.n8 k0;clear h hr;by_cases h1:i=0
 ·by_cases h2:j=0
  ·have hrq:r=q:=(by rw[hre.out];simp[h1,h2]);have g1:(i==0)=true:=(by simp[h1]);have g2:(j==0)=true:=(by simp[h2]);subst hrq;clear h1 h2 hre;go_enter Tryz.func147,Tryz.ntmps147;go_wp2_with fail;refine hdi.out.mono ?_;rintro e w1 ⟨rfl,hb1⟩;go_wp2;go_ret;exact⟨rfl,hB.trans (hb1.mono hB.size)⟩
  ·have hrq:r=false:=(by rw[hre.out];simp[h2]);have g1:(i==0)=true:=(by simp[h1]);have g2:(j==0)=false:=(by simpa using h2);subst hrq;clear h1 h2 hre hdi;go_enter Tryz.func147,Tryz.ntmps147;go_wp2;go_ret;exact⟨rfl,hB⟩
 ·have hrq:r=false:=(by rw[hre.out];simp[h1]);have g1:(i==0)=false:=(by simpa using h1);subst hrq;clear h1 hre hdi;go_enter Tryz.func147,Tryz.ntmps147;go_wp2;go_ret;exact⟨rfl,hB⟩
end Go.Proofs.YtpjechjoijjhpaaGreatDoor
namespace Go.Inq
open Go
section
variable{P:Program}{ops:Array Oper}{Q:Exit→Act→World→Prop}{md:Region.Mode}
def aO(i:Nat)(tss:List (List Nat)):List (List Nat):=
 tss.filterMap fun r=>match r with
  |t::r'=>if t=i then some r' else none
  |[]=>none
def zm(P:Program)(ops:Array Oper)(Q:Exit→Act→World→Prop):Nat→List (List Nat)→Act→World→Prop
 |0,_,a,w=>Q .normal a w
 |n+1,tss,a,w=>∀i∈tss.filterMap List.head?,wpOp P ops Q i (zm P ops Q n (aO i tss)) a w
def vP(md:Region.Mode)(ops:Array Oper)(us:List Nat):Nat→List (List Nat)→Array Bool→Bool
 |0,_,listed=>(Region.ready md ops listed).isEmpty
 |n+1,tss,listed=>
  (match tss.filterMap List.head? with
   |t::r=>r.all (·==t)&&us.contains t&&(Region.ready md ops listed).contains t&&Region.free md ops listed t&&(match ops[t]? with|some o=>nE o.op|none=>false)&&
    vP md ops us n (aO t tss) (listed.setIfInBounds t true)
   |[]=>false)||
  (!(Region.ready md ops listed).isEmpty&&(Region.ready md ops listed).all fun i=>(tss.filterMap List.head?).contains i&&us.contains i&&vP md ops us n (aO i tss) (listed.setIfInBounds i true))
def jV:Op→Bool
 | .move _| .assign _| .pick .. | .build .. | .indexAddr .. | .extract .. | .makeFunc .. | .nilCheck _| .load .. =>true
 |_=>false
theorem Dw{ρ:Operand→Value}{o:Oper}(h:jV o.op=true){w w':World}{n:Next}(hr:(execOp ρ o).run P w= .ok n w'):w'=w∧∃v,n= .value v:=by
 by_cases hl:l8 o.op=true
 ·cases ho:o.op<;>rw[ho]at hl<;>simp[l8]at hl;case load t x=>
   have e:execOp ρ o=(do Pure.pure (.value (←Instr.loadAt t (ρ x)))):=(by unfold execOp;rw[ho]);have hv:=jS (P:=P) (ρ:=ρ) (o:=o) (by rw[ho];rfl) hr;rw[e]at hr;exact⟨(Stb.bind (Stb.loadAt _ _) (fun _=>(Clear.pure _).stb) P _ _ _ hr).1,hv⟩
 ·have hw:worldless P o.op=true:=(by cases ho:o.op<;>rw[ho]at h hl<;>simp[jV,l8]at h hl<;>rfl);have hv:=jS (P:=P) (ρ:=ρ) (o:=o) (by cases ho:o.op<;>rw[ho]at h hl<;>simp[jV,l8]at h hl<;>rfl) hr;refine⟨?_,hv⟩;have:=(kJ hw hr w).symm.trans hr;injection this with _ e
  exact e.symm
theorem Hz{t:Nat}{o:Oper}{a:Act}{w:World}{K:Act→World→Prop}(ho:ops[t]?=some o)(hc:jV o.op=true)(h:wpOp P ops Q t K a w):wpOp P ops Q t (fun a' w'=>w'=w∧K a' w') a w:=by
 unfold wpOp at*;rw[ho]at h⊢;dsimp only at*;by_cases hw:Region.wanted o (yielded ops a.tmps)=true
 ·rw[if_pos hw]at h⊢;refine h.imp (fun h=> ?_) id;unfold Oper.wp at*;generalize hr:(execOp a.eval o).run P w=r at*;cases r with
  |halt x w'=>cases x<;>simp only[Oper.upon]at h⊢<;>exact h
  |ok n w'=>
   obtain⟨he,v,rfl⟩:=Dw hc hr;exact⟨he,h⟩
 ·rw[if_neg hw]at h⊢;exact⟨rfl,h⟩
def iC(ops:Array Oper)(us:List Nat)(j:Nat):Nat:=
 if us.contains j then(match ops[j]? with|some o=>if iw o.op then 1 else if jV o.op then 0 else 2|none=>0)else 0
theorem KZ{us:List Nat}{t:Nat}(hf:us.contains t=true){K:Act→World→Prop}{a:Act}{w:World}(h:wpOp P ops Q t K a w):
 wpOp P ops Q t (fun a' w'=>((iC ops us t=0→w'=w)∧(iC ops us t=1→Ext w w'))∧K a' w') a w:=by
 cases ho:ops[t]? with
 |none=>unfold wpOp at*;rw[ho]at h⊢;exact⟨⟨fun _=>rfl,fun _=>Ext.refl _⟩,h⟩
 |some o=>
  have e:iC ops us t=if iw o.op then 1 else if jV o.op then 0 else 2:=(by unfold iC;rw[if_pos hf,ho]);rw[e];by_cases hal:iw o.op=true
  ·rw[if_pos hal];exact wpOp_mono (fun a' w' h=>⟨⟨fun h0=>absurd h0 (by simp),fun _=>h.1⟩,h.2⟩) (yR ho hal h)
  ·rw[if_neg hal];by_cases hst:jV o.op=true
   ·rw[if_pos hst];exact wpOp_mono (fun a' w' h=>⟨⟨fun _=>h.1,fun h1=>absurd h1 (by simp)⟩,h.2⟩) (Hz ho hst h)
   ·rw[if_neg hst];exact wpOp_mono (fun a' w' h=>⟨⟨fun h0=>absurd h0 (by simp),fun h1=>absurd h1 (by simp)⟩,h⟩) h
theorem sG{us:List Nat}(hQ:∀c a (d:Option Tmp) v w,Q (.panic c) (a.put d v) w→Q (.panic c) a w)(hs:Region.noSelect ops=true):∀(n:Nat) (tss:List (List Nat)) (listed:Array Bool) (a:Act) (w:World),Closed md ops listed→vP md ops us n tss listed=true→
 zm P ops Q n tss a w→pV P md ops Q (iC ops us) n listed a w
 |0,_,_,_,_,_,hB,h=>⟨by simpa[vP]using hB,h⟩
 |n+1,tss,listed,a,w,hcl,hB,h=>by
  unfold vP at hB;rw[Bool.or_eq_true]at hB;unfold zm at h;rcases hB with hB|hB
  ·split at hB
   ·rename_i t r RX;simp only[Bool.and_eq_true]at hB;obtain⟨⟨⟨⟨⟨_,hu⟩,hr⟩,hfr⟩,hc⟩,hB⟩:=hB;have hr':t∈Region.ready md ops listed:=(by simpa using hr);have h1:=h t (by rw[RX];simp);cases ho:ops[t]? with
    |none=>rw[ho]at hc;cases hc
    |some o=>
     rw[ho]at hc;obtain⟨v,hy,hK⟩:=pW ho hc h1;exact eB (S:=fun _=>True) ho (Region.noSelect_spec hs) (fun c a w=>hQ c a _ _ w) (fun _ _ _ _ _ _ _ _ _=>trivial) _ listed a w hcl (Region.free_spec ho hfr) hr' hy trivial
      (sG hQ hs n _ _ _ w (hcl.aH hr') hB hK)
   ·cases hB
  ·simp only[Bool.and_eq_true,List.all_eq_true]at hB;refine⟨fun h0=>(by rw[h0]at hB;simp at hB),fun i hi=> ?_⟩;obtain⟨⟨hh,hu⟩,hB2⟩:=hB.2 i hi;have h1:=h i (by simpa using hh);exact wpOp_mono (fun a' w' h'=>⟨h'.1,sG hQ hs n _ _ a' w' (hcl.aH hi) hB2 h'.2⟩) (KZ hu h1)
def yD(P:Program)(md:Region.Mode)(ops:Array Oper)(us:List Nat)(tss:List (List Nat)):List Nat→Array Bool→Bool
 |[],listed=>vP md ops us us.length tss listed
 |i::es,listed=>(Region.ready md ops listed).contains i&&Region.free md ops listed i&& !us.contains i&&
  (match ops[i]? with
   |some o=>nC o.op&&(worldless P o.op||(us.all fun j=>bF md ops ops.size j i||((match ops[j]? with|some oj=>jV oj.op&& !iw oj.op|none=>false)||(l8 o.op&&(match ops[j]? with|some oj=>iw oj.op|none=>false)))))
   |none=>false)&&
  yD P md ops us tss es (listed.setIfInBounds i true)
theorem wZ{us:List Nat}{j:Nat}(hfj:us.contains j=true)(h:(match ops[j]? with|some oj=>jV oj.op&& !iw oj.op|none=>false)=true):iC ops us j=0:=by
 unfold iC;rw[if_pos hfj];cases hoj:ops[j]? with
 |none=>rfl
 |some oj=>
  rw[hoj]at h;simp only[Bool.and_eq_true,Bool.not_eq_true']at h;simp[h.1,h.2]
theorem rA{w:World}(hQ:∀c a (d:Option Tmp) v w,Q (.panic c) (a.put d v) w→Q (.panic c) a w)(hs:Region.noSelect ops=true)(us:List Nat)(tss:List (List Nat)):∀(es:List Nat) (listed:Array Bool) (a:Act),Closed md ops listed→
 yD P md ops us tss es listed=true→wpStill P ops w (fun a'=>zm P ops Q us.length tss a' w) (es.filterMap (ops[·]?)) a→pV P md ops Q (iC ops us) (es.length+us.length) listed a w
 |[],listed,a,hcl,hB,h=>by
  simp only[List.length_nil,Nat.zero_add];exact sG hQ hs us.length tss listed a w hcl hB h
 |i::es,listed,a,hcl,hB,h=>by
  simp only[yD,Bool.and_eq_true]at hB;obtain⟨⟨⟨⟨hr,hf⟩,hnt⟩,hk⟩,hrest⟩:=hB;have hr':i∈Region.ready md ops listed:=(by simpa using hr);cases ho:ops[i]? with
  |none=>rw[ho]at hk;cases hk
  |some o=>
   rw[ho]at hk;simp only[Bool.and_eq_true,Bool.or_eq_true]at hk;rw[List.filterMap_cons_some ho]at h;obtain⟨v,hy,hy0,hyl,hK⟩:=lS (K:=wpStill P ops w (fun a'=>zm P ops Q us.length tss a' w) (es.filterMap (ops[·]?))) hk.1 h;have IH:=rA hQ hs us tss es (listed.setIfInBounds i true) _ (hcl.aH hr') hrest hK;rw[List.length_cons,show es.length+1+us.length=(es.length+us.length)+1 by omega];rcases hk.2 with hl|hl
   ·exact eB (S:=fun _=>True) ho (Region.noSelect_spec hs) (fun c a w=>hQ c a _ _ w) (fun _ _ _ _ _ _ _ _ _=>trivial) _ listed a w hcl (Region.free_spec ho hf) hr' (hy0 hl) trivial IH
   ·by_cases hld:l8 o.op=true
    ·refine eB (S:=fun u=>Ext w u) ho (Region.noSelect_spec hs) (fun c a w=>hQ c a _ _ w) (fun listed' j hcl' hj hun u u' hu hc=> ?_) _ listed a w hcl (Region.free_spec ho hf) hr' (hyl hld) (Ext.refl _) IH;cases hfj:us.contains j with
     |false=>
      have:iC ops us j=0:=(by unfold iC;rw[if_neg (by rw[hfj];simp)]);rw[hc.1 this];exact hu
     |true=>
      have hwj:=List.all_eq_true.1 hl j (by simpa using hfj);simp only[Bool.or_eq_true,Bool.and_eq_true]at hwj;rcases hwj with hwj|hwj|⟨_,hwj⟩
      ·rw[hcl'.ready hwj hj]at hun;cases hun
      ·rw[hc.1 (wZ hfj hwj)];exact hu
      ·cases hoj:ops[j]? with
       |none=>rw[hoj]at hwj;cases hwj
       |some oj=>
        rw[hoj]at hwj;have:iC ops us j=1:=(by unfold iC;rw[if_pos hfj,hoj];simp[hwj]);exact hu.trans (hc.2 this)
    ·refine eB (S:=fun u=>u=w) ho (Region.noSelect_spec hs) (fun c a w=>hQ c a _ _ w) (fun listed' j hcl' hj hun u u' hu hc=> ?_) _ listed a w hcl (Region.free_spec ho hf) hr' hy rfl IH;cases hfj:us.contains j with
     |false=>
      have:iC ops us j=0:=(by unfold iC;rw[if_neg (by rw[hfj];simp)]);rw[hc.1 this];exact hu
     |true=>
      have hwj:=List.all_eq_true.1 hl j (by simpa using hfj);simp only[Bool.or_eq_true,Bool.and_eq_true]at hwj;rcases hwj with hwj|hwj|⟨h2,_⟩
      ·rw[hcl'.ready hwj hj]at hun;cases hun
      ·rw[hc.1 (wZ hfj hwj)];exact hu
      ·exact absurd h2 hld
def NZ(P:Program)(ops:Array Oper)(es us:List Nat)(tss:List (List Nat)):Bool:=
 Region.noSelect ops&&(es.length+us.length==ops.size)&&yD P .any ops us tss es (Array.replicate ops.size false)
theorem kU {id:Nat} {a:Act} {w:World} {l:List Oper} (es us:List Nat) (tss:List (List Nat)) (hm:P.follows .mixedOrders=true) (hB:NZ P l.toArray es us tss=true)
 (hQ:∀c a (d:Option Tmp) v w,Q (.panic c) (a.put d v) w→Q (.panic c) a w)
 (h:wpStill P l.toArray w.drew (fun a'=>zm P l.toArray Q us.length tss a' w.drew) (es.filterMap (l[·]?)) a):(Code.region id l.toArray true).wp P Q a w:=by
 simp only[NZ,Bool.and_eq_true,beq_iff_eq]at hB;obtain⟨⟨hs,hn⟩,hE⟩:=hB;refine wp_region_any hm (rZ (cls:=iC l.toArray us) _ _ _ _ ?_);rw[←hn];refine rA (w:=w.drew) hQ hs us tss es _ a (Closed.start _ _ _) (by rw[hn];exact hE) ?_;have e1:(fun(i:Nat)=>l.toArray[i]?)=fun(i:Nat)=>l[i]?:=(by funext i;simp);rw[e1];exact h
theorem aI{i:Nat}{o:Oper}{K:Act→World→Prop}{a:Act}{w:World}(ho:ops[i]?=some o)(h:wpList P ops (Exit.then K Q) [o] a w):wpOp P ops Q i K a w:=by
 unfold wpOp;rw[ho];unfold wpList at h;dsimp only;split at h
 ·rename_i hw;rw[if_pos hw];refine h.imp (fun h=> ?_) id;unfold Oper.wp at h⊢;generalize(execOp a.eval o).run P w=r at h⊢;cases r with
  |halt x w'=>cases x<;>exact h
  |ok n w'=>cases n<;>exact h
 ·rename_i hw;rw[if_neg hw];exact h
theorem dB:∀(ts:List Nat) (n:Nat) (a:Act) (w:World),ts.length=n→wpList P ops Q (ts.filterMap (ops[·]?)) a w→zm P ops Q n [ts] a w
 |[],n,a,w,hn,h=>by
  subst hn;exact h
 |t::ts,n,a,w,hn,h=>by
  subst hn;intro i hi;have:i=t:=(by simpa using hi);subst this;have e:aO i [i::ts]=[ts]:=(by simp[aO]);rw[e];cases ho:ops[i]? with
  |none=>
   unfold wpOp;rw[ho];rw[List.filterMap_cons_none ho]at h;exact dB ts _ a w rfl h
  |some o=>
   rw[List.filterMap_cons_some ho]at h;unfold wpOp;rw[ho];unfold wpList at h;dsimp only;split at h
   ·rename_i hw;rw[if_pos hw];exact h.imp (Oper.wp_mono fun a w=>dB ts _ a w rfl) id
   ·rename_i hw;rw[if_neg hw];exact dB ts _ _ _ rfl h
end
end Go.Inq
namespace Go.Proofs.YtpjechjoijjhpaaGreatDoor
open Go.RowKit Go.Inq
set_option maxHeartbeats 8000000
attribute [local go_sem↓] Go.wp_at_zero Go.wp_at_succ
set_option maxRecDepth 100000 in
theorem HV(A:Option Addr)(c:Nat)(H:List Txn)(level:Int)(vl:Value)(f:Fct)(vc:Value)(w:World)(h:aC w (Old w) (.slice A H.length c) H)(hn:aA H):
 Calls Tryz.prog 149 #[.agg #[.slice A H.length c,.int .i64 level,vl,.int .i64 f.c.key,.int .i64 f.c.a,.int .i64 f.c.b,.int .i64 f.kind,.int .i64 f.i,.int .i64 f.j,vc]] w fun e w'=>e= .returned (.bool (ou H f))∧Below w.heap.size w w':=by
 obtain⟨⟨key,a,b⟩,kind,i,j,cyc⟩:=f;dsimp only;obtain⟨W0,hW0⟩:∃W0,w.alloc (.cells #[.slice A H.length c,.int .i64 level,vl,.int .i64 key,.int .i64 a,.int .i64 b,.int .i64 kind,.int .i64 i,.int .i64 j,vc] 177)=W0:=⟨_,rfl⟩;have hB:=ah (Below.refl w.heap.size w) hW0 (Nat.le_refl _);have k0:=Blk.newEq hW0;have hT:=h.below hB;have hdi:=hide (fun W (hb:Below w.heap.size w W)=>nS A c H none 0 [] a i W (h.below hb) hn (aV.nil _ _ _ _) (by simp));have hre:Hid (ou H ⟨⟨key,a,b⟩,kind,i,j,cyc⟩=(decide (j=0)&&decide (i≠a)&&decide (0≤i)&&decide (i<(H.length:Int))&&((aP H i.toNat).reads.any fun x=>decide (x.a=key)&&decide (x.b=b))&&aL H [] a i)):=hide rfl;obtain⟨r,hr⟩:∃r,ou H ⟨⟨key,a,b⟩,kind,i,j,cyc⟩=r:=⟨_,rfl⟩;rw[hr]at hre;rw[hr];generalize aL H [] a i=q at*;have c0:=Blk.n0 k0;have c3:=Blk.n3 k0;have c4:=Blk.n4 k0;have c5:=Blk.n5 k0;have c7:=Blk.n7 k0;have c8:=Blk.n8 k0;have hct:Hid True:=hide trivial;clear hr;by_cases h1:j=0
 ·have g1:(j !=0)=false:=(by simp[h1]);by_cases h2:i=a
  ·have hrq:r=false:=(by rw[hre.out];simp[h2]);have g2:(i==a)=true:=(by simp[h2]);subst hrq;clear h1 h2 hre h hT;clear hdi hct;go_enter Tryz.func149,Tryz.ntmps149;go_wp2;go_ret;exact⟨rfl,hB⟩
  ·have g2:(i==a)=false:=(by simpa using h2);by_cases h3:i<0
   ·have hrq:r=false:=(by rw[hre.out,decide_eq_false (show¬0≤i by omega)];simp);have g3:decide (i<0)=true:=(by simpa using h3);subst hrq;clear h1 h2 h3 hre h hT;clear hdi hct;go_enter Tryz.func149,Tryz.ntmps149;go_wp2;go_ret;exact⟨rfl,hB⟩
   ·have g3:decide (i<0)=false:=(by simpa using h3);by_cases h4:(H.length:Int)≤i
    ·have hrq:r=false:=(by rw[hre.out,decide_eq_false (show¬i<(H.length:Int) by omega)];simp);have g4:decide (i≥(H.length:Int))=true:=(by simpa using h4);have g5:decide ((H.length:Int)≤i)=true:=(by simpa using h4);subst hrq;clear h1 h2 h3 h4 hre h hT;clear hdi hct;go_enter Tryz.func149,Tryz.ntmps149;go_wp2;go_ret;exact⟨rfl,hB⟩
    ·obtain⟨m,rfl⟩:∃m:Nat,i=(m:Int):=⟨i.toNat,by omega⟩;have hm:m<H.length:=(by omega);have hm0:(0:Int)≤(m:Int):=Int.natCast_nonneg _;have hm1:(m:Int)<(H.length:Int):=(by omega);have g4:decide ((m:Int)≥(H.length:Int))=false:=(by simp;omega);have g5:decide ((H.length:Int)≤(m:Int))=false:=(by simp;omega);have g6:decide (H.length≤m)=false:=(by simp;omega);obtain⟨bt,ot,Aw,cw,Ar,cr,rfl,_,d0,d1,d2,-,hrs⟩:=aC.at_ hT hm;have hrl:H[m].reads.length≤1000000:=(hn.2 _ (List.getElem_mem hm)).2;have hct:=hide (ru Ar cr H[m].reads key b W0.drew (ItS.keep hrs (Agree.drew _ _) (fun b h=>h)) (by omega));have zn:=hide (show r=((H[m].reads.any fun x=>decide (x.a=key)&&decide (x.b=b))&&q) by
      rw[hre.out,Int.toNat_natCast,aQ hm,decide_eq_true h1,decide_eq_true h2,decide_eq_true hm0,decide_eq_true hm1];simp)
     generalize(H[m].reads.any fun x=>decide (x.a=key)&&decide (x.b=b))=q1 at*;generalize H[m].reads=R at*;clear h1 h2 h3 h4 hre hT hrs h;go_enter Tryz.func149,Tryz.ntmps149;go_upto_region 3 with fail;refine bn [0,1,2,3,4,5,6,7,8,9,10,11,12,13,14,15,16,17] [18,19] (by kernel_rfl) (by kernel_rfl) (fun _ _ d _ _ h=>by cases d<;>exact h) ?_;simp only[List.filterMap_cons,List.filterMap_nil,gZ,gS];repeat still_step
     refine wpStill_nil ?_;go_wp2_with fail;refine hct.out.mono ?_;rintro e w1 ⟨rfl,hb1⟩;have hb2:=(aZ hB).trans (hb1.mono hB.size);have k1:=k0.drew.below hb1 k0.lt;have e0:=Blk.n0 k1;have e4:=Blk.n4 k1;have e7:=Blk.n7 k1;have hd2:=hide (hdi.out w1 hb2);clear hW0 hct hdi c0 c3 c4 c5 c7 c8 d0 d1 d2;cases q1 with
     |false=>
      have hrq:r=false:=(by rw[zn.out];rfl);subst hrq;clear hd2 zn;go_wp2;go_ret;exact⟨rfl,hb2⟩
     |true=>
      have hrq:r=q:=(by rw[zn.out];rfl);subst hrq;clear zn;go_wp2_with fail;refine hd2.out.mono ?_;rintro e w2 ⟨rfl,hb3⟩;go_wp2;go_ret;exact⟨rfl,hb2.trans (hb3.mono hb2.size)⟩
 ·have g1:(j !=0)=true:=(by simpa using h1);have hrq:r=false:=(by rw[hre.out];simp[h1]);subst hrq;clear h1 hre h hT;clear hdi hct;go_enter Tryz.func149,Tryz.ntmps149;go_wp2;go_ret;exact⟨rfl,hB⟩
end Go.Proofs.YtpjechjoijjhpaaGreatDoor
