/-
  Walks: layer 19: a read of what is written over; whether there is an edge of some kind.
-/
import Derived.Test.YtfhnamomiaekdaaGreatDoorV09
set_option linter.unusedVariables false
set_option linter.unusedSimpArgs false
namespace Go.Proofs.YtfhnamomiaekdaaGreatDoor
open Go.RowKit Go.Inq
set_option maxHeartbeats 8000000
attribute [local go_sem↓] Go.wp_at_zero Go.wp_at_succ
set_option maxRecDepth 100000 in
theorem KE (A:Option Addr) (c:Nat) (H:List Txn) (Al:Option Addr) (cl:Nat) (l:List Cho) (r:It) (y:Nat) (bh by' bl:Nat) (w:World) (h:aD w (Old w) (.slice A H.length c) H) (hn:aH H) (hl:bC w (Old w) (.slice Al l.length cl) l) (hln:l.length≤1000000000) (hy:y<H.length)
 (hbh:w.cell? ⟨bh,0,none⟩=some (.slice A H.length c)) (hby:w.cell? ⟨by',0,none⟩=some (.int .i64 (y:Int))) (hbl:w.cell? ⟨bl,0,none⟩=some (.slice Al l.length cl)):
 Calls Tryz.prog 303 #[.agg #[.int .i64 r.a,.int .i64 r.b],.pointer (some ⟨bh,0,none⟩),.pointer (some ⟨by',0,none⟩),.pointer (some ⟨bl,0,none⟩)] w fun e w'=>e= .returned (.bool (qW H l y r))∧Below w.heap.size w w':=by
 obtain⟨ra,rb⟩:=r;dsimp only;obtain⟨W0,hW0⟩:∃W0,w.alloc (.cells #[.int .i64 ra,.int .i64 rb] 106)=W0:=⟨_,rfl⟩;have hB:=ah (Below.refl w.heap.size w) hW0 (Nat.le_refl _);have k0:=Blk.newEq hW0;have e0:=(hB.cell (p:=⟨bh,0,none⟩) (block_lt_of_cell hbh)).trans hbh;have e1:=(hB.cell (p:=⟨by',0,none⟩) (block_lt_of_cell hby)).trans hby;have e2:=(hB.cell (p:=⟨bl,0,none⟩) (block_lt_of_cell hbl)).trans hbl;have hT:=h.below hB;have hL:=hide (hl.below hB);have c0:=Blk.n0 k0;have c1:=Blk.n1 k0;have hp:Hid (qW H l y ⟨ra,rb⟩=((aI H y).writes.contains ra&&(decide (rb<0)||(decide (rb≠(y:Int))&&l.any fun c=>decide (c=⟨ra,rb,y⟩))))):=hide rfl;obtain⟨q,hq⟩:∃q,qW H l y ⟨ra,rb⟩=q:=⟨_,rfl⟩;rw[hq]at hp;rw[hq];have hw1:=hide (nL A c H y ra W0 hT hn hy);have hco:=hide (fun W (hb:Below W0.heap.size W0 W)=>ze Al cl l ra rb (y:Int) W (hL.out.below hb) hln);generalize(aI H y).writes.contains ra=q1 at*;generalize(l.any fun c=>decide (c=⟨ra,rb,(y:Int)⟩))=q2 at*;clear h hl hbh hby hbl hq hT;go_enter Tryz.func303,Tryz.ntmps303;go_wp2_with fail;refine hw1.out.mono ?_;rintro e w1 ⟨rfl,hb1⟩;have hb2:=hB.trans (hb1.mono hB.size);have c0':=(hb1.cell (p:=⟨w.heap.size,0,none⟩) k0.lt).trans c0;have c1':=(hb1.cell (p:=⟨w.heap.size,1,none⟩) k0.lt).trans c1;have e1':=(hb1.cell (p:=⟨by',0,none⟩) (block_lt_of_cell e1)).trans e1;have e2':=(hb1.cell (p:=⟨bl,0,none⟩) (block_lt_of_cell e2)).trans e2;have hc2:=hide (hco.out w1 hb1);clear hW0 hw1 hco c0 c1 e0 e1 e2;cases q1 with
 |false=>
  have hre:q=false:=(by rw[hp.out];rfl);subst hre;clear hp hc2;go_wp2;go_ret;exact⟨rfl,hb2⟩
 |true=>
  by_cases h1:rb<0
  ·have hre:q=true:=(by rw[hp.out,decide_eq_true h1];rfl);have g1:decide (rb<0)=true:=(by simpa using h1);subst hre;clear hp hc2;go_wp2;go_ret;exact⟨rfl,hb2⟩
  ·have g1:decide (rb<0)=false:=(by simpa using h1);by_cases h2:rb=(y:Int)
   ·have hre:q=false:=(by rw[hp.out,decide_eq_false h1];simp[h2]);have g2:(rb !=(y:Int))=false:=(by simp[h2]);subst hre;clear hp hc2 h1 h2;go_wp2;go_ret;exact⟨rfl,hb2⟩
   ·have hre:q=q2:=(by rw[hp.out,decide_eq_false h1];simp[h2]);have g2:(rb !=(y:Int))=true:=(by simpa using h2);subst hre;clear hp h1 h2;go_wp2_with fail;refine hc2.out.mono ?_;rintro e w2 ⟨rfl,hb3⟩;go_wp2;go_ret;exact⟨rfl,hb2.trans (hb3.mono hb2.size)⟩
set_option maxRecDepth 100000 in
theorem G6(A:Option Addr)(c:Nat)(H:List Txn)(Al:Option Addr)(cl:Nat)(l:List Cho)(x y:Nat)(w:World)(h:aD w (Old w) (.slice A H.length c) H)(hn:aH H)(hl:bC w (Old w) (.slice Al l.length cl) l)(hln:l.length≤1000000000)(hx:x<H.length)(hy:y<H.length):
 Calls Tryz.prog 302 #[.slice Al l.length cl,.agg #[.slice A H.length c],.int .i64 (x:Int),.int .i64 (y:Int)] w fun e w'=>e= .returned (.bool (nX H l x y))∧Below w.heap.size w w':=by
 have hx0:(0:Int)≤(x:Int):=Int.natCast_nonneg _;have hx1:(x:Int)<(H.length:Int):=(by omega);obtain⟨W0,hW0⟩:∃W0,((w.alloc (.cells #[.slice Al l.length cl] 334)).alloc (.cells #[.slice A H.length c] 24)).alloc (.cells #[.int .i64 (y:Int)] 3)=W0:=⟨_,rfl⟩;have hB:=jl hW0;have k0:=Blk.CY hW0;have k1:=Blk.yS hW0;have k2:=Blk.yT hW0;have hT:=hide (h.below hB);have hL:=hide (hl.below hB);obtain⟨b,off,Aw,cw,Ar,cr,rfl,_,d0,d1,d2,-,hrs⟩:=aD.at_ hT.out hx;have hrl:H[x].reads.length≤1000000:=(hn.2 _ (List.getElem_mem hx)).2;have hc:=hide (iN 303 (enters_of Tryz.func303 (by kernel_rfl) rfl) #[.pointer (some ⟨w.heap.size+1,0,none⟩),.pointer (some ⟨w.heap.size+1+1,0,none⟩),.pointer (some ⟨w.heap.size,0,none⟩)] (qW H l y) Ar cr H[x].reads W0 hrs (by omega) (fun W hbW r _=>KE _ c H Al cl l r y _ _ _ W (hT.out.below hbW) hn (hL.out.below hbW) hln hy (by have:=(k1.below hbW k1.lt).cell 0;simpa using this) (by have:=(k2.below hbW k2.lt).cell 0;simpa using this) (by have:=(k0.below hbW k0.lt).cell 0;simpa using this)));have hre:nX H l x y=(decide (x≠y)&&H[x].reads.any (qW H l y)):=(by unfold nX;rw[aJ hx]);rw[hre];generalize H[x].reads=R at*;generalize R.any (qW H l y)=q at*;have c0:=Blk.n0 k1;have c1:=Blk.n0 k2;clear h hl hrs hre;by_cases hxy:x=y
 ·have g1:((x:Int) !=(y:Int))=false:=(by simp[hxy]);have g2:(x !=y)=false:=(by simp[hxy]);have hq:(decide (x≠y)&&q)=false:=(by simp[hxy]);rw[hq];clear hc hxy hq;go_enter Tryz.func302,Tryz.ntmps302;go_wp2;go_ret;exact⟨rfl,hB⟩
 ·have g1:((x:Int) !=(y:Int))=true:=(by simp;omega);have g2:(x !=y)=true:=(by simp[hxy]);have hq:(decide (x≠y)&&q)=q:=(by simp[hxy]);rw[hq];clear hxy hq;go_enter Tryz.func302,Tryz.ntmps302;go_wp2_with fail;refine hc.out.mono ?_;rintro e w1 ⟨rfl,hb1⟩;go_wp2;go_ret;exact⟨rfl,hB.trans (hb1.mono hB.size)⟩
set_option maxRecDepth 100000 in
theorem KF (A:Option Addr) (c:Nat) (H:List Txn) (Al:Option Addr) (cl:Nat) (l:List Cho) (x y:Nat) (bh bx by':Nat) (w:World) (h:aD w (Old w) (.slice A H.length c) H) (hn:aH H) (hl:bC w (Old w) (.slice Al l.length cl) l) (hln:l.length≤1000000000) (hx:x<H.length) (hy:y<H.length)
 (hbh:w.cell? ⟨bh,0,none⟩=some (.slice A H.length c)) (hbx:w.cell? ⟨bx,0,none⟩=some (.int .i64 (x:Int))) (hby:w.cell? ⟨by',0,none⟩=some (.int .i64 (y:Int))):
 Calls Tryz.prog 274 #[.iface 317 (.agg #[]),.pointer (some ⟨bh,0,none⟩),.pointer (some ⟨bx,0,none⟩),.pointer (some ⟨by',0,none⟩)] w fun e w'=>e= .returned (.bool (soE H x y))∧Below w.heap.size w w':=by
 have hc:=hide (GY A c H x y undef w h hx hy);clear h hl;go_enter Tryz.func274,Tryz.ntmps274;go_wp2_with fail;refine hc.out.mono ?_;rintro e w1 ⟨rfl,hb1⟩;go_wp2;go_ret;exact⟨rfl,hb1⟩
set_option maxRecDepth 100000 in
theorem KG (A:Option Addr) (c:Nat) (H:List Txn) (Al:Option Addr) (cl:Nat) (l:List Cho) (x y:Nat) (bh bx by':Nat) (w:World) (h:aD w (Old w) (.slice A H.length c) H) (hn:aH H) (hl:bC w (Old w) (.slice Al l.length cl) l) (hln:l.length≤1000000000) (hx:x<H.length) (hy:y<H.length)
 (hbh:w.cell? ⟨bh,0,none⟩=some (.slice A H.length c)) (hbx:w.cell? ⟨bx,0,none⟩=some (.int .i64 (x:Int))) (hby:w.cell? ⟨by',0,none⟩=some (.int .i64 (y:Int))):
 Calls Tryz.prog 274 #[.iface 318 (.agg #[]),.pointer (some ⟨bh,0,none⟩),.pointer (some ⟨bx,0,none⟩),.pointer (some ⟨by',0,none⟩)] w fun e w'=>e= .returned (.bool (rQ H x y))∧Below w.heap.size w w':=by
 have hc:=hide (GZ A c H x y w h hn hy);clear h hl;go_enter Tryz.func274,Tryz.ntmps274;go_wp2_with fail;refine hc.out.mono ?_;rintro e w1 ⟨rfl,hb1⟩;go_wp2;go_ret;exact⟨rfl,hb1⟩
set_option maxRecDepth 100000 in
theorem KH (A:Option Addr) (c:Nat) (H:List Txn) (Al:Option Addr) (cl:Nat) (l:List Cho) (x y:Nat) (bh bx by':Nat) (w:World) (h:aD w (Old w) (.slice A H.length c) H) (hn:aH H) (hl:bC w (Old w) (.slice Al l.length cl) l) (hln:l.length≤1000000000) (hx:x<H.length) (hy:y<H.length)
 (hbh:w.cell? ⟨bh,0,none⟩=some (.slice A H.length c)) (hbx:w.cell? ⟨bx,0,none⟩=some (.int .i64 (x:Int))) (hby:w.cell? ⟨by',0,none⟩=some (.int .i64 (y:Int))):
 Calls Tryz.prog 274 #[.iface 319 (.slice Al l.length cl),.pointer (some ⟨bh,0,none⟩),.pointer (some ⟨bx,0,none⟩),.pointer (some ⟨by',0,none⟩)] w fun e w'=>e= .returned (.bool (qU H l x y))∧Below w.heap.size w w':=by
 have hc:=hide (G5 A c H Al cl l x y w h hn hl hln hx hy);clear h hl;go_enter Tryz.func274,Tryz.ntmps274;go_wp2_with fail;refine hc.out.mono ?_;rintro e w1 ⟨rfl,hb1⟩;go_wp2;go_ret;exact⟨rfl,hb1⟩
set_option maxRecDepth 100000 in
theorem KI (A:Option Addr) (c:Nat) (H:List Txn) (Al:Option Addr) (cl:Nat) (l:List Cho) (x y:Nat) (bh bx by':Nat) (w:World) (h:aD w (Old w) (.slice A H.length c) H) (hn:aH H) (hl:bC w (Old w) (.slice Al l.length cl) l) (hln:l.length≤1000000000) (hx:x<H.length) (hy:y<H.length)
 (hbh:w.cell? ⟨bh,0,none⟩=some (.slice A H.length c)) (hbx:w.cell? ⟨bx,0,none⟩=some (.int .i64 (x:Int))) (hby:w.cell? ⟨by',0,none⟩=some (.int .i64 (y:Int))):
 Calls Tryz.prog 274 #[.iface 334 (.slice Al l.length cl),.pointer (some ⟨bh,0,none⟩),.pointer (some ⟨bx,0,none⟩),.pointer (some ⟨by',0,none⟩)] w fun e w'=>e= .returned (.bool (nX H l x y))∧Below w.heap.size w w':=by
 have hc:=hide (G6 A c H Al cl l x y w h hn hl hln hx hy);clear h hl;go_enter Tryz.func274,Tryz.ntmps274;go_wp2_with fail;refine hc.out.mono ?_;rintro e w1 ⟨rfl,hb1⟩;go_wp2;go_ret;exact⟨rfl,hb1⟩
set_option maxRecDepth 100000 in
theorem zh (A:Option Addr) (c:Nat) (H:List Txn) (x y:Int) (Ak:Option Addr) (ck:Nat) (vs:List (Value×Bool)) (w:World) (h:aD w (Old w) (.slice A H.length c) H) (hn:aH H) (hk:xU w (Old w) (.slice Ak vs.length ck) vs) (hkn:vs.length≤1000)
 (hp:xI H x y=true→∀W (bh bx by':Nat),Below w.heap.size w W→W.cell? ⟨bh,0,none⟩=some (.slice A H.length c)→W.cell? ⟨bx,0,none⟩=some (.int .i64 x)→W.cell? ⟨by',0,none⟩=some (.int .i64 y)→∀v∈vs,Calls Tryz.prog 274 #[v.1,.pointer (some ⟨bh,0,none⟩),.pointer (some ⟨bx,0,none⟩),.pointer (some ⟨by',0,none⟩)] W fun e W'=>e= .returned (.bool v.2)∧Below W.heap.size W W'):
 Calls Tryz.prog 260 #[.agg #[.slice A H.length c],.int .i64 x,.int .i64 y,.slice Ak vs.length ck] w fun e w'=>e= .returned (.bool (xI H x y&&vs.any (·.2)))∧Below w.heap.size w w':=by
 obtain⟨W0,hW0⟩:∃W0,((w.alloc (.cells #[.slice A H.length c] 24)).alloc (.cells #[.int .i64 x] 3)).alloc (.cells #[.int .i64 y] 3)=W0:=⟨_,rfl⟩;have hB:=jl hW0;have k0:=Blk.CY hW0;have k1:=Blk.yS hW0;have k2:=Blk.yT hW0;have hrc:=hide (dL A c H W0 (h.below hB) hn);have c0:=Blk.n0 k0;have hko:=hide (fun W (hb:Below w.heap.size w W)=>hk.below hb);have htw:Hid (xI H x y=(ay H&&decide (0≤x)&&decide (x<(H.length:Int))&&decide (0≤y)&&decide (y<(H.length:Int)))):=hide rfl;obtain⟨r,hr⟩:∃r,xI H x y=r:=⟨_,rfl⟩;rw[hr]at htw hp;rw[hr];obtain⟨q,hq⟩:∃q,ay H=q:=⟨_,rfl⟩;rw[hq]at htw hrc;replace hp:=hide hp;replace hn:=hide hn;obtain⟨z,hz⟩:∃z,vs.any (·.2)=z:=⟨_,rfl⟩;rw[hz];replace hz:=hide hz;clear h hk hr hq;go_enter Tryz.func260,Tryz.ntmps260;go_wp2_with fail;refine hrc.out.mono ?_;rintro e w1 ⟨rfl,hb1⟩;replace k0:=k0.below hb1 k0.lt;replace k1:=k1.below hb1 k1.lt;replace k2:=k2.below hb1 k2.lt;have hb2:=hB.trans (hb1.mono hB.size);clear hW0 hrc c0;have c0:=Blk.n0 k0;have c1:=Blk.n0 k1;have c2:=Blk.n0 k2;cases q with
 |false=>
  have hre:r=false:=(by rw[htw.out];rfl);subst hre;clear htw hp;go_wp2;go_ret;exact⟨rfl,hb2⟩
 |true=>
  by_cases h1:x<0∨y<0
  ·have hre:r=false:=by
    rw[htw.out];rcases h1 with g|g
    ·rw[decide_eq_false (show¬0≤x by omega)];simp
    ·rw[decide_eq_false (show¬0≤y by omega)];simp
   subst hre;have g1:decide (min x y<0)=true:=(by simp;omega);clear htw hp h1;go_wp2;go_ret;exact⟨rfl,hb2⟩
  ·have g1:decide (min x y<0)=false:=(by simp;omega);by_cases h2:(H.length:Int)≤x∨(H.length:Int)≤y
   ·have hre:r=false:=by
     rw[htw.out];rcases h2 with g|g
     ·rw[decide_eq_false (show¬x<(H.length:Int) by omega)];simp
     ·rw[decide_eq_false (show¬y<(H.length:Int) by omega)];simp
    subst hre;have g2:decide (max x y≥(H.length:Int))=true:=(by simp;omega);have g3:decide ((H.length:Int)≤max x y)=true:=(by simp;omega);clear htw hp h1 h2;go_wp2;go_ret;exact⟨rfl,hb2⟩
   ·have hre:r=true:=by
     rw[htw.out,decide_eq_true (show 0≤x by omega),decide_eq_true (show 0≤y by omega),decide_eq_true (show x<(H.length:Int) by omega),decide_eq_true (show y<(H.length:Int) by omega)];rfl
    subst hre;have g2:decide (max x y≥(H.length:Int))=false:=(by simp;omega);have g3:decide ((H.length:Int)≤max x y)=false:=(by simp;omega);have hc:=hide (y9 274 (enters_of Tryz.func274 (by kernel_rfl) rfl) #[.pointer (some ⟨w.heap.size,0,none⟩),.pointer (some ⟨w.heap.size+1,0,none⟩),.pointer (some ⟨w.heap.size+1+1,0,none⟩)] (·.2) Ak ck vs w1 (hko.out w1 hb2) (by omega) (fun W hbW v hv=>hp.out (by simp) W _ _ _ (hb2.trans (hbW.mono hb2.size)) (by have:=(k0.below hbW k0.lt).cell 0;simpa using this) (by have:=(k1.below hbW k1.lt).cell 0;simpa using this) (by have:=(k2.below hbW k2.lt).cell 0;simpa using this) v hv));rw[hz.out]at hc;clear htw hp h1 h2 hko hz;go_wp2_with fail;refine hc.out.mono ?_;rintro e w2 ⟨rfl,hb3⟩;go_wp2;go_ret;exact⟨rfl,hb2.trans (hb3.mono hb2.size)⟩
theorem xU.bZ{w:World}{g:Nat}{t:TypeId}{vs:List (Value×Bool)}(h:Blk w g t (vs.map (·.1)).toArray):xU w (Old w) (.slice (some ⟨g,0,none⟩) vs.length vs.length) vs:=by
 refine⟨some ⟨g,0,none⟩,vs.length,vs.map fun x=>[x.1],rfl,Nat.le_refl _,by simp,fun i cs x h1 h2=> ?_,fun _=>⟨g,0,rfl,h.lt,fun i j cs u h1 h2=> ?_⟩⟩
 ·rw[List.getElem?_map,h2]at h1;injection h1 with h1
  exact⟨by rw[←h1];rfl,h1.symm⟩
 ·rw[List.getElem?_map]at h1;cases hl:vs[i]? with
  |none=>rw[hl]at h1;cases h1
  |some x=>
   rw[hl]at h1;injection h1 with h1
   subst h1;cases j with
   |zero=>
    injection h2 with h2
    rw[Nat.zero_add,Nat.mul_one,Nat.add_zero,h.cell,gA,List.getElem?_map,hl,←h2];rfl
   |succ j=>simp at h2
set_option maxRecDepth 100000 in
theorem nN(A:Option Addr)(c:Nat)(H:List Txn)(Al:Option Addr)(cl:Nat)(l:List Cho)(x y:Int)(w:World)(h:aD w (Old w) (.slice A H.length c) H)(hn:aH H)(hl:bC w (Old w) (.slice Al l.length cl) l)(hln:l.length≤1000000000):
 Calls Tryz.prog 229 #[.agg #[.slice A H.length c],.slice Al l.length cl,.int .i64 x,.int .i64 y] w fun e w'=>e= .returned (.bool (bA H l x y))∧Below w.heap.size w w':=by
 obtain⟨W0,hW0⟩:∃W0,(w.alloc (.cells #[.slice A H.length c] 24)).alloc (.cells #[.iface 317 (.agg #[]),.iface 318 (.agg #[]),.iface 319 (.slice Al l.length cl)] 332)=W0:=⟨_,rfl⟩;have hB:=aS hW0;have k1:=Blk.jk hW0;have hT:=h.below hB;have hL:=hl.below hB;have hc:=hide (zh A c H x y (some ⟨w.heap.size+1,0,none⟩) 3 [(.iface 317 (.agg #[]),soE H x.toNat y.toNat),(.iface 318 (.agg #[]),rQ H x.toNat y.toNat),(.iface 319 (.slice Al l.length cl),qU H l x.toNat y.toNat)] W0 hT hn (xU.bZ (vs:=[(.iface 317 (.agg #[]),soE H x.toNat y.toNat),(.iface 318 (.agg #[]),rQ H x.toNat y.toNat),(.iface 319 (.slice Al l.length cl),qU H l x.toNat y.toNat)]) k1) (by simp) (fun htw W bh bx by' hbW g1 g2 g3 v hv=>by
  obtain⟨_,a,b,rfl,rfl,ha,hb⟩:=iJ.1 htw;simp only[Int.toNat_natCast]at hv;simp only[List.mem_cons,List.not_mem_nil,or_false]at hv;rcases hv with rfl|rfl|rfl
  ·exact KF A c H Al cl l a b bh bx by' W (hT.below hbW) hn (hL.below hbW) hln ha hb g1 g2 g3
  ·exact KG A c H Al cl l a b bh bx by' W (hT.below hbW) hn (hL.below hbW) hln ha hb g1 g2 g3
  ·exact KH A c H Al cl l a b bh bx by' W (hT.below hbW) hn (hL.below hbW) hln ha hb g1 g2 g3))
 have hre:bA H l x y=(xI H x y&&[((.iface 317 (.agg #[]):Value),soE H x.toNat y.toNat),(.iface 318 (.agg #[]),rQ H x.toNat y.toNat),(.iface 319 (.slice Al l.length cl),qU H l x.toNat y.toNat)].any (·.2)):=by
  unfold bA MP;simp[Bool.or_assoc]
 rw[hre];generalize(xI H x y&&[((.iface 317 (.agg #[]):Value),soE H x.toNat y.toNat),(.iface 318 (.agg #[]),rQ H x.toNat y.toNat),(.iface 319 (.slice Al l.length cl),qU H l x.toNat y.toNat)].any (·.2))=q at*;clear h hl hre hT hL;go_enter Tryz.func229,Tryz.ntmps229;go_wp2_with fail;refine hc.out.mono ?_;rintro e w1 ⟨rfl,hb1⟩;go_wp2;go_ret;exact⟨rfl,hB.trans (hb1.mono hB.size)⟩
set_option maxRecDepth 100000 in
theorem G7(A:Option Addr)(c:Nat)(H:List Txn)(Al:Option Addr)(cl:Nat)(l:List Cho)(x y:Int)(w:World)(h:aD w (Old w) (.slice A H.length c) H)(hn:aH H)(hl:bC w (Old w) (.slice Al l.length cl) l)(hln:l.length≤1000000000):
 Calls Tryz.prog 263 #[.agg #[.slice A H.length c],.slice Al l.length cl,.int .i64 x,.int .i64 y] w fun e w'=>e= .returned (.bool (iH H l x y))∧Below w.heap.size w w':=by
 obtain⟨W0,hW0⟩:∃W0,(w.alloc (.cells #[.slice A H.length c] 24)).alloc (.cells #[.iface 334 (.slice Al l.length cl)] 332)=W0:=⟨_,rfl⟩;have hB:=aS hW0;have k1:=Blk.jk hW0;have hT:=h.below hB;have hL:=hl.below hB;have hc:=hide (zh A c H x y (some ⟨w.heap.size+1,0,none⟩) 1 [(.iface 334 (.slice Al l.length cl),nX H l x.toNat y.toNat)] W0 hT hn (xU.bZ (vs:=[(.iface 334 (.slice Al l.length cl),nX H l x.toNat y.toNat)]) k1) (by simp) (fun htw W bh bx by' hbW g1 g2 g3 v hv=>by
  obtain⟨_,a,b,rfl,rfl,ha,hb⟩:=iJ.1 htw;simp only[Int.toNat_natCast]at hv;simp only[List.mem_cons,List.not_mem_nil,or_false]at hv;subst hv;exact KI A c H Al cl l a b bh bx by' W (hT.below hbW) hn (hL.below hbW) hln ha hb g1 g2 g3))
 have hre:iH H l x y=(xI H x y&&[((.iface 334 (.slice Al l.length cl):Value),nX H l x.toNat y.toNat)].any (·.2)):=by
  unfold iH;simp
 rw[hre];generalize(xI H x y&&[((.iface 334 (.slice Al l.length cl):Value),nX H l x.toNat y.toNat)].any (·.2))=q at*;clear h hl hre hT hL;go_enter Tryz.func263,Tryz.ntmps263;go_wp2_with fail;refine hc.out.mono ?_;rintro e w1 ⟨rfl,hb1⟩;go_wp2;go_ret;exact⟨rfl,hB.trans (hb1.mono hB.size)⟩
set_option maxRecDepth 100000 in
theorem Nt(A:Option Addr)(c:Nat)(H:List Txn)(level:Int)(Al:Option Addr)(cl:Nat)(l:List Cho)(x y:Int)(w:World)(h:aD w (Old w) (.slice A H.length c) H)(hn:aH H)(hl:bC w (Old w) (.slice Al l.length cl) l)(hln:l.length≤1000000000):
 Calls Tryz.prog 235 #[.agg #[.slice A H.length c],.int .i64 level,.slice Al l.length cl,.int .i64 x,.int .i64 y] w fun e w'=>e= .returned (.bool (isB H level l x y))∧Below w.heap.size w w':=by
 obtain⟨W0,hW0⟩:∃W0,w.alloc (.cells #[.slice A H.length c] 24)=W0:=⟨_,rfl⟩;have hB:=ah (Below.refl w.heap.size w) hW0 (Nat.le_refl _);have k0:=Blk.newEq hW0;have hdi:=hide (fun(a b:Int) W (hb:Below w.heap.size w W)=>nN A c H Al cl l a b W (h.below hb) hn (hl.below hb) hln);have han:=hide (fun(a b:Int) W (hb:Below w.heap.size w W)=>G7 A c H Al cl l a b W (h.below hb) hn (hl.below hb) hln);have hH:=hn.1;have c0:=Blk.n0 k0;clear h hl;by_cases h0:level=0
 ·subst h0;have hre:Hid (isB H 0 l x y=(bA H l x y||iH H l x y)):=hide rfl;rw[hre.out];have hd1:=hide (hdi.out x y W0 hB);have ha1:=hide (fun W (hb:Below W0.heap.size W0 W)=>han.out x y W (hB.trans (hb.mono hB.size)));generalize bA H l x y=q1 at*;generalize iH H l x y=q2 at*;clear hre hdi han;go_enter Tryz.func235,Tryz.ntmps235;go_wp2_with fail;refine hd1.out.mono ?_;rintro e w1 ⟨rfl,hb1⟩;have hb2:=hB.trans (hb1.mono hB.size);have ha2:=hide (ha1.out w1 hb1);have k1:=k0.below hb1 k0.lt;have c1:=Blk.n0 k1;clear hW0 c0 hd1 ha1;cases q1 with
  |true=>
   clear ha2;go_wp2;go_ret;exact⟨rfl,hb2⟩
  |false=>
   go_wp2_with fail;refine ha2.out.mono ?_;rintro e w2 ⟨rfl,hb3⟩;go_wp2;go_ret;exact⟨rfl,hb2.trans (hb3.mono hb2.size)⟩
 ·have g0:(level==0)=false:=(by simpa using h0);by_cases h1:level=1
  ·subst h1;have hre:Hid (isB H 1 l x y=(List.range H.length).any fun m=>bA H l x (m:Int)&&(decide ((m:Int)=y)||iH H l (m:Int) y)):=hide rfl;have hyes:Hid (∀m,m<H.length→(bA H l x (m:Int)&&(decide ((m:Int)=y)||iH H l (m:Int) y))=true→isB H 1 l x y=true):=hide (fun m hm g=>by rw[hre.out,List.any_eq_true];exact⟨m,List.mem_range.2 hm,g⟩);have hno:Hid ((∀m,m<H.length→(bA H l x (m:Int)&&(decide ((m:Int)=y)||iH H l (m:Int) y))=false)→isB H 1 l x y=false):=hide (fun g=>by rw[hre.out,List.any_eq_false];intro m hm;rw[g m (List.mem_range.1 hm)];decide);generalize isB H 1 l x y=r at*;clear hre h0;go_enter Tryz.func235,Tryz.ntmps235;go_wp2_with fail;clear hW0 c0;go_loopw [32] (fun s32 wr=>∃m:Nat,m≤H.length∧s32= .int .i64 m∧Hid (∀m',m'<m→(bA H l x (m':Int)&&(decide ((m':Int)=y)||iH H l (m':Int) y))=false)∧Below w.heap.size w wr∧Blk wr w.heap.size 24 #[.slice A H.length c]) (fun s32 _=>H.length-(intOf s32).toNat);case atStart=>exact⟨0,Nat.zero_le _,by go_num,hide (fun m hm=>absurd hm (by omega)),hB,k0⟩
   case round=>
    clear k0 hB;obtain⟨m,hm,rfl,hall,hb,k0⟩:=hrel;have hm0:(0:Int)≤(m:Int):=Int.natCast_nonneg _;by_cases hlt:m<H.length
    ·have hm1:(m:Int)<(H.length:Int):=(by omega);have c0:=Blk.n0 k0;have hd1:=hide (hdi.out x (m:Int) wr hb);have ha1:=hide (fun W (hb2:Below wr.heap.size wr W)=>han.out (m:Int) y W (hb.trans (hb2.mono hb.size)));have hy:=hide (hyes.out m hlt);have hnx:=hide (fun(g:(bA H l x (m:Int)&&(decide ((m:Int)=y)||iH H l (m:Int) y))=false)=>(fun m' (hm':m'<m+1)=>(by
      by_cases e:m'=m
      ·subst e;exact g
      ·exact hall.out m' (by omega):(bA H l x (m':Int)&&(decide ((m':Int)=y)||iH H l (m':Int) y))=false)))
     generalize bA H l x (m:Int)=q1 at*;generalize iH H l (m:Int) y=q2 at*;go_wp2_with fail;refine hd1.out.mono ?_;rintro e w1 ⟨rfl,hb1⟩;have hb2:=hb.trans (hb1.mono hb.size);have ha2:=hide (ha1.out w1 hb1);have k1:=k0.below hb1 k0.lt;have c1:=Blk.n0 k1;clear c0 hd1 ha1 k0;cases q1 with
     |false=>
      have hn2:=hide (hnx.out rfl);clear ha2 hnx hy;go_wp2;go_roundw;case rel=>exact⟨m+1,by omega,by go_num,hn2,hb2,k1⟩
      case measure=>simp[intOf];omega
     |true=>
      by_cases hmy:(m:Int)=y
      ·have hr:=hy.out (by simp[hmy]);have g1:((m:Int)==y)=true:=(by simpa using hmy);subst hr;clear ha2 hnx hy hmy hno hyes;go_wp2;go_ret;exact⟨rfl,hb2⟩
      ·have g1:((m:Int)==y)=false:=(by simpa using hmy);have hmd:decide ((m:Int)=y)=false:=(by simpa using hmy);rw[hmd]at hy hnx;clear hmd hmy;go_wp2_with fail;refine ha2.out.mono ?_;rintro e w2 ⟨rfl,hb3⟩;have hb4:=hb2.trans (hb3.mono hb2.size);have k2:=k1.below hb3 k1.lt;clear ha2 c1;cases q2 with
       |true=>
        have hr:=hy.out rfl;subst hr;clear hnx hy hno hyes;go_wp2;go_ret;exact⟨rfl,hb4⟩
       |false=>
        have hn2:=hide (hnx.out rfl);clear hnx hy;go_wp2;go_roundw;case rel=>exact⟨m+1,by omega,by go_num,hn2,hb4,k2⟩
        case measure=>simp[intOf];omega
    ·have hr:=hno.out (fun m' hm'=>hall.out m' (by omega));subst hr;clear hyes hall;go_wp2;go_ret;exact⟨rfl,hb⟩
  ·have g1:(level==1)=false:=(by simpa using h1);have hre:isB H level l x y=false:=(by unfold isB;rw[if_neg h0,if_neg h1]);rw[hre];clear hre h0 h1;go_enter Tryz.func235,Tryz.ntmps235;go_wp2;go_ret;exact⟨rfl,hB⟩
end Go.Proofs.YtfhnamomiaekdaaGreatDoor
