/-
  Walks: layer 24's reference: is a row of nodes a tree that shows that there is no way?
-/
import Derived.Test.YtpjechjoijjhpaaGreatDoorZ32
import Derived.Test.YtpjechjoijjhpaaGreatDoorZ30
set_option linter.unusedVariables false
set_option linter.unusedSimpArgs false
namespace Go.Proofs.YtpjechjoijjhpaaGreatDoor
open Go.RowKit Go.Inq
set_option maxHeartbeats 4000000
attribute [local go_sem↓] Go.wp_at_zero Go.wp_at_succ
set_option maxRecDepth 100000 in
theorem Jj(A:Option Addr)(c:Nat)(H:List Txn)(level:Int)(Am:Option Addr)(cm:Nat)(M:List Cho)(At:Option Addr)(ct:Nat)(tree:List Nod)(w:World)(h:aC w (Old w) (.slice A H.length c) H)(hn:aA H)(hM:aV w (Old w) (.slice Am M.length cm) M)(hml:M.length≤100000)(ht:aY w (Old w) (.slice At tree.length ct) tree)(htl:tree.length≤800000)(hcy:∀n∈tree,n.cyc.length≤1000000):
 Calls Tryz.prog 86 #[.agg #[.slice A H.length c],.int .i64 level,.slice Am M.length cm,.slice At tree.length ct] w fun e w'=>e= .returned (.bool (tV H level M tree))∧Below w.heap.size w w':=by
 obtain⟨W0,hW0⟩:∃W0,w.alloc (.cells #[.slice A H.length c] 24)=W0:=⟨_,rfl⟩;have hB:=ah (Below.refl w.heap.size w) hW0 (Nat.le_refl _);have k0:=Blk.newEq hW0;have h1:=hide (gP A c H W0 (h.below hB) hn);have h2:=hide (fun W (hW:Below w.heap.size w W)=>Mh At ct tree W (ht.below hW) (by omega));have h3:=hide (fun t (e:jh tree=some t) W (hW:Below w.heap.size w W)=>(D5 A c H level hn At ct tree (by omega) hcy t 0 [] M Am cm W (h.below hW) (ht.below hW) (hM.below hW) (by rw[List.drop_zero,List.append_nil];exact(nL.1 e).1) (nL.1 e).2 (by have:=(nL.1 e).1;rw[←this];omega):
  Calls Tryz.prog 133 #[.agg #[.slice A H.length c],.int .i64 level,.slice Am M.length cm,.slice At tree.length ct,.int .i64 0] W fun e w'=>e= .returned (.bool (t.held H level M))∧Below W.heap.size W w'))
 obtain⟨r,hr⟩:∃r,tV H level M tree=r:=⟨_,rfl⟩;have hd:Hid (tV H level M tree=(aG H&&(decide (level=0)||decide (level=1))&&match jh tree with
  |some t=>t.held H level M
  |none=>false)):=hide rfl
 replace hr:=hide hr;rw[hr.out];have c0:=Blk.n0 k0;clear h hn hM ht htl hcy hml;generalize jh tree=o at*;generalize aG H=q1 at*;go_enter Tryz.func86,Tryz.ntmps86;go_wp2_with fail;clear hW0;refine Calls.mono h1.out ?_;rintro e w1 ⟨rfl,hb1⟩;have hB1:=hB.trans (hb1.mono hB.size);replace k0:=k0.below hb1 k0.lt;clear h1 hb1 hB c0;go_wp2_with fail;refine Calls.mono (h2.out w1 hB1) ?_;rintro e w2 ⟨rfl,hb2⟩;have hB2:=hB1.trans (hb2.mono hB1.size);replace k0:=k0.below hb2 k0.lt;clear h2 hb2 hB1;have c0:=Blk.n0 k0;clear k0;cases q1 with
 |false=>
  clear h3;go_wp2;go_ret;exact⟨by rw[←hr.out,hd.out];simp,hB2⟩
 |true=>
  cases o with
  |none=>
   clear h3;simp only[Option.isSome_none];go_wp2;go_ret;exact⟨by rw[←hr.out,hd.out];simp,hB2⟩
  |some t=>
   simp only[Option.isSome_some];have hcall:=hide (h3.out t rfl w2 hB2);clear h3;obtain⟨q,hq⟩:∃q,t.held H level M=q:=⟨_,rfl⟩;dsimp only at hd;rw[hq]at hcall hd;clear hq;by_cases l0:level=0
   ·have e0:(level !=0)=false:=(by simp[l0]);have hf:Hid (r=q):=hide (by rw[←hr.out,hd.out];simp[l0]);clear hd l0;go_wp2_with fail;refine Calls.mono hcall.out ?_;rintro e w3 ⟨rfl,hb3⟩;have hB3:=hB2.trans (hb3.mono hB2.size);clear hcall;go_wp2;go_ret;exact⟨by rw[hf.out];rfl,hB3⟩
   ·by_cases l1:level=1
    ·have e0:(level !=0)=true:=(by simpa using l0);have e1:(level !=1)=false:=(by simp[l1]);have hf:Hid (r=q):=hide (by rw[←hr.out,hd.out];simp[l1]);clear hd l0 l1;go_wp2_with fail;refine Calls.mono hcall.out ?_;rintro e w3 ⟨rfl,hb3⟩;have hB3:=hB2.trans (hb3.mono hB2.size);clear hcall;go_wp2;go_ret;exact⟨by rw[hf.out];rfl,hB3⟩
    ·have e0:(level !=0)=true:=(by simpa using l0);have e1:(level !=1)=true:=(by simpa using l1);have hf:Hid (r=false):=hide (by rw[←hr.out,hd.out];simp[l0,l1]);clear hcall l0 l1 hd;go_wp2;go_ret;exact⟨by rw[hf.out];rfl,hB2⟩
end Go.Proofs.YtpjechjoijjhpaaGreatDoor
