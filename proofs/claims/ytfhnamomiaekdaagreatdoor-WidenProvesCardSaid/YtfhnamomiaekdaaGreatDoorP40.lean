/-
  Walks: layer 27: whether a certificate proves its answer.
-/
import Derived.Test.YtfhnamomiaekdaaGreatDoorP32
import Derived.Test.YtfhnamomiaekdaaGreatDoorP36
import Derived.Test.YtfhnamomiaekdaaGreatDoorP39
set_option linter.unusedVariables false
set_option linter.unusedSimpArgs false
namespace Go.Proofs.YtfhnamomiaekdaaGreatDoor
open Go.RowKit Go.Inq
set_option maxHeartbeats 4000000
attribute [local go_sem↓] Go.wp_at_zero Go.wp_at_succ
def Ck(H:List Txn)(level:Int)(yes:Bool)(O:List Int)(R:List aP)(T:List Nod):Bool:=
 if yes then if level=0 then(R.length==0)&&(T.length==0)&&rP H O
  else if level=1 then(O.length==0)&&(T.length==0)&&gY H R else false
 else(O.length==0)&&(R.length==0)&&yD H level [] T
theorem zF{α:Type}(l:List α):((l.length:Int)==0)=(l.length==0):=by rw[Bool.eq_iff_iff];simp
set_option maxRecDepth 100000 in
theorem Iu (A:Option Addr) (c:Nat) (H:List Txn) (level:Int) (yes:Bool) (Ao:Option Addr) (co:Nat) (O:List Int) (Ar:Option Addr) (cr:Nat) (R:List aP) (At:Option Addr) (ct:Nat) (T:List Nod) (w:World) (h:aA w (Old w) (.slice A H.length c) H) (hn:aG H)
 (hO:aB w (Old w) (.slice Ao O.length co) O) (hol:O.length≤1000000) (hR:jX w (Old w) (.slice Ar R.length cr) R) (hf:KF R) (hT:ig w (Old w) (.slice At T.length ct) T) (htl:T.length≤100000000) (hcy:HY T):
 Calls Tryz.prog 45 #[.agg #[.slice A H.length c],.agg #[.int .i64 level,.bool yes,.slice Ao O.length co,.slice Ar R.length cr,.slice At T.length ct]] w fun e w'=>e= .returned (.bool (Ck H level yes O R T))∧Below w.heap.size w w':=by
 obtain⟨W0,hW0⟩:∃W0,(w.alloc (.cells #[.slice A H.length c] 24)).alloc (.cells #[.int .i64 level,.bool yes,.slice Ao O.length co,.slice Ar R.length cr,.slice At T.length ct] 94)=W0:=⟨_,rfl⟩;have hB:=aN hW0;have k0:=Blk.jg hW0;have k1:=Blk.iB hW0;have f1:=hide (fun W (hb:Below w.heap.size w W)=>KJ A c H Ao co O W (h.below hb) hn (hO.below hb) hol);have f2:=hide (fun W (hb:Below w.heap.size w W)=>EC A c H Ar cr R W (h.below hb) hn (hR.below hb) hf);have f3:=hide (fun W (hb:Below w.heap.size w W)=>BX A c H level none 0 [] At ct T W (h.below hb) hn (SlR.nil _ _ _ _ _ _) (Nat.zero_le _) (hT.below hb) htl hcy);have hdef:Hid (Ck H level yes O R T=if yes then if level=0 then(R.length==0)&&(T.length==0)&&rP H O
  else if level=1 then(O.length==0)&&(T.length==0)&&gY H R else false
  else(O.length==0)&&(R.length==0)&&yD H level [] T):=hide rfl
 have z1:=zF O;have z2:=zF R;have z3:=zF T;have hl0:(if level=0 then true else false)=(level==0):=(by by_cases e:level=0<;>simp[e]);have c0:=Blk.n0 k0;have d0:=Blk.n0 k1;have d1:=Blk.n1 k1;have d2:=Blk.n2 k1;have d3:=Blk.n3 k1;have d4:=Blk.n4 k1;clear hl0 h hO hR hf hT htl hcy hn hol k0 k1;generalize Ck H level yes O R T=r at*;generalize rP H O=sv at*;generalize gY H R=cv at*;generalize yD H level [] T=tv at*;generalize(O.length==0)=bo at*;generalize(R.length==0)=br at*;generalize(T.length==0)=bt at*;go_enter Tryz.func45,Tryz.ntmps45;go_wp2_with fail;clear hW0;go_quiet (fail);have hB2:Below w.heap.size w (W0.drewN nq):=hB.trans ⟨rfl,rfl,rfl,Nat.le_refl _,fun _ _=>rfl⟩;cases yes with
 |false=>
  have hr:r=(bo&&br&&tv):=hdef.out;subst hr;clear hdef f1 f2;cases bo with
  |false=>
   go_wp2;go_ret;exact⟨rfl,hB2⟩
  |true=>
   cases br with
   |false=>
    go_wp2;go_ret;exact⟨rfl,hB2⟩
   |true=>
    go_wp2_with fail;refine(f3.out _ hB2).mono ?_;rintro e w1 ⟨rfl,hb1⟩;have hB2:=hB2.trans (hb1.mono hB2.size);go_wp2;go_ret;exact⟨rfl,hB2⟩
 |true=>
  by_cases h0:level=0
  ·subst h0;have hr:r=(br&&bt&&sv):=hdef.out;subst hr;clear hdef f2 f3;cases br with
   |false=>
    go_wp2;go_ret;exact⟨rfl,hB2⟩
   |true=>
    cases bt with
    |false=>
     go_wp2;go_ret;exact⟨rfl,hB2⟩
    |true=>
     go_wp2_with fail;refine(f1.out _ hB2).mono ?_;rintro e w1 ⟨rfl,hb1⟩;have hB2:=hB2.trans (hb1.mono hB2.size);go_wp2;go_ret;exact⟨rfl,hB2⟩
  ·have hz4:(level==0)=false:=beq_eq_false_iff_ne.2 h0;have hr:r=if level=1 then(bo&&bt&&cv)else false:=hdef.out.trans (if_neg h0);clear hdef f1 f3 h0;by_cases h1:level=1
   ·subst h1;have hr:r=(bo&&bt&&cv):=hr;subst hr;cases bo with
    |false=>
     go_wp2;go_ret;exact⟨rfl,hB2⟩
    |true=>
     cases bt with
     |false=>
      go_wp2;go_ret;exact⟨rfl,hB2⟩
     |true=>
      go_wp2_with fail;refine(f2.out _ hB2).mono ?_;rintro e w1 ⟨rfl,hb1⟩;have hB2:=hB2.trans (hb1.mono hB2.size);go_wp2;go_ret;exact⟨rfl,hB2⟩
   ·have hz5:(level==1)=false:=beq_eq_false_iff_ne.2 h1;rw[if_neg h1]at hr;subst hr;clear h1 f2;go_wp2;go_ret;exact⟨rfl,hB2⟩
end Go.Proofs.YtfhnamomiaekdaaGreatDoor
