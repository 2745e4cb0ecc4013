/-
  Walks: slices.Index, slices.Contains at rows of numbers.
-/
import Derived.Test.YtfhnamomiaekdaaGreatDoorProg
import Derived.Test.YtfhnamomiaekdaaGreatDoorY02
set_option linter.unusedVariables false
set_option linter.unusedSimpArgs false
namespace Go.Proofs.YtfhnamomiaekdaaGreatDoor
open Go.RowKit Go.Inq
set_option maxHeartbeats 1000000
attribute [local go_sem↓] Go.wp_at_zero Go.wp_at_succ
theorem G9(A:Option Addr)(c:Nat)(l:List Int)(x:Int)(K:Nat→Prop)(w:World)(h:aI w K (.slice A l.length c) l)(hn:l.length≤maxLen):
 Calls Tryz.prog 91 #[.slice A l.length c,.int .i64 x] w fun e w'=>e= .returned (.int .i64 (AO l x))∧w=w':=by
 unfold maxLen at hn;have hhit:=hide (fun k=>J9 (l:=l) (x:=x) (k:=k));have hnone:=hide (zi (l:=l) (x:=x));go_enter Tryz.func91,Tryz.ntmps91;go_wp2_with fail
 go_loop [5,8] (fun s5 s8=>∃k:Nat,k≤l.length∧s8= .int .i64 k∧Hid (∀j (hj:j<l.length),j<k→l[j]≠x)) (fun _ s8=>l.length-(intOf s8).toNat)
 case atStart=>exact⟨0,Nat.zero_le _,by go_num,fun j hj h=>absurd h (by omega)⟩
 case round=>
  obtain⟨k,hk,rfl,hall⟩:=hrel;by_cases hlt:k<l.length
  ·have hi2:(k:Int)<(l.length:Int):=(by omega);obtain⟨b,off,rfl,_,hc⟩:=h.at_ hlt;have hh:=hide (fun g=>hhit.out k hlt g hall.out);have hst:Hid (l[k]≠x→∀j (hj:j<l.length),j<k+1→l[j]≠x):=fun g j hj hjk=>by
    by_cases e:j=k
    ·subst e;exact g
    ·exact hall.out j hj (by omega)
   clear hall;by_cases he:x=l[k]
   ·have hb:(x==l[k])=true:=(by simpa using he);have hr:=hide (hh.out he.symm);clear he hh hst;go_wp2;go_ret;exact⟨dP hr.out.symm,rfl⟩
   ·have hb:(x==l[k])=false:=(by simpa using he);have hn2:=hide (hst.out (fun e=>he e.symm));clear he hh hst;go_wp2
    go_round
    case rel=>exact⟨k+1,by omega,by go_num,hn2⟩
    case measure=>simp[intOf];omega
  ·have hr:=hide (hnone.out fun j hj=>hall.out j hj (by omega));go_wp2;go_ret;exact⟨dP hr.out.symm,rfl⟩
theorem gJ(A:Option Addr)(c:Nat)(l:List Int)(x:Int)(K:Nat→Prop)(w:World)(h:aI w K (.slice A l.length c) l)(hn:l.length≤maxLen):
 Calls Tryz.prog 145 #[.slice A l.length c,.int .i64 x] w fun e w'=>e= .returned (.bool (l.contains x))∧w=w':=by
 have hd:=hide (yP l x);go_enter Tryz.func145,Tryz.ntmps145;go_wp2_with fail;refine(G9 A c l x K _ h hn).mono ?_;rintro e w1 ⟨rfl,rfl⟩;go_wp2;go_ret;exact⟨by rw[←hd.out];rfl,rfl⟩
end Go.Proofs.YtfhnamomiaekdaaGreatDoor
