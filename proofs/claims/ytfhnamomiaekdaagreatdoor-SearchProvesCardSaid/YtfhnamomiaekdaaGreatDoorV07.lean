/-
  Transactions and histories as rows in memory; no program in sight.
-/
import Derived.Test.YtfhnamomiaekdaaGreatDoorProg
import Derived.Test.YtfhnamomiaekdaaGreatDoorV01
set_option linter.unusedVariables false
set_option linter.unusedSimpArgs false
namespace Go.Inq
open Go Go.RowKit
theorem SlR.form{α:Type}{size:Nat}{R:World→(Nat→Prop)→List Value→α→Prop}{w:World}{K:Nat→Prop}{v:Value}{l:List α}(h:SlR size R w K v l):∃A c,v= .slice A l.length c:=by
 obtain⟨A,c,hv,_⟩:=SlR.len h;exact⟨A,c,hv⟩
def TxR(w:World)(K:Nat→Prop)(cs:List Value)(t:Tx):Prop:=∃vo,cs=[.int .i64 t.dM,.bool t.done,.int .i64 t.first,vo]∧EvS w K vo t.ops
theorem TxR.aO:lU TxR:=fun _ _ _ _ _ _ h ha hk=>by
 obtain⟨vo,h1,h2⟩:=h;exact⟨vo,h1,EvS.keep h2 ha hk⟩
theorem TxR.one{w:World}{K:Nat→Prop}{cs:List Value}{t:Tx}(h:TxR w K cs t):∀u∈cs,u.oneCell'=true:=by
 obtain⟨vo,rfl,h2⟩:=h;obtain⟨A,c,rfl⟩:=SlR.form h2;intro u hu;simp at hu;rcases hu with rfl|rfl|rfl|rfl<;>rfl
def TxS(w:World)(K:Nat→Prop)(v:Value)(l:List Tx):Prop:=SlR 4 TxR w K v l
section
variable{w w':World}{K K':Nat→Prop}{v:Value}{l:List Tx}
theorem TxS.keep(h:TxS w K v l)(ha:Agree K w w')(hk:∀b,K b→K' b):TxS w' K' v l:=SlR.keep TxR.aO h ha hk
theorem TxS.below(h:TxS w (Old w) v l)(hb:Below w.heap.size w w'):TxS w' (Old w') v l:=SlR.below TxR.aO h hb
theorem TxS.fit(h:TxS w K v l)(hk:∀b,K b→K' b):TxS w K' v l:=SlR.fit TxR.aO h hk
theorem TxS.at_{A:Option Addr}{n c:Nat}(h:TxS w K (.slice A n c) l){i:Nat}(hi:i<l.length):
 ∃b off A' c',A=some ⟨b,off,none⟩∧K b∧w.cell? ⟨b,off+i*4,none⟩=some (.int .i64 l[i].dM)∧w.cell? ⟨b,off+i*4+1,none⟩=some (.bool l[i].done)∧
  w.cell? ⟨b,off+i*4+2,none⟩=some (.int .i64 l[i].first)∧w.cell? ⟨b,off+i*4+3,none⟩=some (.slice A' l[i].ops.length c')∧EvS w K (.slice A' l[i].ops.length c') l[i].ops:=by
 obtain⟨b,off,cs,hA,hK,_,⟨vo,hcs,hev⟩,hc⟩:=SlR.at_ h hi;obtain⟨A',c',rfl⟩:=SlR.form hev;subst hcs;exact⟨b,off,A',c',hA,hK,hc 0 _ rfl,hc 1 _ rfl,hc 2 _ rfl,hc 3 _ rfl,hev⟩
end
def AJ(w:World)(K:Nat→Prop)(cs:List Value)(t:Txn):Prop:=∃vw vr,cs=[.int .i64 t.dM,vw,vr]∧aP w K vw t.writes∧ItS w K vr t.reads
theorem AJ.aO:lU AJ:=fun _ _ _ _ _ _ h ha hk=>by
 obtain⟨vw,vr,h1,h2,h3⟩:=h;exact⟨vw,vr,h1,aP.keep h2 ha hk,ItS.keep h3 ha hk⟩
theorem AJ.one{w:World}{K:Nat→Prop}{cs:List Value}{t:Txn}(h:AJ w K cs t):∀u∈cs,u.oneCell'=true:=by
 obtain⟨vw,vr,rfl,h2,h3⟩:=h;obtain⟨A,c,rfl⟩:=SlR.form h2;obtain⟨A',c',rfl⟩:=SlR.form h3;intro u hu;simp at hu;rcases hu with rfl|rfl|rfl<;>rfl
def aD(w:World)(K:Nat→Prop)(v:Value)(l:List Txn):Prop:=SlR 3 AJ w K v l
section
variable{w w':World}{K K':Nat→Prop}{v:Value}{l:List Txn}
theorem aD.keep(h:aD w K v l)(ha:Agree K w w')(hk:∀b,K b→K' b):aD w' K' v l:=SlR.keep AJ.aO h ha hk
theorem aD.below(h:aD w (Old w) v l)(hb:Below w.heap.size w w'):aD w' (Old w') v l:=SlR.below AJ.aO h hb
theorem aD.fit(h:aD w K v l)(hk:∀b,K b→K' b):aD w K' v l:=SlR.fit AJ.aO h hk
theorem aD.nil(w:World)(K:Nat→Prop)(A:Option Addr)(c:Nat):aD w K (.slice A 0 c) []:=SlR.nil _ _ _ _ _ _
theorem aD.at_{A:Option Addr}{n c:Nat}(h:aD w K (.slice A n c) l){i:Nat}(hi:i<l.length):
 ∃b off Aw cw Ar cr,A=some ⟨b,off,none⟩∧K b∧w.cell? ⟨b,off+i*3,none⟩=some (.int .i64 l[i].dM)∧w.cell? ⟨b,off+i*3+1,none⟩=some (.slice Aw l[i].writes.length cw)∧
  w.cell? ⟨b,off+i*3+2,none⟩=some (.slice Ar l[i].reads.length cr)∧aP w K (.slice Aw l[i].writes.length cw) l[i].writes∧ItS w K (.slice Ar l[i].reads.length cr) l[i].reads:=by
 obtain⟨b,off,cs,hA,hK,_,⟨vw,vr,hcs,h1,h2⟩,hc⟩:=SlR.at_ h hi;obtain⟨Aw,cw,rfl⟩:=SlR.form h1;obtain⟨Ar,cr,rfl⟩:=SlR.form h2;subst hcs;exact⟨b,off,Aw,cw,Ar,cr,hA,hK,hc 0 _ rfl,hc 1 _ rfl,hc 2 _ rfl,h1,h2⟩
end
end Go.Inq
namespace Go.Proofs.YtfhnamomiaekdaaGreatDoor
open Go.RowKit Go.Inq
def dQ(l:List Int)(x:Int):Int:=match l.findIdx? (·==x)with|some k=>k|none=> -1
theorem y7{l:List Int}{x:Int}{k:Nat}(hk:k<l.length)(h:l[k]=x)(h0:∀j (hj:j<l.length),j<k→l[j]≠x):dQ l x=k:=by
 unfold dQ;have:l.findIdx? (·==x)=some k:=by
  rw[List.findIdx?_eq_some_iff_getElem];exact⟨hk,by simpa using h,fun j hj=>by simpa using h0 j (by omega) hj⟩
 rw[this]
theorem BL{l:List Int}{x:Int}(h0:∀j (hj:j<l.length),l[j]≠x):dQ l x= -1:=by
 unfold dQ;have:l.findIdx? (·==x)=none:=by
  rw[List.findIdx?_eq_none_iff];intro y hy;obtain⟨j,hj,rfl⟩:=List.getElem_of_mem hy;simpa using h0 j hj
 rw[this]
theorem AO(l:List Int)(x:Int):decide (0≤dQ l x)=l.contains x:=by
 by_cases h:x∈l
 ·rw[List.contains_iff_mem.2 h];unfold dQ;cases hf:l.findIdx? (·==x)with
  |none=>
   rw[List.findIdx?_eq_none_iff]at hf;have:=hf x h;simp at this
  |some k=>simp
 ·have:l.contains x=false:=(by simpa using h);rw[this,BL (fun j hj e=>h (by rw[←e];exact List.getElem_mem hj))];rfl
end Go.Proofs.YtfhnamomiaekdaaGreatDoor
namespace Go.Proofs.YtfhnamomiaekdaaGreatDoor
open Go.RowKit Go.Inq
set_option maxHeartbeats 1000000
attribute [local go_sem↓] Go.wp_at_zero Go.wp_at_succ
theorem BM(A:Option Addr)(c:Nat)(l:List Int)(x:Int)(K:Nat→Prop)(w:World)(h:aP w K (.slice A l.length c) l)(hn:l.length≤maxLen):
 Calls Tryz.prog 91 #[.slice A l.length c,.int .i64 x] w fun e w'=>e= .returned (.int .i64 (dQ l x))∧w=w':=by
 unfold maxLen at hn;have hhit:=hide (fun k=>y7 (l:=l) (x:=x) (k:=k));have hnone:=hide (BL (l:=l) (x:=x));go_enter Tryz.func91,Tryz.ntmps91;go_wp2_with fail
 go_loop [5,8] (fun s5 s8=>∃k:Nat,k≤l.length∧s8= .int .i64 k∧Hid (∀j (hj:j<l.length),j<k→l[j]≠x)) (fun _ s8=>l.length-(intOf s8).toNat)
 case atStart=>exact⟨0,Nat.zero_le _,by go_num,fun j hj h=>absurd h (by omega)⟩
 case round=>
  obtain⟨k,hk,rfl,hall⟩:=hrel;by_cases hlt:k<l.length
  ·have hi2:(k:Int)<(l.length:Int):=(by omega);obtain⟨b,off,rfl,_,hc⟩:=h.at_ hlt;have hh:=hide (fun g=>hhit.out k hlt g hall.out);have hst:Hid (l[k]≠x→∀j (hj:j<l.length),j<k+1→l[j]≠x):=fun g j hj hjk=>by
    by_cases e:j=k
    ·subst e;exact g
    ·exact hall.out j hj (by omega)
   clear hall;by_cases he:x=l[k]
   ·have hb:(x==l[k])=true:=(by simpa using he);have hr:=hide (hh.out he.symm);clear he hh hst;go_wp2;go_ret;exact⟨dA hr.out.symm,rfl⟩
   ·have hb:(x==l[k])=false:=(by simpa using he);have hn2:=hide (hst.out (fun e=>he e.symm));clear he hh hst;go_wp2
    go_round
    case rel=>exact⟨k+1,by omega,by go_num,hn2⟩
    case measure=>simp[intOf];omega
  ·have hr:=hide (hnone.out fun j hj=>hall.out j hj (by omega));go_wp2;go_ret;exact⟨dA hr.out.symm,rfl⟩
theorem dR(A:Option Addr)(c:Nat)(l:List Int)(x:Int)(K:Nat→Prop)(w:World)(h:aP w K (.slice A l.length c) l)(hn:l.length≤maxLen):
 Calls Tryz.prog 145 #[.slice A l.length c,.int .i64 x] w fun e w'=>e= .returned (.bool (l.contains x))∧w=w':=by
 have hd:=hide (AO l x);go_enter Tryz.func145,Tryz.ntmps145;go_wp2_with fail;refine(BM A c l x K _ h hn).mono ?_;rintro e w1 ⟨rfl,rfl⟩;go_wp2;go_ret;exact⟨by rw[←hd.out];rfl,rfl⟩
end Go.Proofs.YtfhnamomiaekdaaGreatDoor
