/-
  Transactions and histories as rows in memory; no program in sight.
-/
import Derived.Test.YtpjechjoijjhpaaGreatDoorProg
import Derived.Test.YtpjechjoijjhpaaGreatDoorZ01
set_option linter.unusedVariables false
set_option linter.unusedSimpArgs false
namespace Go.Inq
open Go Go.RowKit
theorem SlR.form{α:Type}{size:Nat}{R:World→(Nat→Prop)→List Value→α→Prop}{w:World}{K:Nat→Prop}{v:Value}{l:List α}(h:SlR size R w K v l):∃A c,v= .slice A l.length c:=by
 obtain⟨A,c,hv,_⟩:=SlR.len h;exact⟨A,c,hv⟩
def TxR(w:World)(K:Nat→Prop)(cs:List Value)(t:Tx):Prop:=∃vo,cs=[.int .i64 t.bL,.bool t.done,.int .i64 t.first,vo]∧EvS w K vo t.ops
theorem TxR.aS:jR TxR:=fun _ _ _ _ _ _ h ha hk=>by
 obtain⟨vo,h1,h2⟩:=h;exact⟨vo,h1,EvS.keep h2 ha hk⟩
theorem TxR.one{w:World}{K:Nat→Prop}{cs:List Value}{t:Tx}(h:TxR w K cs t):∀u∈cs,u.oneCell'=true:=by
 obtain⟨vo,rfl,h2⟩:=h;obtain⟨A,c,rfl⟩:=SlR.form h2;intro u hu;simp at hu;rcases hu with rfl|rfl|rfl|rfl<;>rfl
def TxS(w:World)(K:Nat→Prop)(v:Value)(l:List Tx):Prop:=SlR 4 TxR w K v l
section
variable{w w':World}{K K':Nat→Prop}{v:Value}{l:List Tx}
theorem TxS.keep(h:TxS w K v l)(ha:Agree K w w')(hk:∀b,K b→K' b):TxS w' K' v l:=SlR.keep TxR.aS h ha hk
theorem TxS.below(h:TxS w (Old w) v l)(hb:Below w.heap.size w w'):TxS w' (Old w') v l:=SlR.below TxR.aS h hb
theorem TxS.fit(h:TxS w K v l)(hk:∀b,K b→K' b):TxS w K' v l:=SlR.fit TxR.aS h hk
theorem TxS.at_{A:Option Addr}{n c:Nat}(h:TxS w K (.slice A n c) l){i:Nat}(hi:i<l.length):
 ∃b off A' c',A=some ⟨b,off,none⟩∧K b∧w.cell? ⟨b,off+i*4,none⟩=some (.int .i64 l[i].bL)∧w.cell? ⟨b,off+i*4+1,none⟩=some (.bool l[i].done)∧
  w.cell? ⟨b,off+i*4+2,none⟩=some (.int .i64 l[i].first)∧w.cell? ⟨b,off+i*4+3,none⟩=some (.slice A' l[i].ops.length c')∧EvS w K (.slice A' l[i].ops.length c') l[i].ops:=by
 obtain⟨b,off,cs,hA,hK,_,⟨vo,hcs,hev⟩,hc⟩:=SlR.at_ h hi;obtain⟨A',c',rfl⟩:=SlR.form hev;subst hcs;exact⟨b,off,A',c',hA,hK,hc 0 _ rfl,hc 1 _ rfl,hc 2 _ rfl,hc 3 _ rfl,hev⟩
end
def AX(w:World)(K:Nat→Prop)(cs:List Value)(t:Txn):Prop:=∃vw vr,cs=[.int .i64 t.bL,vw,vr]∧aM w K vw t.writes∧ItS w K vr t.reads
theorem AX.aS:jR AX:=fun _ _ _ _ _ _ h ha hk=>by
 obtain⟨vw,vr,h1,h2,h3⟩:=h;exact⟨vw,vr,h1,aM.keep h2 ha hk,ItS.keep h3 ha hk⟩
theorem AX.one{w:World}{K:Nat→Prop}{cs:List Value}{t:Txn}(h:AX w K cs t):∀u∈cs,u.oneCell'=true:=by
 obtain⟨vw,vr,rfl,h2,h3⟩:=h;obtain⟨A,c,rfl⟩:=SlR.form h2;obtain⟨A',c',rfl⟩:=SlR.form h3;intro u hu;simp at hu;rcases hu with rfl|rfl|rfl<;>rfl
def aC(w:World)(K:Nat→Prop)(v:Value)(l:List Txn):Prop:=SlR 3 AX w K v l
section
variable{w w':World}{K K':Nat→Prop}{v:Value}{l:List Txn}
theorem aC.keep(h:aC w K v l)(ha:Agree K w w')(hk:∀b,K b→K' b):aC w' K' v l:=SlR.keep AX.aS h ha hk
theorem aC.below(h:aC w (Old w) v l)(hb:Below w.heap.size w w'):aC w' (Old w') v l:=SlR.below AX.aS h hb
theorem aC.fit(h:aC w K v l)(hk:∀b,K b→K' b):aC w K' v l:=SlR.fit AX.aS h hk
theorem aC.nil(w:World)(K:Nat→Prop)(A:Option Addr)(c:Nat):aC w K (.slice A 0 c) []:=SlR.nil _ _ _ _ _ _
theorem aC.at_{A:Option Addr}{n c:Nat}(h:aC w K (.slice A n c) l){i:Nat}(hi:i<l.length):
 ∃b off Aw cw Ar cr,A=some ⟨b,off,none⟩∧K b∧w.cell? ⟨b,off+i*3,none⟩=some (.int .i64 l[i].bL)∧w.cell? ⟨b,off+i*3+1,none⟩=some (.slice Aw l[i].writes.length cw)∧
  w.cell? ⟨b,off+i*3+2,none⟩=some (.slice Ar l[i].reads.length cr)∧aM w K (.slice Aw l[i].writes.length cw) l[i].writes∧ItS w K (.slice Ar l[i].reads.length cr) l[i].reads:=by
 obtain⟨b,off,cs,hA,hK,_,⟨vw,vr,hcs,h1,h2⟩,hc⟩:=SlR.at_ h hi;obtain⟨Aw,cw,rfl⟩:=SlR.form h1;obtain⟨Ar,cr,rfl⟩:=SlR.form h2;subst hcs;exact⟨b,off,Aw,cw,Ar,cr,hA,hK,hc 0 _ rfl,hc 1 _ rfl,hc 2 _ rfl,h1,h2⟩
end
end Go.Inq
namespace Go.Proofs.YtpjechjoijjhpaaGreatDoor
open Go.RowKit Go.Inq
def Dr(l:List Int)(x:Int):Int:=match l.findIdx? (·==x)with|some k=>k|none=> -1
theorem NJ{l:List Int}{x:Int}{k:Nat}(hk:k<l.length)(h:l[k]=x)(h0:∀j (hj:j<l.length),j<k→l[j]≠x):Dr l x=k:=by
 unfold Dr;have:l.findIdx? (·==x)=some k:=by
  rw[List.findIdx?_eq_some_iff_getElem];exact⟨hk,by simpa using h,fun j hj=>by simpa using h0 j (by omega) hj⟩
 rw[this]
theorem Ci{l:List Int}{x:Int}(h0:∀j (hj:j<l.length),l[j]≠x):Dr l x= -1:=by
 unfold Dr;have:l.findIdx? (·==x)=none:=by
  rw[List.findIdx?_eq_none_iff];intro y hy;obtain⟨j,hj,rfl⟩:=List.getElem_of_mem hy;simpa using h0 j hj
 rw[this]
theorem AY(l:List Int)(x:Int):decide (0≤Dr l x)=l.contains x:=by
 by_cases h:x∈l
 ·rw[List.contains_iff_mem.2 h];unfold Dr;cases hf:l.findIdx? (·==x)with
  |none=>
   rw[List.findIdx?_eq_none_iff]at hf;have:=hf x h;simp at this
  |some k=>simp
 ·have:l.contains x=false:=(by simpa using h);rw[this,Ci (fun j hj e=>h (by rw[←e];exact List.getElem_mem hj))];rfl
end Go.Proofs.YtpjechjoijjhpaaGreatDoor
namespace Go.Proofs.YtpjechjoijjhpaaGreatDoor
open Go.RowKit Go.Inq
set_option maxHeartbeats 1000000
attribute [local go_sem↓] Go.wp_at_zero Go.wp_at_succ
theorem KM(A:Option Addr)(c:Nat)(l:List Int)(x:Int)(K:Nat→Prop)(w:World)(h:aM w K (.slice A l.length c) l)(hn:l.length≤maxLen):
 Calls Tryz.prog 117 #[.slice A l.length c,.int .i64 x] w fun e w'=>e= .returned (.int .i64 (Dr l x))∧w=w':=by
 unfold maxLen at hn;have hhit:=hide (fun k=>NJ (l:=l) (x:=x) (k:=k));have hnone:=hide (Ci (l:=l) (x:=x));go_enter Tryz.func117,Tryz.ntmps117;go_wp2_with fail
 go_loop [5,8] (fun s5 s8=>∃k:Nat,k≤l.length∧s8= .int .i64 k∧Hid (∀j (hj:j<l.length),j<k→l[j]≠x)) (fun _ s8=>l.length-(intOf s8).toNat)
 case atStart=>exact⟨0,Nat.zero_le _,by go_num,fun j hj h=>absurd h (by omega)⟩
 case round=>
  obtain⟨k,hk,rfl,hall⟩:=hrel;by_cases hlt:k<l.length
  ·have hi2:(k:Int)<(l.length:Int):=(by omega);obtain⟨b,off,rfl,_,hc⟩:=h.at_ hlt;have hh:=hide (fun g=>hhit.out k hlt g hall.out);have hst:Hid (l[k]≠x→∀j (hj:j<l.length),j<k+1→l[j]≠x):=fun g j hj hjk=>by
    by_cases e:j=k
    ·subst e;exact g
    ·exact hall.out j hj (by omega)
   clear hall;by_cases he:x=l[k]
   ·have hb:(x==l[k])=true:=(by simpa using he);have hr:=hide (hh.out he.symm);clear he hh hst;go_wp2;go_ret;exact⟨dV hr.out.symm,rfl⟩
   ·have hb:(x==l[k])=false:=(by simpa using he);have hn2:=hide (hst.out (fun e=>he e.symm));clear he hh hst;go_wp2
    go_round
    case rel=>exact⟨k+1,by omega,by go_num,hn2⟩
    case measure=>simp[intOf];omega
  ·have hr:=hide (hnone.out fun j hj=>hall.out j hj (by omega));go_wp2;go_ret;exact⟨dV hr.out.symm,rfl⟩
theorem fO(A:Option Addr)(c:Nat)(l:List Int)(x:Int)(K:Nat→Prop)(w:World)(h:aM w K (.slice A l.length c) l)(hn:l.length≤maxLen):
 Calls Tryz.prog 78 #[.slice A l.length c,.int .i64 x] w fun e w'=>e= .returned (.bool (l.contains x))∧w=w':=by
 have hd:=hide (AY l x);go_enter Tryz.func78,Tryz.ntmps78;go_wp2_with fail;refine(KM A c l x K _ h hn).mono ?_;rintro e w1 ⟨rfl,rfl⟩;go_wp2;go_ret;exact⟨by rw[←hd.out];rfl,rfl⟩
end Go.Proofs.YtpjechjoijjhpaaGreatDoor
