/-
  Walks: layer 8: hist.faults, hist.Right.
-/
import Derived.Test.YtpjechjoijjhpaaGreatDoorProg
import Derived.RangeFuncNested
import Derived.RangeFuncBound
import Derived.RangeFuncCalls
import Derived.RangeFuncLeaves
import Derived.RangeFuncBox
import Derived.Shelf.Abstract
import Derived.Shelf.RegionOpen
import Derived.WalkKit
import Derived.OwnWalkIn
import Derived.TacticsInMore
import Derived.LoopNIn
import Derived.LoopIn
import Derived.Deep.CutRange
import Derived.Test.YtpjechjoijjhpaaGreatDoorZ01
import Derived.Test.YtpjechjoijjhpaaGreatDoorZ07
import Derived.Test.YtpjechjoijjhpaaGreatDoorZ02
set_option linter.unusedVariables false
set_option linter.unusedSimpArgs false
namespace Go.Proofs.YtpjechjoijjhpaaGreatDoor
open Go.RowKit Go.Inq Go.Shelf
set_option maxHeartbeats 4000000
attribute [local go_sem] Oper.semAt_some
attribute [local go_sem↓] Go.wp_at_zero Go.wp_at_succ
def gX(H:List Txn)(k:Nat):List Bool:=decide (H.length≤32)::jC H k
theorem NK(H:List Txn):gX H H.length=fB H:=rfl
theorem p9{H:List Txn}{k:Nat}(h:k≤H.length):gX H k<+:fB H:=by
 unfold gX fB jC;rw[List.cons_prefix_cons];refine⟨rfl,?_⟩;obtain⟨m,hm⟩:=Nat.le.dest h;rw[←hm,List.range_add,List.map_append,List.flatten_append];exact List.prefix_append _ _
theorem vM{H:List Txn}{k:Nat}(h:k<H.length):gX H (k+1)=gX H k++wFs H[k].writes H[k].writes.length++rFs H k H[k].reads H[k].reads.length++[eO H[k].bL 8]:=by
 unfold gX;rw[qY,vB h];simp
theorem Qe{l:List Int}{j:Nat}(h:j≤l.length):wFs l j<+:wFs l l.length:=by
 unfold wFs;obtain⟨m,hm⟩:=Nat.le.dest h;rw[←hm,List.range_add,List.map_append];exact List.prefix_append _ _
theorem Qf{H:List Txn}{k:Nat}{l:List It}{j:Nat}(h:j≤l.length):rFs H k l j<+:rFs H k l l.length:=by
 unfold rFs;obtain⟨m,hm⟩:=Nat.le.dest h;rw[←hm,List.range_add,List.map_append];exact List.prefix_append _ _
theorem RN{H:List Txn}{k j:Nat}(h:k<H.length)(hj:j<H[k].writes.length):gX H k++wFs H[k].writes j++[wF H[k].writes j]<+:fB H:=by
 refine List.IsPrefix.trans ?_ (p9 (k:=k+1) (by omega));rw[vM h,List.append_assoc,←tq,List.append_assoc,List.append_assoc];exact(List.prefix_append_right_inj _).2 ((Qe (by omega)).trans (List.prefix_append _ _))
theorem RO{H:List Txn}{k j:Nat}(h:k<H.length)(hj:j<H[k].reads.length):gX H k++wFs H[k].writes H[k].writes.length++rFs H k H[k].reads j++[rF H k H[k].reads j]<+:fB H:=by
 refine List.IsPrefix.trans ?_ (p9 (k:=k+1) (by omega));rw[vM h,List.append_assoc,←yH,List.append_assoc,List.append_assoc,List.append_assoc];exact(List.prefix_append_right_inj _).2 ((List.prefix_append_right_inj _).2 ((Qf (by omega)).trans (List.prefix_append _ _)))
theorem kL{α:Type}{p l:List α}{x:α}(h:p++[x]<+:l):p.length<l.length:=by
 have:=h.length_le;simp at this;omega
theorem RP(H:List Txn):[decide (H.length≤32)]<+:fB H:=p9 (k:=0) (Nat.zero_le _)
structure dU(n₀:Nat)(W W':World):Prop where
 below:Below n₀ W W'
 cells:∀(k:Nat) (o:Obj),W.heap[k]?=some o→o.isCells=true→W'.heap[k]?=some o
theorem dU.refl(n₀:Nat)(W:World):dU n₀ W W:=⟨Below.refl _ _,fun _ _ h _=>h⟩
theorem dU.t{n₀:Nat}{A B C:World}(h:dU n₀ A B)(k:dU n₀ B C):dU n₀ A C:=⟨h.below.trans k.below,fun i o h1 h2=>k.cells i o (h.cells i o h1 h2) h2⟩
theorem dU.b{n₀:Nat}{w:World}(hn:n₀≤w.heap.size)(W:World)(l:Nat)(o o':Obj)(hl:w.heap.size≤l)(h:W.heap[l]?=some o)(hc:o.isCells=false)(hw:o.isWalk=false):dU n₀ W (W.putObj l o'):=
 ⟨belowK_b hn W l o o' hl h hc hw,fun k q h1 h2=>by
  have hne:k≠l:=(by rintro rfl;rw[h]at h1;injection h1 with h1;subst h1;rw[hc]at h2;cases h2);exact(World.putObj_heap_other hne).trans h1⟩
theorem dU.blk{n₀:Nat}{W W':World}(h:dU n₀ W W'){g:Nat}{t:TypeId}{cs:Array Value}(k:Blk W g t cs):Blk W' g t cs:=h.cells g _ k rfl
theorem G6{l:List Int}{j:Nat}(h:j<l.length):j6 (l.take (j+1))=l[j]:=by
 rw[List.take_succ_eq_append_getElem h,mY]
theorem G7{l:List It}{j:Nat}(h:j<l.length):j6 ((l.take (j+1)).map (·.a))=l[j].a:=by
 rw[List.take_succ_eq_append_getElem h,List.map_append,List.map_cons,List.map_nil,mY]
set_option maxRecDepth 100000 in
theorem G8 (n:Nat) (hn:1≤n) (l Bh n₀ c:Nat) (A:Option Addr) (H:List Txn) (hH:H.length≤1000000) (hHs:∀t∈H,t.writes.length≤1000000∧t.reads.length≤1000000) (J Jx:List Bool→World→Prop) (W:World)
 (hJ:AbidesFrom W.heap.size J)
 (hY:∀pre x W,J pre W→pre.length<(fB H).length→YieldAt Fence.wide (n-1) Tryz.prog l #[.bool x] W fun e W'=>
  (e= .returned (.bool true)∧J (pre++[x]) W'∧dU n₀ W W')∨(e= .returned (.bool false)∧Jx (pre++[x]) W'))
 (hBh:W.cell? ⟨Bh,0,none⟩=some (.slice A H.length c)) (hBn:Bh<n₀) (hnW:n₀≤W.heap.size) (hT:aC W (fun b=>b<n₀) (.slice A H.length c) H) (h0:J [] W):
 CallsIn Fence.wide n Tryz.prog 151 #[.func (.yield l) #[] #[],.pointer (some ⟨Bh,0,none⟩)] W fun e W'=>(∃v,e= .returned v)∧
  ((∃ys,ys=fB H∧J ys W')∨(∃pre,pre<+:fB H∧Jx pre W')):=by
 have hro:Fence.wide.round=none:=rfl;have hN0:([]:List Bool).length<(fB H).length:=kL (p:=[]) (RP H);refine callsIn_of_wp Tryz.func151 rfl trivial ?_ hro;simp only[Tryz.ntmps151,List.size_toArray,List.length_cons,List.length_nil,Nat.reduceAdd,Nat.reduceSub,Array.replicate_succ,Array.replicate_zero,List.push_toArray,List.append_toArray,List.nil_append,List.cons_append];have hd:∀b,decide (H.length≤32)=b→decide ((H.length:Int)≤32)=b:=fun b h=>(by rw[←h,Bool.eq_iff_iff];simp;omega);generalize hb:decide (H.length≤32)=b0;have hd2:=hd b0 hb;have hx0:[]++[b0]=gX H 0:=(by rw[←hb];rfl);clear hd hb;obtain⟨fn,tmps,assign,body,hy,hR⟩:=hY [] b0 W h0 hN0
 gi_wp2
 refine hR.mono ?_;clear hR hy fn tmps assign body;rintro e W3 (⟨rfl,hJ3,hk3⟩|⟨rfl,hJx3⟩)
 ·rw[hx0]at hJ3;have c0:W3.cell? ⟨Bh,0,none⟩=some (.slice A H.length c):=(hk3.below.cell (p:=⟨Bh,0,none⟩) hBn).trans hBh;have hT3:=aC.keep hT (Agree.below hk3.below (fun b h=>h)) (fun b h=>h)
  gi_wp2
  have KN:n₀≤W3.heap.size:=Nat.le_trans hnW hk3.below.size
  gi_loopw [21] (fun s21 wr=>∃k:Nat,k≤H.length∧s21= .int .i64 k∧J (gX H k) wr∧Below n₀ W3 wr) (fun s21 _=>H.length-(intOf s21).toNat)
  case atStart=>exact⟨0,Nat.zero_le _,by go_num,hJ3,Below.refl _ _⟩
  case round=>
   obtain⟨k,hk,rfl,hJs,hb⟩:=hrel;have hk1:(0:Int)≤(k:Int):=Int.natCast_nonneg _;by_cases hlt:k<H.length
   ·have hi2:(k:Int)<(H.length:Int):=(by omega);obtain⟨b,off,Aw,cw,Ar,cr,rfl,hbK,d0',d1',d2',hws,hrs⟩:=aC.at_ hT3 hlt;have d0:=(hb.cell (p:=⟨b,off+k*3,none⟩) hbK).trans d0';have d1:=(hb.cell (p:=⟨b,off+k*3+1,none⟩) hbK).trans d1';have d2:=(hb.cell (p:=⟨b,off+k*3+2,none⟩) hbK).trans d2';clear d0' d1' d2';have htw:=fun j=>RN (j:=j) hlt;have htr:=fun j=>RO (j:=j) hlt;have hts:=vM hlt;obtain⟨q1,q2⟩:=hHs _ (List.getElem_mem hlt);generalize H[k]=t at*;obtain⟨ts,ws,rs⟩:=t;dsimp only at*;replace htw:=hide htw;replace htr:=hide htr;replace hts:=hide hts;have hJ4:J (gX H k) (wr.alloc (.cells #[.int .i64 ts,.slice Aw ws.length cw,.slice Ar rs.length cr] 60)):=hJ _ _ _ none hJs (World.grownBy_alloc wr _ none) (fun r e=>by cases e);have hb4:Below n₀ W3 (wr.alloc (.cells #[.int .i64 ts,.slice Aw ws.length cw,.slice Ar rs.length cr] 60)):=hb.alloc (Nat.le_trans KN hb.size) _;have kT:Blk (wr.alloc (.cells #[.int .i64 ts,.slice Aw ws.length cw,.slice Ar rs.length cr] 60)) wr.heap.size 60 #[.int .i64 ts,.slice Aw ws.length cw,.slice Ar rs.length cr]:=Blk.new _ _ _;have e1:=Blk.n1 kT;have hB:n₀≤wr.heap.size:=Nat.le_trans KN hb.size
    gi_wp2
    generalize hWo:wr.alloc (.cells #[.int .i64 ts,.slice Aw ws.length cw,.slice Ar rs.length cr] 60)=Wo at*;generalize wr.heap.size=B4 at*
    gi_loopw [5,7,29] (fun s5 s7 s29 wq=>∃j:Nat,j≤ws.length∧s29= .int .i64 j∧s5= .int .i64 (j6 (ws.take j))∧J (gX H k++wFs ws j) wq∧Below n₀ W3 wq∧Blk wq B4 60 #[.int .i64 ts,.slice Aw ws.length cw,.slice Ar rs.length cr]) (fun _ _ s29 _=>ws.length-(intOf s29).toNat)
    case atStart=>exact⟨0,Nat.zero_le _,by go_num,rfl,by simpa[wFs]using hJ4,hb4,kT⟩
    case round=>
     obtain⟨j,hj,rfl,rfl,hJs,hb,kT⟩:=hrel;have hj1:(0:Int)≤(j:Int):=Int.natCast_nonneg _;by_cases hjl:j<ws.length
     ·have hj2:(j:Int)<(ws.length:Int):=(by omega);obtain⟨bw,ow,rfl,hbw,ec⟩:=aM.at_ (aM.keep hws (Agree.below hb fun b h=>h) (fun b h=>h)) hjl;have hpre:=htw.out j hjl;have hstp:=hide (tq ws j);have hlk:=hide (G6 hjl);have hwf:=BO hjl;generalize ws[j]=key at*;generalize j6 (ws.take j)=last at*;by_cases k1:last<key
      ·have k1b:decide (key>last)=true:=(by simpa using k1);by_cases k2:key<16
       ·have k2b:decide (key<16)=true:=(by simpa using k2);have hwf:wF ws j=true:=(by rw[hwf];simp[k1,k2]);rw[hwf]at hpre hstp;clear hwf;have hN:=kL hpre;obtain⟨fn,tmps,assign,body,hy,hR⟩:=hY _ true wr hJs hN
        gi_wp2
        refine hR.mono ?_;clear hR hy fn tmps assign body;rintro e W4 (⟨rfl,hJ5,hk5⟩|⟨rfl,nO⟩)
        ·have kT5:=hk5.blk kT;have hb5:=hb.trans hk5.below;rw[List.append_assoc,←hstp.out]at hJ5
         gi_wp2
         go_roundw;case rel=>exact⟨j+1,by omega,by go_num,by rw[hlk.out],hJ5,hb5,kT5⟩
         case measure=>simp[intOf];omega
        ·gi_wp2
         refine bodyPost_ret (results_none rfl _ _ _) rfl ?_;exact⟨⟨_,rfl⟩,.inr ⟨_,hpre,nO⟩⟩
       ·have k2b:decide (key<16)=false:=(by simpa using k2);have hwf:wF ws j=false:=(by rw[hwf];simp[k2]);rw[hwf]at hpre hstp;clear hwf;have hN:=kL hpre;obtain⟨fn,tmps,assign,body,hy,hR⟩:=hY _ false wr hJs hN
        gi_wp2
        refine hR.mono ?_;clear hR hy fn tmps assign body;rintro e W4 (⟨rfl,hJ5,hk5⟩|⟨rfl,nO⟩)
        ·have kT5:=hk5.blk kT;have hb5:=hb.trans hk5.below;rw[List.append_assoc,←hstp.out]at hJ5
         gi_wp2
         go_roundw;case rel=>exact⟨j+1,by omega,by go_num,by rw[hlk.out],hJ5,hb5,kT5⟩
         case measure=>simp[intOf];omega
        ·gi_wp2
         refine bodyPost_ret (results_none rfl _ _ _) rfl ?_;exact⟨⟨_,rfl⟩,.inr ⟨_,hpre,nO⟩⟩
      ·have k1b:decide (key>last)=false:=(by simpa using k1);have hwf:wF ws j=false:=(by rw[hwf];simp[k1]);rw[hwf]at hpre hstp;clear hwf;have hN:=kL hpre;obtain⟨fn,tmps,assign,body,hy,hR⟩:=hY _ false wr hJs hN
       gi_wp2
       refine hR.mono ?_;clear hR hy fn tmps assign body;rintro e W4 (⟨rfl,hJ5,hk5⟩|⟨rfl,nO⟩)
       ·have kT5:=hk5.blk kT;have hb5:=hb.trans hk5.below;rw[List.append_assoc,←hstp.out]at hJ5
        gi_wp2
        go_roundw;case rel=>exact⟨j+1,by omega,by go_num,by rw[hlk.out],hJ5,hb5,kT5⟩
        case measure=>simp[intOf];omega
       ·gi_wp2
        refine bodyPost_ret (results_none rfl _ _ _) rfl ?_;exact⟨⟨_,rfl⟩,.inr ⟨_,hpre,nO⟩⟩
     ·obtain rfl:j=ws.length:=(by omega);have e2:=Blk.n2 kT
      gi_wp2
      generalize wr=Wp at*
      gi_loopw [5,48] (fun s5 s48 wq=>∃j:Nat,j≤rs.length∧s48= .int .i64 j∧s5= .int .i64 (j6 ((rs.take j).map (·.a)))∧J (gX H k++wFs ws ws.length++rFs H k rs j) wq∧Below n₀ W3 wq∧Blk wq B4 60 #[.int .i64 ts,.slice Aw ws.length cw,.slice Ar rs.length cr]) (fun _ s48 _=>rs.length-(intOf s48).toNat)
      case atStart=>exact⟨0,Nat.zero_le _,by go_num,rfl,by simpa[rFs]using hJs,hb,kT⟩
      case round=>
       clear hJs hb kT e2 e1;obtain⟨j,hj,rfl,rfl,hJs,hb,kT⟩:=hrel;have hj1:(0:Int)≤(j:Int):=Int.natCast_nonneg _;by_cases hjl:j<rs.length
       ·have hj2:(j:Int)<(rs.length:Int):=(by omega);obtain⟨bw,ow,rfl,hbw,ec0,ec1⟩:=ItS.at_ (ItS.keep hrs (Agree.below hb fun b h=>h) (fun b h=>h)) hjl;have hpre:=htr.out j hjl;have hstp:=hide (yH H k rs j);have hlk:=hide (G7 hjl);have hwf:=M8 (H:=H) (n:=k) hjl;generalize rs[j]=x at*;obtain⟨xa,xb⟩:=x;dsimp only at ec0 ec1 hlk hwf;generalize j6 ((rs.take j).map (·.a))=last at*;replace hwf:=hide hwf;replace hpre:=hide hpre;have hBw:n₀≤wr.heap.size:=Nat.le_trans KN hb.size;have hJ6:J (gX H k++wFs ws ws.length++rFs H k rs j) (wr.alloc (.cells #[.int .i64 xa,.int .i64 xb] 57)):=hJ _ _ _ none hJs (World.grownBy_alloc wr _ none) (fun r e=>by cases e);have hb6:Below n₀ W3 (wr.alloc (.cells #[.int .i64 xa,.int .i64 xb] 57)):=hb.alloc hBw _;have kT6:Blk (wr.alloc (.cells #[.int .i64 xa,.int .i64 xb] 57)) B4 60 #[.int .i64 ts,.slice Aw ws.length cw,.slice (some ⟨bw,ow,none⟩) rs.length cr]:=kT.alloc _;have kX:Blk (wr.alloc (.cells #[.int .i64 xa,.int .i64 xb] 57)) wr.heap.size 57 #[.int .i64 xa,.int .i64 xb]:=Blk.new _ _ _;clear hJs hb kT
        gi_wp2
        generalize wr.alloc (.cells #[.int .i64 xa,.int .i64 xb] 57)=Wx at*;generalize wr.heap.size=Bx at*;clear ec0 ec1;have x0:=Blk.n0 kX;have x1:=Blk.n1 kX;have cH:Wx.cell? ⟨Bh,0,none⟩=some (.slice (some ⟨b,off,none⟩) H.length c):=(hb6.cell (p:=⟨Bh,0,none⟩) hBn).trans c0;obtain⟨tb,htb⟩:∃tb,tb=jL H k ⟨xa,xb⟩:=⟨_,rfl⟩;replace htb:=hide htb;refine wpIn_wide.2 ?_;go_cut [10] from 52 to 85 (fun s10 wz=>s10= .bool tb∧∃nq,wz=Wx.drewN nq);case first=>
         clear hpre hstp hlk hwf hJ6;by_cases g1:xb= -1
         ·subst g1;have ht:tb=true:=(by rw[htb.out];simp[jL]);subst ht;go_quiet (fail);go_wp2
          go_meet
          case rel=>exact⟨rfl,_,rfl⟩
         ·have ht:tb=(decide (0≤xb)&&decide (xb<(H.length:Int))&&xb !=(k:Int)&&(M7 H xb).contains xa):=(by rw[htb.out];simp[jL,g1]);replace ht:=hide ht;clear htb;have g1b:(xb== -1)=false:=(by simpa using g1);by_cases g2:0≤xb
          ·have g2b:decide (xb≥0)=true:=(by simpa using g2);by_cases g3:xb<(H.length:Int)
           ·have g3b:decide (xb<(H.length:Int))=true:=(by simpa using g3);by_cases g4:xb=(k:Int)
            ·have g4b:(xb !=(k:Int))=false:=(by simp[g4]);have ht:tb=false:=(by rw[ht.out,g4b];simp);subst ht;clear g4;go_quiet (fail);go_wp2
             go_meet
             case rel=>exact⟨rfl,_,rfl⟩
            ·obtain⟨m,rfl⟩:∃m:Nat,xb=m:=⟨xb.toNat,by omega⟩;have g4b:((m:Int) !=(k:Int))=true:=(by simpa using g4);have g4c:(m !=k)=true:=(by simp;omega);have hm:m<H.length:=(by omega);obtain⟨b',off',Aw',cw',Ar',cr',hA',_,_,y1,_,NM,_⟩:=aC.at_ (aC.keep hT3 (Agree.below hb6 fun b h=>h) (fun b h=>h)) hm;injection hA' with hA'
             injection hA' with hA1 hA2
             subst hA1 hA2;have hl':=(hHs _ (List.getElem_mem hm)).1;have ht:tb=H[m].writes.contains xa:=(by rw[ht.out,g3b,g4b];simp[M7,hm]);subst ht;generalize H[m].writes=ws' at*;clear g4 g1 g2;go_quiet ((go_at_call 78;exact Calls.quiet_of_same ((fO _ _ ws' xa (fun b=>b<n₀) _ (aM.keep NM (Agree.drewN _ _ _) (fun _ h=>h)) (by unfold maxLen;omega)).mono fun _ _ h=>⟨h.1,h.2.symm⟩)));go_wp2
             go_meet
             case rel=>exact⟨by simp,_,rfl⟩
           ·have g3b:decide (xb<(H.length:Int))=false:=(by simpa using g3);have ht:tb=false:=(by rw[ht.out,g3b];simp);subst ht;go_quiet (fail);go_wp2
            go_meet
            case rel=>exact⟨rfl,_,rfl⟩
          ·have g2b:decide (xb≥0)=false:=(by simpa using g2);have ht:tb=false:=(by rw[ht.out];simp[g2]);subst ht;go_quiet (fail);go_wp2
           go_meet
           case rel=>exact⟨rfl,_,rfl⟩
        case rest=>
         obtain⟨rfl,nq,rfl⟩:=hcut;have hJ7:J (gX H k++wFs ws ws.length++rFs H k rs j) (Wx.drewN nq):=hJ _ _ _ none hJ6 ⟨rfl,rfl,rfl,Nat.le_refl _,fun _ _ _=>rfl⟩ (fun r e=>by cases e);have hb7:Below n₀ W3 (Wx.drewN nq):=hb6.trans ⟨rfl,rfl,rfl,Nat.le_refl _,fun _ _=>rfl⟩;replace hwf:=hwf.out;rw[←htb.out]at hwf;replace hpre:=hpre.out;clear htb hJ6 hb6 cH x1;by_cases k1:last<xa
         ·have k1b:decide (xa>last)=true:=(by simpa using k1);by_cases k2:xa<16
          ·have k2b:decide (xa<16)=true:=(by simpa using k2);have hwf:rF H k rs j=tb:=(by rw[hwf];simp[k1,k2]);rw[hwf]at hpre hstp;clear hwf;have hN:=kL hpre;obtain⟨fn,tmps,assign,body,hy,hR⟩:=hY _ tb (Wx.drewN nq) hJ7 hN
           gi_wp2
           refine hR.mono ?_;clear hR hy fn tmps assign body;rintro e W4 (⟨rfl,hJ5,hk5⟩|⟨rfl,nO⟩)
           ·have kT5:=hk5.blk (kT6.drewN nq);have kX5:=hk5.blk (kX.drewN nq);have z0:=Blk.n0 kX5;have hb5:=hb7.trans hk5.below;rw[List.append_assoc,←hstp.out]at hJ5;clear kX kT6 hJ7 hb7 kX5 hk5
            gi_wp2
            go_roundw;case rel=>exact⟨j+1,by omega,by go_num,by rw[hlk.out],hJ5,hb5,kT5⟩
            case measure=>simp[intOf];omega
           ·gi_wp2
            refine bodyPost_ret (results_none rfl _ _ _) rfl ?_;exact⟨⟨_,rfl⟩,.inr ⟨_,hpre,nO⟩⟩
          ·have k2b:decide (xa<16)=false:=(by simpa using k2);have hwf:rF H k rs j=false:=(by rw[hwf];simp[k2]);rw[hwf]at hpre hstp;clear hwf;have hN:=kL hpre;obtain⟨fn,tmps,assign,body,hy,hR⟩:=hY _ false (Wx.drewN nq) hJ7 hN
           gi_wp2
           refine hR.mono ?_;clear hR hy fn tmps assign body;rintro e W4 (⟨rfl,hJ5,hk5⟩|⟨rfl,nO⟩)
           ·have kT5:=hk5.blk (kT6.drewN nq);have kX5:=hk5.blk (kX.drewN nq);have z0:=Blk.n0 kX5;have hb5:=hb7.trans hk5.below;rw[List.append_assoc,←hstp.out]at hJ5;clear kX kT6 hJ7 hb7 kX5 hk5
            gi_wp2
            go_roundw;case rel=>exact⟨j+1,by omega,by go_num,by rw[hlk.out],hJ5,hb5,kT5⟩
            case measure=>simp[intOf];omega
           ·gi_wp2
            refine bodyPost_ret (results_none rfl _ _ _) rfl ?_;exact⟨⟨_,rfl⟩,.inr ⟨_,hpre,nO⟩⟩
         ·have k1b:decide (xa>last)=false:=(by simpa using k1);have hwf:rF H k rs j=false:=(by rw[hwf];simp[k1]);rw[hwf]at hpre hstp;clear hwf;have hN:=kL hpre;obtain⟨fn,tmps,assign,body,hy,hR⟩:=hY _ false (Wx.drewN nq) hJ7 hN
          gi_wp2
          refine hR.mono ?_;clear hR hy fn tmps assign body;rintro e W4 (⟨rfl,hJ5,hk5⟩|⟨rfl,nO⟩)
          ·have kT5:=hk5.blk (kT6.drewN nq);have kX5:=hk5.blk (kX.drewN nq);have z0:=Blk.n0 kX5;have hb5:=hb7.trans hk5.below;rw[List.append_assoc,←hstp.out]at hJ5;clear kX kT6 hJ7 hb7 kX5 hk5
           gi_wp2
           go_roundw;case rel=>exact⟨j+1,by omega,by go_num,by rw[hlk.out],hJ5,hb5,kT5⟩
           case measure=>simp[intOf];omega
          ·gi_wp2
           refine bodyPost_ret (results_none rfl _ _ _) rfl ?_;exact⟨⟨_,rfl⟩,.inr ⟨_,hpre,nO⟩⟩
       ·obtain rfl:j=rs.length:=(by omega);have f0:=Blk.n0 kT;have hpre:gX H k++wFs ws ws.length++rFs H k rs rs.length++[eO ts 8]<+:fB H:=(by rw[←hts.out];exact p9 (by omega));by_cases g1:0≤ts
        ·have g1b:decide (ts≥0)=true:=(by simpa using g1);by_cases g2:ts<8
         ·have g2b:decide (ts<8)=true:=(by simpa using g2);have hwf:eO ts 8=true:=(by simp[eO,g1,g2]);rw[hwf]at hpre hts;clear hwf;have hN:=kL hpre;obtain⟨fn,tmps,assign,body,hy,hR⟩:=hY _ true wr hJs hN
          gi_wp2
          refine hR.mono ?_;clear hR hy fn tmps assign body;rintro e W4 (⟨rfl,hJ5,hk5⟩|⟨rfl,nO⟩)
          ·have hb5:=hb.trans hk5.below;rw[←hts.out]at hJ5
           gi_wp2
           go_roundw;case rel=>exact⟨k+1,by omega,by go_num,hJ5,hb5⟩
           case measure=>simp[intOf];omega
          ·gi_wp2
           refine bodyPost_ret (results_none rfl _ _ _) rfl ?_;exact⟨⟨_,rfl⟩,.inr ⟨_,hpre,nO⟩⟩
         ·have g2b:decide (ts<8)=false:=(by simpa using g2);have hwf:eO ts 8=false:=(by simp[eO,g2]);rw[hwf]at hpre hts;clear hwf;have hN:=kL hpre;obtain⟨fn,tmps,assign,body,hy,hR⟩:=hY _ false wr hJs hN
          gi_wp2
          refine hR.mono ?_;clear hR hy fn tmps assign body;rintro e W4 (⟨rfl,hJ5,hk5⟩|⟨rfl,nO⟩)
          ·have hb5:=hb.trans hk5.below;rw[←hts.out]at hJ5
           gi_wp2
           go_roundw;case rel=>exact⟨k+1,by omega,by go_num,hJ5,hb5⟩
           case measure=>simp[intOf];omega
          ·gi_wp2
           refine bodyPost_ret (results_none rfl _ _ _) rfl ?_;exact⟨⟨_,rfl⟩,.inr ⟨_,hpre,nO⟩⟩
        ·have g1b:decide (ts≥0)=false:=(by simpa using g1);have hwf:eO ts 8=false:=(by simp[eO,g1]);rw[hwf]at hpre hts;clear hwf;have hN:=kL hpre;obtain⟨fn,tmps,assign,body,hy,hR⟩:=hY _ false wr hJs hN
         gi_wp2
         refine hR.mono ?_;clear hR hy fn tmps assign body;rintro e W4 (⟨rfl,hJ5,hk5⟩|⟨rfl,nO⟩)
         ·have hb5:=hb.trans hk5.below;rw[←hts.out]at hJ5
          gi_wp2
          go_roundw;case rel=>exact⟨k+1,by omega,by go_num,hJ5,hb5⟩
          case measure=>simp[intOf];omega
         ·gi_wp2
          refine bodyPost_ret (results_none rfl _ _ _) rfl ?_;exact⟨⟨_,rfl⟩,.inr ⟨_,hpre,nO⟩⟩
   ·obtain rfl:k=H.length:=by omega
    gi_wp2
    go_end0
    exact⟨⟨_,rfl⟩,.inl ⟨_,NK H,hJs⟩⟩
 ·rw[hx0]at hJx3
  gi_wp2
  refine bodyPost_ret (results_none rfl _ _ _) rfl ?_;exact⟨⟨_,rfl⟩,.inr ⟨_,p9 (Nat.zero_le _),hJx3⟩⟩
end Go.Proofs.YtpjechjoijjhpaaGreatDoor
