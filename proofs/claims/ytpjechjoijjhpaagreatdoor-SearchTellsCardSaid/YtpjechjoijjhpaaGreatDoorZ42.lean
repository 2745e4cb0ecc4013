/-
  Walks: layer 18's reference: the first pair that choices do not decide. (Under way.)
-/
import Derived.Test.YtpjechjoijjhpaaGreatDoorZ24
import Derived.Test.YtpjechjoijjhpaaGreatDoorZ30
import Derived.Test.YtpjechjoijjhpaaGreatDoorZ31
set_option linter.unusedVariables false
set_option linter.unusedSimpArgs false
namespace Go.Proofs.YtpjechjoijjhpaaGreatDoor
open Go.RowKit Go.Inq
set_option maxHeartbeats 4000000
attribute [local go_sem↓] Go.wp_at_zero Go.wp_at_succ
set_option maxRecDepth 100000 in
theorem Gm(A:Option Addr)(c:Nat)(H:List Txn)(Al:Option Addr)(cl:Nat)(l:List Cho)(w:World)(h:aC w (Old w) (.slice A H.length c) H)(hn:aA H)(hl:aV w (Old w) (.slice Al l.length cl) l)(hr:aG H=true)(hln:l.length≤1000000):
 Calls Tryz.prog 31 #[.agg #[.slice A H.length c],.slice Al l.length cl] w fun e w'=>e= .returned (Qz (mG H l))∧Below w.heap.size w w':=by
 obtain⟨W0,hW0⟩:∃W0,(w.alloc (.cells #[.slice A H.length c] 24)).alloc (.cells #[.int .i64 0,.int .i64 0,.int .i64 0] 62)=W0:=⟨_,rfl⟩;have hB:=aF hW0;have k0:=Blk.fG hW0;have kr:=Blk.eP hW0;have hpa:=hide (DZ A c H W0 (h.below hB) hr hn);have hco:=hide (fun(x:Cho) W (hb:Below w.heap.size w W)=>qQ Al cl l x W (hl.below hb) hln);have hhit:=hide (fun k (hk:k<(dD H).length)=>FK (p:=uO l) hk);have wo:=hide (CK (p:=uO l) (l:=dD H));obtain⟨o,ho⟩:∃o,mG H l=o:=⟨_,rfl⟩;have ho2:(dD H).find? (uO l)=o:=ho;rw[ho2]at hhit wo;rw[ho];have hlen:=yL (H:=H) hr;have c0:=Blk.n0 k0;clear h hr hl ho ho2;go_enter Tryz.func31,Tryz.ntmps31;go_wp2_with fail;clear hW0;refine hpa.out.mono ?_;rintro e w2 ⟨v,rfl,hP,hb2⟩;have hB2:=hB.trans (hb2.mono hB.size);replace kr:=kr.below hb2 kr.lt;obtain⟨Ap,cp,rfl⟩:=hP.form;have hPS:=hide (hP.sl (K:=fun b=>b<w2.heap.size) (fun g _ h2=>h2));have hk2:w.heap.size+1<w2.heap.size:=kr.lt;clear hpa hb2 hB c0 k0 hP;generalize dD H=P at*;go_wp2_with fail;go_loopw [7] (fun s7 wr=>∃k:Nat,k≤P.length∧s7= .int .i64 (k:Int)∧Hid (∀j (hj:j<P.length),j<k→uO l P[j]=false)∧Below w.heap.size w wr∧Below w2.heap.size w2 wr∧Blk wr (w.heap.size+1) 62 #[.int .i64 0,.int .i64 0,.int .i64 0]) (fun s7 _=>P.length-(intOf s7).toNat);case atStart=>exact⟨0,by omega,by go_num,hide fun j _ hj=>absurd hj (by omega),hB2,Below.refl _ _,kr⟩
 case round=>
  clear kr hB2;obtain⟨Wo,rfl⟩:∃Wo,Wo=wr:=⟨_,rfl⟩;obtain⟨k,hk,rfl,hall,hb,hb',kr⟩:=hrel;have hk0:(0:Int)≤(k:Int):=Int.natCast_nonneg _;by_cases hlt:k<P.length
  ·have hk1:(k:Int)<(P.length:Int):=(by omega);obtain⟨b,off,rfl,-,d0,d1,d2⟩:=aV.at_ (aV.keep hPS.out (Agree.below hb' fun b h=>h) (fun b h=>h)) hlt;have hd:Hid (∀W,Below w2.heap.size w2 W→W.cell? ⟨b,off+k*3,none⟩=some (.int .i64 P[k].key)∧W.cell? ⟨b,off+k*3+1,none⟩=some (.int .i64 P[k].a)∧W.cell? ⟨b,off+k*3+2,none⟩=some (.int .i64 P[k].b)):=hide (fun W hbW=>by
    obtain⟨b',off',e,-,q⟩:=aV.at_ (aV.keep hPS.out (Agree.below hbW fun b h=>h) (fun b h=>h)) hlt;cases e;exact q)
   have hhk:=hide (hhit.out k hlt hall.out);have zL:Hid (uO l P[k]=false→∀j (hj:j<P.length),j<k+1→uO l P[j]=false):=fun g j hj hjk=>by
    by_cases e:j=k
    ·subst e;exact g
    ·exact hall.out j hj (by omega)
   have sO:Hid (uO l P[k]=(!l.contains P[k]&& !l.contains (bD P[k]))):=hide rfl;generalize P[k]=p at*;obtain⟨pk,pa,pb⟩:=p;dsimp only at d0 d1 d2;have ht:Hid (bD ⟨pk,pa,pb⟩=⟨pk,pb,pa⟩):=hide rfl;rw[ht.out]at sO;have hc1:=hide (hco.out ⟨pk,pa,pb⟩ Wo hb);have hc2:=hide (hco.out ⟨pk,pb,pa⟩);dsimp only at hc1 hc2;generalize l.contains (⟨pk,pa,pb⟩:Cho)=q1 at*;generalize l.contains (⟨pk,pb,pa⟩:Cho)=q2 at*;clear hhit wo hall hco ht;go_wp2_with fail;refine hc1.out.mono ?_;rintro e w3 ⟨rfl,hb3⟩;have Bp:=hb.trans (hb3.mono hb.size);have Bq:=hb'.trans (hb3.mono hb'.size);have kr3:=kr.below hb3 kr.lt;obtain⟨d0,d1,d2⟩:=hd.out w3 Bq;clear hc1 hb3 kr hb hb';go_wp2_with fail;refine(iJ pk pa pb w3).mono ?_;rintro e w4 ⟨rfl,Bu⟩;have QY:=Bp.trans (Bu.mono Bp.size);have Tt:=Bq.trans (Bu.mono Bq.size);have Tv:=kr3.below Bu kr3.lt;have hc3:=hide (hc2.out w4 QY);clear hc2 Bu Bp Bq kr3 d0 d1 d2;go_wp2_with fail;refine hc3.out.mono ?_;rintro e w5 ⟨rfl,hb5⟩;have hb4:=QY.trans (hb5.mono QY.size);have k4:=Tt.trans (hb5.mono Tt.size);have kr4:=Tv.below hb5 Tv.lt;clear hc3 hb5 QY Tt Tv;cases q1 with
   |true=>
    have hnx:=hide (zL.out (by rw[sO.out];rfl));clear zL sO hhk hd;go_wp2;go_roundw;case rel=>exact⟨k+1,by omega,by go_num,hnx,by simpa using hb4,k4,kr4⟩
    case measure=>simp[intOf];omega
   |false=>
    cases q2 with
    |true=>
     have hnx:=hide (zL.out (by rw[sO.out];rfl));clear zL sO hhk hd;go_wp2;go_roundw;case rel=>exact⟨k+1,by omega,by go_num,hnx,by simpa using hb4,k4,kr4⟩
     case measure=>simp[intOf];omega
    |false=>
     obtain rfl:=hhk.out (by rw[sO.out];rfl);obtain⟨a0,a1,a2⟩:=hd.out w5 k4;have z0:=Blk.n0 kr4;have z1:=Blk.n1 kr4;have z2:=Blk.n2 kr4;have f0:=kr4.frozen 0;have f1:=kr4.frozen 1;have f2:=kr4.frozen 2;have hz:=hide (((hb4.setCell (p:=⟨w.heap.size+1,0,none⟩) (Nat.le_succ _) (.int .i64 pk)).setCell (p:=⟨w.heap.size+1,1,none⟩) (Nat.le_succ _) (.int .i64 pa)).setCell (p:=⟨w.heap.size+1,2,none⟩) (Nat.le_succ _) (.int .i64 pb));have hq:=((kr4.aH 0 (.int .i64 pk)).aH 1 (.int .i64 pa)).aH 2 (.int .i64 pb);simp only[sA,sZ,sS]at hq;have y0:=Blk.n0 hq;have y1:=Blk.n1 hq;have y2:=Blk.n2 hq;clear zL sO hhk kr4 hq k4 hb4 hd;go_wp2_with fail;exact bodyPost_ret (v:= .tuple #[.agg #[.int .i64 pk,.int .i64 pa,.int .i64 pb],.bool true]) (by simp[results,Tryz.results31,go_sem,y0,y1,y2]) rfl ⟨rfl,hz.out⟩
  ·obtain rfl:k=P.length:=(by omega);obtain rfl:=wo.out fun j hj=>hall.out j hj hj;have z0:=Blk.n0 kr;have z1:=Blk.n1 kr;have z2:=Blk.n2 kr;have f0:=kr.frozen 0;have f1:=kr.frozen 1;have f2:=kr.frozen 2;have hz:=hide (((hb.setCell (p:=⟨w.heap.size+1,0,none⟩) (Nat.le_succ _) (.int .i64 0)).setCell (p:=⟨w.heap.size+1,1,none⟩) (Nat.le_succ _) (.int .i64 0)).setCell (p:=⟨w.heap.size+1,2,none⟩) (Nat.le_succ _) (.int .i64 0));have hq:=((kr.aH 0 (.int .i64 0)).aH 1 (.int .i64 0)).aH 2 (.int .i64 0);simp only[sA,sZ,sS]at hq;have y0:=Blk.n0 hq;have y1:=Blk.n1 hq;have y2:=Blk.n2 hq;clear hhit wo hall kr hq hb' hb;go_wp2_with fail;exact bodyPost_ret (v:= .tuple #[.agg #[.int .i64 0,.int .i64 0,.int .i64 0],.bool false]) (by simp[results,Tryz.results31,go_sem,y0,y1,y2]) rfl ⟨rfl,hz.out⟩
end Go.Proofs.YtpjechjoijjhpaaGreatDoor
