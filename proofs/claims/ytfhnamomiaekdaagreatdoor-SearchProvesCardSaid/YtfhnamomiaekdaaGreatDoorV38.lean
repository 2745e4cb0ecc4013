/-
  Walks: layer 27: the certificate of a tree.
-/
import Derived.Test.YtfhnamomiaekdaaGreatDoorV37
import Derived.Test.YtfhnamomiaekdaaGreatDoorV05
set_option linter.unusedVariables false
set_option linter.unusedSimpArgs false
namespace Go.Proofs.YtfhnamomiaekdaaGreatDoor
open Go.RowKit Go.Inq
set_option maxHeartbeats 4000000
attribute [local go_sem↓] Go.wp_at_zero Go.wp_at_succ
def wCt(g base:Nat)(level:Int)(M:List Nod):Wrd:=⟨[94,125,3],fun _ W=>∃v,Blk W g 94 #[.int .i64 level,.bool false,.slice none 0 0,.slice none 0 0,v]∧bX W base v M,fun _ _ _ _ _ h hT k=>by
 obtain⟨v,h1,h2⟩:=k;refine⟨v,hT.blk h1 (h _ (by simp)),hT.xO fE.aO h2 fun t ht=> ?_⟩;simp only[List.mem_cons,List.not_mem_nil,or_false]at ht;rcases ht with rfl|rfl<;>exact h _ (by simp)⟩
theorem Je{K:Nat→Prop}{W:World}{g:Nat}{x0 x1 x2 x3 x4:Value}(h1:¬K g):
 Agree K W (((((W.setCell ⟨g,0,none⟩ x0).setCell ⟨g,1,none⟩ x1).setCell ⟨g,2,none⟩ x2).setCell ⟨g,3,none⟩ x3).setCell ⟨g,4,none⟩ x4):=
 ((((Agree.setCell ⟨g,0,none⟩ h1 x0).trans (Agree.setCell ⟨g,1,none⟩ h1 x1)).trans (Agree.setCell ⟨g,2,none⟩ h1 x2)).trans (Agree.setCell ⟨g,3,none⟩ h1 x3)).trans (Agree.setCell ⟨g,4,none⟩ h1 x4)
set_option maxRecDepth 100000 in
theorem Mw(level:Int)(At:Option Addr)(ct:Nat)(tree:List Nod)(w:World)(ht:bJ w (Old w) (.slice At tree.length ct) tree)(hN:u7 tree):
 Calls Tryz.prog 49 #[.int .i64 level,.slice At tree.length ct] w (Q8 w level false [] [] tree):=by
 obtain⟨ino,xP,nZ,og,mD⟩:=info_parts tT;have htl:=hN.1;replace ht:=hide ht;replace hN:=hide hN;obtain⟨W0,hW0⟩:∃W0,w.alloc (.cells #[.int .i64 0,.bool false,.slice none 0 0,.slice none 0 0,.slice none 0 0] 94)=W0:=⟨_,rfl⟩;have hB:=ah (Below.refl w.heap.size w) hW0 (Nat.le_refl _);have k0:=Blk.newEq hW0;have hs0:Hid (w.heap.size≤W0.heap.size):=hide hB.size;have hs1:Hid (w.heap.size<W0.heap.size):=hide k0.lt;go_enter Tryz.func49,Tryz.ntmps49;go_upto_region 2 with fail;clear hW0;obtain⟨W1,hW1⟩:∃W1,W0.alloc (.cells #[.int .i64 level,.bool false,.slice none 0 0,.slice none 0 0,.slice none 0 0] 94)=W1:=⟨_,rfl⟩;rw[hW1];have hB1:=hB.trans ((ah (Below.refl W0.heap.size W0) hW1 (Nat.le_refl _)).mono hB.size);have kC1:=Blk.newEq hW1;have kR1:=k0.au hW1;clear hW1 hB k0;go_wp2_with fail;go_loopw [12] (fun s12 wr=>∃(k:Nat) (v:Value),k≤tree.length∧s12= .int .i64 (k:Int)∧Blk wr W0.heap.size 94 #[.int .i64 level,.bool false,.slice none 0 0,.slice none 0 0,v]∧bX wr W0.heap.size v (tree.take k)∧Below w.heap.size w wr∧Blk wr w.heap.size 94 #[.int .i64 0,.bool false,.slice none 0 0,.slice none 0 0,.slice none 0 0]) (fun s12 _=>tree.length-(intOf s12).toNat);case atStart=>exact⟨0,_,by omega,by go_num,kC1,bX.nil _ _,hB1,kR1⟩
 case round=>
  clear hB1 kC1 kR1;obtain⟨Wo,rfl⟩:∃Wo,Wo=wr:=⟨_,rfl⟩;obtain⟨k,v,hk,rfl,kC0,hO,hb,kR⟩:=hrel;have hk0:(0:Int)≤(k:Int):=Int.natCast_nonneg _;obtain⟨Av,cv,rfl⟩:=aG.form hO;by_cases hlt:k<tree.length
  ·have hk1:(k:Int)<(tree.length:Int):=(by omega);obtain⟨b,off,Ay,cy,rfl,-,-⟩:=ht.out.at_ hlt;obtain⟨b',off',Ay',cy',e,hbK,d⟩:=bJ.at_ (ht.out.keep (Agree.below hb fun b h=>h) (fun b h=>h)) hlt;injection e with e
   injection e with e1 e2
   subst e1 e2;obtain⟨d0,d1,d2,d3,yV⟩:=d;have hyl:=hN.out.2 _ (List.getElem_mem hlt);have hstp:Hid (tree.take (k+1)=tree.take k++[tree[k]]):=hide (by rw[List.take_succ_eq_append_getElem hlt]);have hMl:(tree.take k).length≤200000000:=(by rw[List.length_take];omega);generalize tree[k]=n at*;obtain⟨⟨nk,na,nb⟩,ny⟩:=n;dsimp only at d0 d1 d2 d3 yV hyl hstp;generalize tree.take k=M at*;have hA:=ah hb (W:=Wo.alloc (.cells #[.int .i64 nk,.int .i64 na,.int .i64 nb,.slice Ay' ny.length cy'] 125)) rfl hb.size;have hO1:=hide (bX.below hO ((Below.refl Wo.heap.size Wo).alloc (Nat.le_refl _) (.cells #[.int .i64 nk,.int .i64 na,.int .i64 nb,.slice Ay' ny.length cy'] 125)));have kC1:=hide (kC0.alloc (.cells #[.int .i64 nk,.int .i64 na,.int .i64 nb,.slice Ay' ny.length cy'] 125));have kR1:=hide (kR.alloc (.cells #[.int .i64 nk,.int .i64 na,.int .i64 nb,.slice Ay' ny.length cy'] 125));have Eo:=hide (aP.keep yV (Agree.alloc (K:=fun b=>b<w.heap.size) (w:=Wo) (fun b h=>Nat.lt_of_lt_of_le h hb.size) (.cells #[.int .i64 nk,.int .i64 na,.int .i64 nb,.slice Ay' ny.length cy'] 125)) (fun b h=>h));have hwo:Hid (W0.heap.size<Wo.heap.size):=hide kC0.lt;clear hO yV kC0 kR;go_upto_region 5 with fail;generalize hWa:Wo.alloc (.cells #[.int .i64 nk,.int .i64 na,.int .i64 nb,.slice Ay' ny.length cy'] 125)=Wa at*;have nn:=Blk.newEq hWa;have hszA:W0.heap.size≤Wa.heap.size:=(by have:=nn.lt;have:=hwo.out;omega);have hOA:=hO1.out;have hyS:=Eo.out;have kC:=kC1.out;clear hWa d0 d1 d2 d3 hO1 Eo kC1;have hbA:=hA;refine bQ W0.heap.size [wV (.pointer (some ⟨W0.heap.size,4,none⟩)),wV (.slice Av M.length cv),wV (.pointer (some ⟨Wo.heap.size,0,none⟩)),wV (.agg #[.int .i64 nk,.int .i64 na,.int .i64 nb]),wV (.pointer (some ⟨Wo.heap.size,3,none⟩)),wV (.slice Ay' ny.length cy'),wI W0.heap.size ny,wNd W0.heap.size ⟨nk,na,nb⟩ ny,wNs W0.heap.size ⟨nk,na,nb⟩ ny,wND W0.heap.size (M++[⟨⟨nk,na,nb⟩,ny⟩]),wV (.pointer (some ⟨W0.heap.size,4,none⟩)),wCt W0.heap.size W0.heap.size level (M++[⟨⟨nk,na,nb⟩,ny⟩]),wA (wX (.slice Av M.length cv) (wND W0.heap.size M)) (wK Wo.heap.size 125 #[.int .i64 nk,.int .i64 na,.int .i64 nb,.slice Ay' ny.length cy']),wK W0.heap.size 94 #[.int .i64 level,.bool false,.slice none 0 0,.slice none 0 0,.slice Av M.length cv]] [[],[0,13],[],[2,12],[],[4,12],[5],[3,6],[7],[1,8,12],[],[9,10,13]] [[],[],[],[],[],[],[],[],[],[125],[],[94]] [[],[],[],[],[],[],[3],[3],[125,3],[125,3],[],[94,125,3],[125,3,125],[94]] [] [125,94] hszA (by kernel_rfl) (by kernel_rfl) (by kernel_rfl) (by kernel_rfl) (by kernel_rfl) (by kernel_rfl) rfl ⟨fun _=>⟨hOA,nn⟩,fun _=>kC,trivial⟩ (by kernel_rfl) (by kernel_rfl) ?hstep ?hend;case hstep=>
    simp only[iL,gB,RsT,acV,wV,wO,wS,wB,wU,wX,wK,wA,wI,wNd,wNs,wND,wCt,bW,gA,gZ,gS,List.getD_cons_zero,List.getD_cons_succ,List.getD_nil,Act.put,sA,sZ,sS,Nat.zero_add,Nat.reduceAdd,if_true,and_true];refine⟨?_,?o1,?_,?o3,?_,?o5,?o6,?o7,?o8,?o9,?_,?o11⟩;all_goals intro vs W R hR hT hd
    all_goals have hsz:=Nat.le_trans hszA hT.size
    case o1=>
     obtain⟨e0,kq⟩:=hd;rw[e0];have c4:=Blk.n4 kq;go_wp2;exact⟨rfl,_,rfl,hR _ _ rfl (TyW.refl _ _ _)⟩
    case o3=>
     obtain⟨e1,-,kn⟩:=hd;rw[e1];have c0:=Blk.n0 kn;have c1:=Blk.n1 kn;have c2:=Blk.n2 kn;go_wp2;exact⟨rfl,_,rfl,hR _ _ rfl (TyW.refl _ _ _)⟩
    case o5=>
     obtain⟨e1,-,kn⟩:=hd;rw[e1];have c3:=Blk.n3 kn;go_wp2;exact⟨rfl,_,rfl,hR _ _ rfl (TyW.refl _ _ _)⟩
    case o6=>
     rw[hd];go_wp2_with fail;refine(rY Ay' cy' ny (fun b=>b<w.heap.size) W (fun b (hb:b<w.heap.size)=>Nat.lt_of_lt_of_le hb (Nat.le_trans hs0.out hsz)) (aP.keep hyS (Agree.below (hT.below.mono hs0.out) fun b h=>h) (fun b h=>h)) (by omega)).mono ?_;rintro e W2 ⟨v,rfl,hv,hb2⟩;go_wp2;exact⟨rfl,_,rfl,hR _ _ (bH hv hsz) (TyW.calm hb2 hsz)⟩
    case o7=>
     obtain⟨e2,o5⟩:=hd;obtain⟨Au,cu,e5⟩:=aY.form o5;rw[e5]at o5⊢;rw[e2];go_wp2;exact⟨rfl,_,rfl,hR _ _ ⟨_,rfl,o5⟩ (TyW.refl _ _ _)⟩
    case o8=>
     obtain⟨u,e6,hu⟩:=hd;obtain⟨Au,cu,rfl⟩:=aU hu;rw[e6];go_wp2;exact⟨rfl,_,rfl,hR _ _ ⟨W.heap.size,_,hsz,rfl,Blk.new _ _ _,World.ownsRow.alloc hu _⟩ (TyW.calm ((Below.refl _ _).alloc (Nat.le_refl _) _) hsz)⟩
    case o9=>
     obtain⟨e0,⟨g,u,hg,e7,kg,hu⟩,hO,-⟩:=hd;rw[e0,e7];refine jQ fE.aO qF rfl _ _ 34 rfl W0.heap.size 125 ino _ 4 48 Tryz.underlying34 xP nZ og mD rfl (by decide) [3] (by decide) (.slice Av M.length cv) M rfl hO g _ ⟨⟨nk,na,nb⟩,ny⟩ kg rfl (pF hu) rfl (by unfold maxLen;omega) (by omega) hsz W0.heap.size (Nat.le_refl _) ?_;intro v8 W8 hO8 hT8 S9;exact⟨rfl,_,rfl,hR _ _ hO8 hT8⟩
    case o11=>
     obtain⟨hO,e10,kq⟩:=hd;obtain⟨Au,cu,eu⟩:=aG.form hO;generalize hML:M++[(⟨⟨nk,na,nb⟩,ny⟩:Nod)]=ML at*;replace hML:=hide hML;rw[eu]at hO⊢;rw[e10];have z4:=Blk.n4 kq;have f4:=kq.frozen 4;have hP:=TyW.put kq (σ:=[94]) (n0:=W0.heap.size) (Nat.le_refl _) (by simp) (i:=4) (.slice Au ML.length cu);have kP:=kq.aM 4 (.slice Au ML.length cu);go_wp2;exact⟨rfl,undef,rfl,hR undef _ ⟨_,kP,hP.xO fE.aO hO (by decide)⟩ hP⟩
    all_goals (go_wp2;exact⟨rfl,_,rfl,hR _ _ (by first|rfl|trivial) (TyW.refl _ _ _)⟩)
   case hend=>
    intro vs W hT hd;have h11:(wCt W0.heap.size W0.heap.size level (M++[⟨⟨nk,na,nb⟩,ny⟩])).p (vs 11) W:=hd 11 (by simp) (by kernel_rfl);obtain⟨v9,kC9,o9⟩:=h11;have hb6:=hA.trans (hT.below.mono hs0.out);have kR9:=kR1.out.below hT.below hs1.out;simp only[acV,gA,gZ,gS,Act.put,sA,sZ,sS,List.length_cons,List.length_nil,Nat.reduceAdd];clear hd hT hyS hOA nn hA hbA kC kR1;go_wp2;go_roundw;case rel=>exact⟨k+1,v9,by omega,by go_num,kC9,by rw[hstp.out];exact o9,hb6,kR9⟩
    case measure=>simp[intOf];omega
  ·obtain rfl:k=tree.length:=(by omega);rw[List.take_length]at hO;obtain⟨Ax,cx,e⟩:=aG.form hO;injection e with e1 e2 e3
   subst e1 e3;have hSl:=hide (bX.slK hO);clear hO;rw[List.take_length]at kC0;have hne:=hs1.out;have d0:=Blk.n0 kC0;have d1:=Blk.n1 kC0;have d2:=Blk.n2 kC0;have d3:=Blk.n3 kC0;have d4:=Blk.n4 kC0;have e0:=Blk.n0 kR;have e1:=Blk.n1 kR;have e2:=Blk.n2 kR;have e3:=Blk.n3 kR;have e4:=Blk.n4 kR;have g0:=kR.frozen 0;have g1:=kR.frozen 1;have g2:=kR.frozen 2;have g3:=kR.frozen 3;have g4:=kR.frozen 4;have hend:=hide (zY (x0:= .int .i64 level) (x1:= .bool false) (x2:= .slice none 0 0) (x3:= .slice none 0 0) (x4:= .slice Av tree.length cv) kR);have hbe:=hide (sU hb (Nat.le_refl _) (.int .i64 level) (.bool false) (.slice none 0 0) (.slice none 0 0) (.slice Av tree.length cv));clear hne;go_wp2_with fail;have y0:=Blk.n0 hend.out;have y1:=Blk.n1 hend.out;have y2:=Blk.n2 hend.out;have y3:=Blk.n3 hend.out;have y4:=Blk.n4 hend.out;refine bodyPost_ret (v:= .agg #[.int .i64 level,.bool false,.slice none 0 0,.slice none 0 0,.slice Av tree.length cv]) (by simp[results,Tryz.results49,go_sem,y0,y1,y2,y3,y4]) rfl ?_;clear y0 y1 y2 y3 y4;exact⟨none,0,none,0,Av,cv,rfl,SlR.nil _ _ _ _ _ _,SlR.nil _ _ _ _ _ _,SlR.keep fE.aO hSl.out (Je fun q=>by have:=q.1;have:=hs1.out;omega) (fun b q=>by
    have:=TyK.lt q;show b<_;simpa using this),hbe.out⟩
end Go.Proofs.YtfhnamomiaekdaaGreatDoor
