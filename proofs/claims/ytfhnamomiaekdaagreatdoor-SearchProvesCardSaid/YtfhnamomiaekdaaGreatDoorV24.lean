/-
  Walks: layer 24: whether a tree holds with some choices, whatever the tree.
-/
import Derived.Test.YtfhnamomiaekdaaGreatDoorV23
import Derived.Test.YtfhnamomiaekdaaGreatDoorV04
set_option linter.unusedVariables false
set_option linter.unusedSimpArgs false
namespace Go.Proofs.YtfhnamomiaekdaaGreatDoor
open Go.RowKit Go.Inq
set_option maxHeartbeats 8000000
attribute [local go_sem↓] Go.wp_at_zero Go.wp_at_succ
set_option maxRecDepth 100000 in
theorem Ii(g:Nat)(A:Option Addr)(c:Nat)(H:List Txn)(level:Int)(hn:aH H):∀(t:Tr) (rest:List Nod) (M:List Cho) (Am:Option Addr) (cm:Nat) (w:World),aD w (fun b=>b<g) (.slice A H.length c) H→
 bC w (KC g w) (.slice Am M.length cm) M→RdW w g (t.flat++rest)→t.ok→kW t.flat→t.flat.length+rest.length≤100000000→M.length+t.flat.length≤1000000000→
 Calls Tryz.prog 149 #[.pointer (some ⟨g,0,none⟩),.agg #[.slice A H.length c],.int .i64 level,.slice Am M.length cm] w (jT g (t.held H level M) rest w):=by
 intro t
 induction t with
 |leaf n=>
  intro rest M Am cm w h hM hR hok hcy hl hml;have h1:(Tr.leaf n).flat=[n]:=rfl;rw[h1]at hR hcy hl hml;exact Fp g A c H level n rest M Am cm w h hn hM hR hok (hcy n (by simp)) (by simp only[List.length_cons,List.length_nil]at hl;unfold maxLen;omega) (by omega)
 |fork f x y ihx ihy=>
  intro rest M Am cm w h hM hR hok hcy hl hml;obtain⟨ic,hic,hi1,hi2,hi3⟩:=info_parts sw;have Ji:(Tr.fork f x y).flat=⟨f,[]⟩::(x.flat++y.flat):=rfl;rw[Ji]at hR hcy hl hml;rw[List.cons_append,List.append_assoc]at hR;simp only[List.length_cons,List.length_append]at hl hml;have Cb:Hid ((Tr.fork f x y).held H level M=(x.held H level (M++[f])&&y.held H level (M++[aQ f])&&dn H f)):=hide rfl;have hcx:kW x.flat:=fun n hn=>hcy n (by simp[hn]);have TG:kW y.flat:=fun n hn=>hcy n (by simp[hn]);obtain⟨fk,fa,fb⟩:=f;have hgl:=hR.lt;obtain⟨W1,hW1⟩:∃W1,w.alloc (.cells #[.slice A H.length c] 24)=W1:=⟨_,rfl⟩;have hb1:=ah (Below.refl w.heap.size w) hW1 (Nat.le_refl _);have k1:=Blk.newEq hW1;have hT1:TyW g [231] w W1:=TyW.calm hb1 (Nat.le_of_lt hgl);have hx:=hide (vN g ⟨⟨fk,fa,fb⟩,[]⟩ (x.flat++(y.flat++rest)) W1 (hR.below hb1) (by simp only[List.length_append];unfold maxLen;omega));obtain⟨P,hP⟩:∃P,jT g ((Tr.fork ⟨fk,fa,fb⟩ x y).held H level M) rest w=P:=⟨_,rfl⟩;rw[hP];rw[Cb.out]at hP;replace hP:=hide hP;clear Cb Ji hcy;obtain⟨qx,hqx⟩:∃qx,x.held H level (M++[⟨fk,fa,fb⟩])=qx:=⟨_,rfl⟩;obtain⟨qy,hqy⟩:∃qy,y.held H level (M++[aQ ⟨fk,fa,fb⟩])=qy:=⟨_,rfl⟩;rw[hqx,hqy]at hP;have hcap:=bC.TF hM;replace hcap:=hide hcap;go_enter Tryz.func149,Tryz.ntmps149;go_wp2_with fail;refine hx.out.mono ?_;rintro e w2 ⟨Ay,cy,rfl,-,hR2,hT2⟩;clear hx hW1;have hT:=hT1.trans hT2;have k2:=hT2.blk k1 (by decide);dsimp only at hP⊢;have hsz:=hT.size;obtain⟨W3,hW3⟩:∃W3,w2.alloc (.cells #[.int .i64 fk,.int .i64 fa,.int .i64 fb,.slice Ay 0 cy] 125)=W3:=⟨_,rfl⟩;have hb3:=ah (Below.refl w2.heap.size w2) hW3 (Nat.le_refl _);have n3:=Blk.newEq hW3;have k3:=k2.below hb3 k2.lt;have hT3:TyW g [231] w W3:=hT.trans (TyW.calm hb3 (by omega));have hR3:=hR2.below hb3;have h3:=aD.keep (K':=fun b=>b<g) h (Agree.below hT3.below fun b hb=>hb) fun _ h=>h;have hM3:=KC.ty hM hT3 (Nat.le_refl _) (by decide);have hMc:Hid (bC W3 (KC g W3) (.slice Am M.length M.length) M):=hide (bC.clip hM3);obtain⟨N,hNM⟩:∃N,M++[(⟨fk,fa,fb⟩:Cho)]=N:=⟨_,rfl⟩;obtain⟨N2,RU⟩:∃N2,M++[(⟨fk,fb,fa⟩:Cho)]=N2:=⟨_,rfl⟩;have hN2:M++[aQ ⟨fk,fa,fb⟩]=N2:=RU;have hNl:N.length=M.length+1:=(by rw[←hNM];simp);have TH:N2.length=M.length+1:=(by rw[←RU];simp);rw[hNM]at hqx;rw[hN2]at hqy;have Qx:=hide (fun W (A6:Option Addr) (c6:Nat) (hT:TyW g [231] W3 W) (hC:bC W (KC g W) (.slice A6 N.length c6) N) (hRd:RdW W g (x.flat++(y.flat++rest)))=>(by
   have:=ihx (y.flat++rest) N A6 c6 W (aD.keep (K':=fun b=>b<g) h3 (Agree.below hT.below fun b hb=>hb) fun _ h=>h) hC hRd hok.1 hcx (by rw[List.length_append];omega) (by omega);rw[hqx]at this;exact this:Calls Tryz.prog 149 #[.pointer (some ⟨g,0,none⟩),.agg #[.slice A H.length c],.int .i64 level,.slice A6 N.length c6] W (jT g qx (y.flat++rest) W)))
  have RV:=hide (fun W (A6:Option Addr) (c6:Nat) (hT:TyW g [231] W3 W) (hC:bC W (KC g W) (.slice A6 N2.length c6) N2) (hRd:RdW W g (y.flat++rest))=>(by
   have:=ihy rest N2 A6 c6 W (aD.keep (K':=fun b=>b<g) h3 (Agree.below hT.below fun b hb=>hb) fun _ h=>h) hC hRd hok.2 TG (by omega) (by omega);rw[hqy]at this;exact this:Calls Tryz.prog 149 #[.pointer (some ⟨g,0,none⟩),.agg #[.slice A H.length c],.int .i64 level,.slice A6 N2.length c6] W (jT g qy rest W)))
  have hF1:=hR3.rv (Agree.refl _ W3);have TI:=hide (fun W (hT:TyW g [231] W3 W)=>Dq A c H fk fa fb W ((aD.keep (K':=fun b=>b<g) h3 (Agree.below hT.below fun b hb=>hb) fun _ h=>h).fit fun b (hb:b<g)=>by show b<_;have:=hT.size;have:=hT3.size;omega) hn);have c0:=Blk.n3 n3;have hszA:g≤W3.heap.size:=(by have:=hT3.size;omega);have hMl:M.length≤1000000000:=(by omega);clear hR hM h k1 k2 hR2 hT hT1 hT2 hb1 hb3 h3 hM3 hR3 ihx ihy hqx hqy hok hcx TG hN2;replace hNl:=hide hNl;replace TH:=hide TH;obtain⟨l1,hl1⟩:∃l1,x.flat++(y.flat++rest)=l1:=⟨_,rfl⟩;obtain⟨l2,hl2⟩:∃l2,y.flat++rest=l2:=⟨_,rfl⟩;rw[hl1]at hF1 Qx;rw[hl2]at Qx RV;clear hl1 hl2 hl hml;go_upto_region 4 with fail;try rw[hW3]
  generalize w2.heap.size=gN at*;clear hW3 c0;go_wp2_with fail;refine(sJ Am M.length cm W3 hcap.out).mono ?_;rintro e w' ⟨rfl,rfl⟩;replace hMc:=hMc.out;go_upto_region 5 with fail;refine bQ g [wV (.pointer (some ⟨g,0,none⟩)),wV (.agg #[.slice A H.length c]),wV (.int .i64 level),wV (.slice Am M.length M.length),wV (.pointer (some ⟨gN,0,none⟩)),wV (.agg #[.int .i64 fk,.int .i64 fa,.int .i64 fb]),wS g 102 1 #[.int .i64 fk,.int .i64 fa,.int .i64 fb],wO g 102 3 N.length (N.map gU).flatten,wA (wV (.bool qx)) (wRd W3 g l2),wV (.bool qx),wRd W3 g l1] [[],[],[],[],[],[4],[5],[3,6],[0,1,2,7,10],[8]] [[],[],[],[],[],[],[],[],[231],[]] [[],[],[],[],[],[],[102],[102],[231],[],[231]] [] [231] hszA (by kernel_rfl) (by kernel_rfl) (by kernel_rfl) (by kernel_rfl) (by kernel_rfl) (by kernel_rfl) rfl ⟨fun _=>hF1,trivial⟩ (by kernel_rfl) (by kernel_rfl) ?hstep ?hend;case hstep=>
   simp only[iL,gB,RsT,acV,wV,wO,wS,wB,wU,wX,wK,wA,wRd,bW,gA,gZ,gS,List.getD_cons_zero,List.getD_cons_succ,List.getD_nil,Act.put,sA,sZ,sS,Nat.zero_add,Nat.reduceAdd,if_true,and_true];refine⟨?_,?o1,?_,?_,?_,?o5,?o6,?o7,?o8,?o9⟩;all_goals intro vs W R hR hT hd
   all_goals have hsz:g≤W.heap.size:=Nat.le_trans hszA hT.size
   case o1=>
    have c0:=Blk.n0 (hT.blk k3 (by decide));go_wp2;exact⟨rfl,_,rfl,hR _ _ rfl (TyW.refl _ _ _)⟩
   case o5=>
    have kq:=hT.blk n3 (by decide);have c0:=Blk.n0 kq;have c1:=Blk.n1 kq;have c2:=Blk.n2 kq;rw[hd];go_wp2;exact⟨rfl,_,rfl,hR _ _ rfl (TyW.refl _ _ _)⟩
   case o6=>
    rw[hd];go_wp2;exact⟨rfl,_,rfl,hR _ _ ⟨W.heap.size,hsz,rfl,Blk.new _ _ _⟩ (TyW.calm ((Below.refl _ _).alloc (Nat.le_refl _) _) hsz)⟩
   case o7=>
    obtain⟨e3,gg,hg,e5,kg⟩:=hd;rw[e3,e5];refine eT (enc:=gU) rfl _ _ 65 rfl 102 ic _ 3 24 Tryz.underlying65 hic hi1 hi2 hi3 rfl (by decide) Am (KC g W) M rfl (KC.ty hMc hT (Nat.le_refl _) (by decide)) (fun _=>rfl) gg _ ⟨fk,fa,fb⟩ kg rfl rfl iM (by unfold maxLen;omega) (by omega) ?_;intro v6 W6 hown6 hb6;rw[hNM]at hown6;exact⟨rfl,_,rfl,hR _ _ (bH hown6 hsz) (TyW.calm hb6 hsz)⟩
   case o8=>
    obtain⟨e0,e1,e2,o7,hF⟩:=hd;obtain⟨A6,c6,e6⟩:=aU o7;rw[e6]at o7;rw[e0,e1,e2,e6];have hag:=Agree.below hT.below (K:=fun b=>b<g) fun b hb=>hb;go_wp2_with fail;refine(Qx.out W A6 c6 hT (KC.own o7) (RdV.rd hF hag)).mono ?_;rintro e W2 ⟨rfl,hR2,hT2⟩;go_wp2;exact⟨rfl,_,rfl,hR _ _ ⟨rfl,hR2.rv (hag.trans (Agree.below hT2.below fun b hb=>hb))⟩ hT2⟩
   case o9=>
    rw[hd.1];go_wp2;exact⟨rfl,_,rfl,hR _ _ rfl (TyW.refl _ _ _)⟩
   all_goals (go_wp2;exact⟨rfl,_,rfl,hR _ _ (by first|rfl|trivial) (TyW.refl _ _ _)⟩)
  case hend=>
   intro vs W hT hd;have o8:vs 8= .bool qx∧RdV W3 g l2 W:=hd 8 (by simp) (by kernel_rfl);have o9:vs 9= .bool qx:=hd 9 (by simp) (by kernel_rfl);simp only[acV,gA,gZ,gS,Act.put,sA,sZ,sS,List.length_cons,List.length_nil,Nat.reduceAdd];rw[o9];have hF2:=o8.2;have k4:=hT.blk k3 (by decide);have n4:=hT.blk n3 (by decide);have RX:=Agree.below hT.below (K:=fun b=>b<g) fun b hb=>hb;have Lc:=hT;have hMd:=KC.ty hMc hT (Nat.le_refl _) (by decide);have RY:g≤W.heap.size:=Nat.le_trans hszA hT.size;clear hd o8 o9 hT Qx hF1 k3 n3 hszA hMc;obtain⟨W4,hW4⟩:∃W4,W4=W:=⟨_,rfl⟩;subst hW4;go_upto_region 6 with fail;refine bQ g [wV (.pointer (some ⟨g,0,none⟩)),wV (.agg #[.slice A H.length c]),wV (.int .i64 level),wV (.slice Am M.length M.length),wV (.pointer (some ⟨gN,0,none⟩)),wV (.agg #[.int .i64 fk,.int .i64 fa,.int .i64 fb]),wV (.agg #[.int .i64 fk,.int .i64 fb,.int .i64 fa]),wS g 102 1 #[.int .i64 fk,.int .i64 fb,.int .i64 fa],wO g 102 3 N2.length (N2.map gU).flatten,wA (wV (.bool qy)) (wRd W3 g rest),wV (.bool qy),wRd W3 g l2] [[],[],[],[],[],[4],[5],[6],[3,7],[0,1,2,8,11],[9]] [[],[],[],[],[],[],[],[],[],[231],[]] [[],[],[],[],[],[],[],[102],[102],[231],[],[231]] [] [231] RY (by kernel_rfl) (by kernel_rfl) (by kernel_rfl) (by kernel_rfl) (by kernel_rfl) (by kernel_rfl) rfl ⟨fun _=>hF2,trivial⟩ (by kernel_rfl) (by kernel_rfl) ?hstep ?hend;case hstep=>
    simp only[iL,gB,RsT,acV,wV,wO,wS,wB,wU,wX,wK,wA,wRd,bW,gA,gZ,gS,List.getD_cons_zero,List.getD_cons_succ,List.getD_nil,Act.put,sA,sZ,sS,Nat.zero_add,Nat.reduceAdd,if_true,and_true];refine⟨?_,?o1,?_,?_,?_,?o5,?o6,?o7,?o8,?o9,?o10⟩;all_goals intro vs W R hR hT hd
    all_goals have hsz:g≤W.heap.size:=Nat.le_trans RY hT.size
    case o1=>
     have c0:=Blk.n0 (hT.blk k4 (by decide));go_wp2;exact⟨rfl,_,rfl,hR _ _ rfl (TyW.refl _ _ _)⟩
    case o5=>
     have kq:=hT.blk n4 (by decide);have c0:=Blk.n0 kq;have c1:=Blk.n1 kq;have c2:=Blk.n2 kq;rw[hd];go_wp2;exact⟨rfl,_,rfl,hR _ _ rfl (TyW.refl _ _ _)⟩
    case o6=>
     rw[hd];go_wp2_with fail;refine(Ie fk fa fb W).mono ?_;rintro e W2 ⟨rfl,hb2⟩;go_wp2;exact⟨rfl,_,rfl,hR _ _ rfl (TyW.calm hb2 hsz)⟩
    case o7=>
     rw[hd];go_wp2;exact⟨rfl,_,rfl,hR _ _ ⟨W.heap.size,hsz,rfl,Blk.new _ _ _⟩ (TyW.calm ((Below.refl _ _).alloc (Nat.le_refl _) _) hsz)⟩
    case o8=>
     obtain⟨e3,gg,hg,e5,kg⟩:=hd;rw[e3,e5];refine eT (enc:=gU) rfl _ _ 65 rfl 102 ic _ 3 24 Tryz.underlying65 hic hi1 hi2 hi3 rfl (by decide) Am (KC g W) M rfl (KC.ty hMd hT (Nat.le_refl _) (by decide)) (fun _=>rfl) gg _ ⟨fk,fb,fa⟩ kg rfl rfl iM (by unfold maxLen;omega) (by omega) ?_;intro v6 W6 hown6 hb6;rw[RU]at hown6;exact⟨rfl,_,rfl,hR _ _ (bH hown6 hsz) (TyW.calm hb6 hsz)⟩
    case o9=>
     obtain⟨e0,e1,e2,o7,hF⟩:=hd;obtain⟨A6,c6,e6⟩:=aU o7;rw[e6]at o7;rw[e0,e1,e2,e6];have hag:=RX.trans (Agree.below hT.below (K:=fun b=>b<g) fun b hb=>hb);go_wp2_with fail;refine(RV.out W A6 c6 (Lc.trans hT) (KC.own o7) (RdV.rd hF hag)).mono ?_;rintro e W2 ⟨rfl,hR2,hT2⟩;go_wp2;exact⟨rfl,_,rfl,hR _ _ ⟨rfl,hR2.rv (hag.trans (Agree.below hT2.below fun b hb=>hb))⟩ hT2⟩
    case o10=>
     rw[hd.1];go_wp2;exact⟨rfl,_,rfl,hR _ _ rfl (TyW.refl _ _ _)⟩
    all_goals (go_wp2;exact⟨rfl,_,rfl,hR _ _ (by first|rfl|trivial) (TyW.refl _ _ _)⟩)
   case hend=>
    intro vs W hT hd;have o9:vs 9= .bool qy∧RdV W3 g rest W:=hd 9 (by simp) (by kernel_rfl);have o10:vs 10= .bool qy:=hd 10 (by simp) (by kernel_rfl);simp only[acV,gA,gZ,gS,Act.put,sA,sZ,sS,List.length_cons,List.length_nil,Nat.reduceAdd];rw[o10];have hT6:=Lc.trans hT;have hag:=RX.trans (Agree.below hT.below (K:=fun b=>b<g) fun b hb=>hb);have hRd:=RdV.rd o9.2 hag;have k5:=hT.blk k4 (by decide);have n5:=hT.blk n4 (by decide);have hTf:=hT3.trans hT6;have hcc:=hide (TI.out W hT6);have hgW:=hTf.size;clear hd o9 o10 hT RV hF2 k4 n4 RY hMd Lc RX hag TI hT6 hT3;have c0:=Blk.n0 k5;have m0:=Blk.n0 n5;have m1:=Blk.n1 n5;have m2:=Blk.n2 n5;have hO:∀q W',q=(qx&&qy&&dn H ⟨fk,fa,fb⟩)→Below W.heap.size W W'→P (.returned (.bool q)) W':=fun q W' e hb=>by
     rw[←hP.out];exact⟨by rw[e],hRd.below hb,hTf.trans (TyW.calm hb (by omega))⟩
    replace hO:=hide hO;clear k5 n5 hRd hTf;cases qx with
    |false=>
     have hf:=hide (hO.out false W rfl (Below.refl _ _));clear hO hcc;go_wp2;exact hf.out
    |true=>
     cases qy with
     |false=>
      have hf:=hide (hO.out false W rfl (Below.refl _ _));clear hO hcc;go_wp2;exact hf.out
     |true=>
      go_wp2_with fail;refine hcc.out.mono ?_;rintro e w' ⟨rfl,hb7⟩;have hf:=hide (hO.out _ w' rfl hb7);clear hO;go_wp2;exact hf.out
end Go.Proofs.YtfhnamomiaekdaaGreatDoor
