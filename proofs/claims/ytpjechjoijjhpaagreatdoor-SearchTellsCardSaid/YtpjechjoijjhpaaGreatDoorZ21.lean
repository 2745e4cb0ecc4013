/-
  Walks: layer 31: what follows, if a tree was found.
-/
import Derived.Test.YtpjechjoijjhpaaGreatDoorZ05
import Derived.Test.YtpjechjoijjhpaaGreatDoorZ09
import Derived.Test.YtpjechjoijjhpaaGreatDoorZ19
import Derived.Test.YtpjechjoijjhpaaGreatDoorZ20
set_option linter.unusedVariables false
set_option linter.unusedSimpArgs false
namespace Go.Proofs.YtpjechjoijjhpaaGreatDoor
open Go.RowKit Go.Inq
set_option maxHeartbeats 8000000
attribute [local go_sem↓] Go.wp_at_zero Go.wp_at_succ
theorem zH{H:List Txn}{level:Int}{L:List Fct}{path:List Mk}{k:Nat}(hk:k<path.length)(tr:List Nod)(h:path[k].right=true):dG H level L (path.take (k+1)).reverse tr=dG H level L (path.take k).reverse (⟨path[k].c,[]⟩::(path[k].done++tr)):=by
 rw[List.take_succ_eq_append_getElem hk,List.reverse_append];show dG H level L (path[k]::(path.take k).reverse) tr=_
 conv=>lhs;unfold dG
 rw[if_pos h]
theorem Cx{H:List Txn}{level:Int}{L:List Fct}{path:List Mk}{k:Nat}(hk:k<path.length)(tr:List Nod)(h:path[k].right=false):dG H level L (path.take (k+1)).reverse tr=(path.take k++[⟨path[k].c,true,tr⟩],oC):=by
 rw[List.take_succ_eq_append_getElem hk,List.reverse_append];show dG H level L (path[k]::(path.take k).reverse) tr=_
 conv=>lhs;unfold dG
 rw[if_neg (by rw[h];decide)];simp
def wNP(base:Nat)(l:List Nod):Wrd:=⟨[69,3],fun v W=>jo W base v l,fun _ _ _ _ _ h hT k=>jo.ty k hT (h _ (by simp)) (h _ (by simp))⟩
def wBR(base:Nat)(cs:Array Value)(v1 v2:Value):Wrd:=⟨[69,36],fun v W=>∃g g5,base≤g∧base≤g5∧v= .slice (some ⟨g,0,none⟩) 3 3∧Blk W g 36 #[.slice (some ⟨g5,0,none⟩) 1 1,v1,v2]∧Blk W g5 69 cs,fun _ _ _ _ _ h hT k=>by
 obtain⟨g,g5,h1,h2,h3,h4,h5⟩:=k;exact⟨g,g5,h1,h2,h3,hT.blk h4 (h _ (by simp)),hT.blk h5 (h _ (by simp))⟩⟩
theorem OI{n0:Nat}{σ:List TypeId}{w W W':World}(h:TyW n0 σ w W)(hb:Below w.heap.size W W')(hn:n0≤w.heap.size):TyW n0 σ w W':=
 ⟨h.below.trans (hb.mono hn),fun b o e t=>(hb.block b (Array.getElem?_eq_some_iff.1 e).1).trans (h.keep b o e t)⟩
def Qu(w:World)(base:Nat)(r:List Mk×Say)(e:Ending)(w':World):Prop:=∃vp vo,e= .returned (.tuple #[vp,vo])∧MkO w' base vp r.1∧vN w' base vo r.2∧TyW base [64] w w'
set_option maxRecDepth 100000 in
theorem Io (base:Nat) (A:Option Addr) (c:Nat) (H:List Txn) (level:Int) (Al:Option Addr) (cl:Nat) (L:List Fct) (Ap:Option Addr) (cp:Nat) (path:List Mk) (At0:Option Addr) (ct0:Nat) (tree:List Nod) (w:World) (h:aC w (Old w) (.slice A H.length c) H) (hn:aA H) (hL:bM w (Old w) (.slice Al L.length cl) L) (hF:tH L)
 (hr:eu H level L=true) (hl:L.length<20000) (hTB:jl w) (hbase:base≤w.heap.size) (hP:MkO w base (.slice Ap path.length cp) path) (ht:jo w base (.slice At0 tree.length ct0) tree) (hz:bJ path+tree.length≤100000000) (hc1:∀m∈path,jU m.done) (hc2:jU tree):
 Calls Tryz.prog 24 #[.agg #[.slice A H.length c],.int .i64 level,.slice Al L.length cl,.slice Ap path.length cp,.slice At0 tree.length ct0] w (Qu w base (dG H level L path.reverse tree)):=by
 obtain⟨W0,hW0⟩:∃W0,(w.alloc (.cells #[.slice A H.length c] 24)).alloc (.cells #[.int .i64 0,.slice none 0 0,.slice none 0 0,.slice none 0 0] 38)=W0:=⟨_,rfl⟩;have hB:=aF hW0;have k0:=Blk.fG hW0;have k1:=Blk.eP hW0;have hun:=hide (fun W (hb:Below w.heap.size w W) At ct tr (ht:aY W (Old W) (.slice At (List.length tr) ct) tr) (hN:tJ tr)=>Fu A c H level Al cl L At ct tr W (h.below hb) hn (hL.below hb) hF ht hN hr hl (hTB.below hb));have hbr:=hide (fun k (hk:k<path.length) tr=>zH (H:=H) (level:=level) (L:=L) hk tr);have hbl:=hide (fun k (hk:k<path.length) tr=>Cx (H:=H) (level:=level) (L:=L) hk tr);have hcp:path.length≤cp:=by
  obtain⟨_,_,e,h1⟩:=SlR.len (MkO.s hP);simp only[Value.slice.injEq]at e;omega
 have hpl:path.length≤100000000:=Nat.le_trans (tX (p:=path)) (by omega);have hP0:=hide (hP.below hB);have ht0:=ht.below hB;have Du:=hide (fun k (hk:k<path.length)=>(by
  have:=yX path (k+1);rw[List.take_succ_eq_append_getElem hk,nN]at this;exact this:bJ (path.take k)+(1+path[k].done.length)≤bJ path))
 have Fw:=hide (fun k (hk:k<path.length)=>(by rw[List.take_succ_eq_append_getElem hk,nN]:bJ (path.take (k+1))=bJ (path.take k)+(1+path[k].done.length)));have hcy:=hide (fun k (hk:k<path.length)=>hc1 path[k] (List.getElem_mem hk));obtain⟨R,hR⟩:∃R,dG H level L path.reverse tree=R:=⟨_,rfl⟩;have hR0:Hid (R=dG H level L (path.take path.length).reverse tree):=hide (by rw[List.take_length];exact hR.symm);have hz0:Hid (bJ (path.take path.length)+tree.length≤100000000):=hide (by rw[List.take_length];exact hz);have hnone:Hid (∀tr,dG H level L (path.take 0).reverse tr=([],⟨2,[],fU H level L tr,[]⟩)):=hide fun tr=>rfl;rw[hR];clear h hL hF hTB hP ht hR hz hc1;replace hc2:=hide hc2;go_enter Tryz.func24,Tryz.ntmps24;go_wp2_with fail;clear hW0;go_loopw [3,4,12] (fun s3 s4 _ wr=>∃(k:Nat) (tr:List Nod) (At:Option Addr) (ct:Nat),k≤path.length∧s3= .slice Ap k cp∧s4= .slice At tr.length ct∧jo wr base (.slice At tr.length ct) tr∧MkO wr base (.slice Ap path.length cp) path∧Blk wr w.heap.size 24 #[.slice A H.length c]∧Blk wr (w.heap.size+1) 38 #[.int .i64 0,.slice none 0 0,.slice none 0 0,.slice none 0 0]∧
  Hid (R=dG H level L (path.take k).reverse tr)∧Hid (bJ (path.take k)+tr.length≤100000000)∧Hid (jU tr)∧Below w.heap.size w wr) (fun s3 _ _ _=>match s3 with| .slice _ n _=>n|_=>0)
 case atStart=>exact⟨path.length,tree,At0,ct0,Nat.le_refl _,rfl,rfl,ht0,hP0.out,k0,k1,hR0,hz0,hc2,hB⟩
 case round=>
  clear k0 k1 ht0 hP0 hR0 hz0 hc2 hB;obtain⟨Wo,rfl⟩:∃Wo,Wo=wr:=⟨_,rfl⟩;obtain⟨j,tr,At,ct,hj,rfl,rfl,ht,hP,k0,k1,hR,hz,hc,hb⟩:=hrel;have hsz:=hb.size;cases j with
  |zero=>
   have hR0:=hide (hR.out.trans (hnone.out tr));have hu1:=hide (hun.out Wo hb At ct tr ht.s ⟨by have:=hz.out;omega,hc.out⟩);obtain⟨UT,hUT⟩:∃UT,fU H level L tr=UT:=⟨_,rfl⟩;rw[hUT]at hu1 hR0;have c0:=Blk.n0 k0;clear hun hbr hbl Du Fw hcy hnone hR hz hc hP ht hUT;go_wp2_with fail;refine hu1.out.mono ?_;rintro e w3 ⟨vU,rfl,hvU,hb3⟩;have hb4:=hb.trans (hb3.mono hsz);have n4:=k1.below hb3 k1.lt;have oU:dH w3 w.heap.size vU UT:=hvU.base hsz;obtain⟨Au,cu,rfl⟩:=aJ.form oU;clear hu1 hb3 hvU k0 k1 c0 hb;have z0:=Blk.n0 n4;have z1:=Blk.n1 n4;have z2:=Blk.n2 n4;have z3:=Blk.n3 n4;have f0:=n4.frozen 0;have f1:=n4.frozen 1;have f2:=n4.frozen 2;have f3:=n4.frozen 3;have hBo:=hide (dI (a:=(.int .i64 2)) (b:=(.slice none 0 0)) (c:=(.slice Au UT.length cu)) (d:=(.slice none 0 0)) hb4 (show w.heap.size≤w.heap.size+1 by omega));have hTo:=nP (n0:=w.heap.size) (a:=(.int .i64 2)) (b:=(.slice none 0 0)) (c:=(.slice Au UT.length cu)) (d:=(.slice none 0 0)) n4 (by omega);have kz:=mI (a:=(.int .i64 2)) (b:=(.slice none 0 0)) (c:=(.slice Au UT.length cu)) (d:=(.slice none 0 0)) n4;have y0:=kz.cell 0;have y1:=kz.cell 1;have y2:=kz.cell 2;have y3:=kz.cell 3;unfold fA at y0 y1 y2 y3;simp only[gA,gZ,gS]at y0 y1 y2 y3;have oG:=hide (dH.base (hTo.AV fu.aS oU (by decide)) hbase);clear n4 oU kz hTo hb4;go_wp2_with fail;exact bodyPost_ret (v:= .tuple #[.slice none 0 0,.agg #[.int .i64 2,.slice none 0 0,.slice Au UT.length cu,.slice none 0 0]]) (by simp[results,Tryz.results24,go_sem,y0,y1,y2,y3]) rfl ⟨_,_,rfl,by rw[hR0.out];exact MkO.nil _ _,by rw[hR0.out];exact⟨_,_,_,rfl,World.ownsRow_nil _ _ _ _,oG.out,qc.nil _ _⟩,TyW.calm hBo.out hbase⟩
  |succ k=>
   have hk:k<path.length:=(by omega);have hk0:(0:Int)≤(k:Int):=Int.natCast_nonneg _;have hk4:(k:Int)≤100000000:=(by omega);have hwk:=Go.IntWalk.wrap64_in (k:Int) (by omega);have hk1:(k:Int)+1≤(cp:Int):=(by omega);have hk2:(k:Int)≤(cp:Int):=(by omega);obtain⟨gp,Ad,cd,rfl,hgp,hD,⟨cs,kb⟩,d0,d1,d2,d3,d4,hset⟩:=MkO.at_ hP hk;have hgl:=kb.lt;have hr1:=hide (hbr.out k hk tr);have hl1:=hide (hbl.out k hk tr);have hz1:=hide (Fw.out k hk);have hcd:=hide (hcy.out k hk);obtain⟨X,hX⟩:∃X,path[k]=X:=⟨_,rfl⟩;rw[hX]at hD d0 d1 d2 d3 d4 hset hr1 hl1 hz1 hcd;obtain⟨⟨xk,xa,xb⟩,xq,xd⟩:=X;dsimp only at hD d0 d1 d2 d3 d4 hset hr1 hl1 hz1 hcd;replace hX:=hide hX;cases xq with
   |false=>
    have hl2:=hide (hR.out.trans (hl1.out (by trivial)));have hm:=hset true At ct tr ht;obtain⟨W2,hW2⟩:∃W2,(Wo.setCell ⟨gp,k*5+3,none⟩ (.bool true)).setCell ⟨gp,k*5+4,none⟩ (.slice At tr.length ct)=W2:=⟨_,rfl⟩;rw[hW2]at hm;have hT2:TyW base [64] Wo W2:=by
     rw[←hW2];exact(TyW.put kb hgp (by simp) _).trans (TyW.put (kb.aH (k*5+3) (.bool true)) hgp (by simp) _)
    have hTw:TyW base [64] w W2:=(TyW.calm hb hbase).trans hT2;have k2:=hT2.blk k1 (by decide);have g3:=kb.frozen (k*5+3);have g4:=(kb.aH (k*5+3) (.bool true)).frozen (k*5+4);have e4:=(kb.aH (k*5+3) (.bool true)).cell (k*5+4);have hlen:(path.set k ⟨⟨xk,xa,xb⟩,true,tr⟩).length=path.length:=List.length_set;have hm2:=MkO.take (k:=k+1) hm (by rw[hlen];omega);have htk:(path.set k ⟨⟨xk,xa,xb⟩,true,tr⟩).take (k+1)=path.take k++[⟨⟨xk,xa,xb⟩,true,tr⟩]:=(by rw[List.take_set,take_set hk]);rw[htk]at hm2;have e4b:(Wo.setCell ⟨gp,k*5+3,none⟩ (.bool true)).cell? ⟨gp,k*5+4,none⟩=some (.slice Ad xd.length cd):=by
     rw[World.cell?_setCell_other _ _ _ _ (by simp)];exact d4
    clear hm hT2 hset hbr hbl Du Fw hcy hun hnone hr1 hl1 hz1 hcd hR hz hc hP ht hX hD htk hlen kb e4;have z0:=Blk.n0 k2;have z1:=Blk.n1 k2;have z2:=Blk.n2 k2;have z3:=Blk.n3 k2;have f0:=k2.frozen 0;have f1:=k2.frozen 1;have f2:=k2.frozen 2;have f3:=k2.frozen 3;have hB2:Below w.heap.size W2 W2:=Below.refl _ _;have hBo:=hide (dI (a:=(.int .i64 0)) (b:=(.slice none 0 0)) (c:=(.slice none 0 0)) (d:=(.slice none 0 0)) hB2 (show w.heap.size≤w.heap.size+1 by omega));have hTo:=nP (n0:=w.heap.size) (a:=(.int .i64 0)) (b:=(.slice none 0 0)) (c:=(.slice none 0 0)) (d:=(.slice none 0 0)) k2 (by omega);have kz:=mI (a:=(.int .i64 0)) (b:=(.slice none 0 0)) (c:=(.slice none 0 0)) (d:=(.slice none 0 0)) k2;have y0:=kz.cell 0;have y1:=kz.cell 1;have y2:=kz.cell 2;have y3:=kz.cell 3;unfold fA at y0 y1 y2 y3;simp only[gA,gZ,gS]at y0 y1 y2 y3;have oM:=hide (show MkO _ base (.slice (some ⟨gp,0,none⟩) (k+1) cp) _ from hTo.AV MkR.aS hm2 (by decide));have hTf:=hide (OI hTw hBo.out hbase);clear hm2 hTw k2 kz hTo hBo k0 k1 hB2;go_wp2_with fail;exact bodyPost_ret (v:= .tuple #[.slice (some ⟨gp,0,none⟩) (k+1) cp,.agg #[.int .i64 0,.slice none 0 0,.slice none 0 0,.slice none 0 0]]) (by simp[results,Tryz.results24,go_sem,y0,y1,y2,y3]) rfl ⟨_,_,rfl,by rw[hl2.out];exact oM.out,by rw[hl2.out];exact⟨_,_,_,rfl,World.ownsRow_nil _ _ _ _,dH.nil _ _,qc.nil _ _⟩,hTf.out⟩
   |true=>
    have hr2:=hide (hr1.out (by trivial));obtain⟨nl,hnl⟩:∃nl,(⟨⟨xk,xa,xb⟩,[]⟩::(xd++tr):List Nod)=nl:=⟨_,rfl⟩;rw[hnl]at hr2;have hcc:=hide (fun W (hb:Below Wo.heap.size Wo W) g g5 (hg:Wo.heap.size≤g) (hg5:Wo.heap.size≤g5) (kg:Blk W g 36 #[.slice (some ⟨g5,0,none⟩) 1 1,.slice Ad xd.length cd,.slice At tr.length ct]) (k5:Blk W g5 69 #[.int .i64 xk,.int .i64 xa,.int .i64 xb,.slice none 0 0])=>(by
     have hK:∀b,TyK base [69,3] W b→b<W.heap.size:=fun b hb=>hb.lt;have n5:jo W base (.slice (some ⟨g5,0,none⟩) 1 1) [⟨⟨xk,xa,xb⟩,[]⟩]:=SlR.one k5 rfl Eu ⟨by have:=hb.size;omega,_,by simp,_,k5⟩;have nD:=(hD.below hb);have nT:=(ht.below hb);have hrows:SlR 1 (Qc (TyK base [69,3] W)) W (Old W) (.slice (some ⟨g,0,none⟩) 3 3) [[⟨⟨xk,xa,xb⟩,[]⟩],xd,tr]:=
      J2 (l:=[[(⟨⟨xk,xa,xb⟩,[]⟩:Nod)],xd,tr]) [[.slice (some ⟨g5,0,none⟩) 1 1],[.slice Ad xd.length cd],[.slice At tr.length ct]] kg rfl (fun i cs x h1 h2=>by
       match i with
       |0=>simp at h1 h2;subst h1 h2;exact⟨rfl,_,_,rfl,n5.k hK⟩
       |1=>simp at h1 h2;subst h1 h2;exact⟨rfl,_,_,rfl,nD.k hK⟩
       |2=>simp at h1 h2;subst h1 h2;exact⟨rfl,_,_,rfl,nT.k hK⟩
       |i+3=>simp at h1) kg.lt (by simp)
     have:=Dq (TyK base [69,3] W) (some ⟨g,0,none⟩) 3 [[⟨⟨xk,xa,xb⟩,[]⟩],xd,tr] W hK hrows (by simp) (by have:=hz.out;have:=hz1.out;simp;omega);refine this.mono ?_;rintro e w' ⟨v,rfl,hv,hb2⟩;have e:[[(⟨⟨xk,xa,xb⟩,[]⟩:Nod)],xd,tr].flatten=⟨⟨xk,xa,xb⟩,[]⟩::(xd++tr):=(by simp);rw[e]at hv;rw[hnl]at hv;exact⟨v,rfl,jo.Vo hv hb2 (Nat.le_trans hbase (Nat.le_trans hsz hb.size)),hb2⟩:Calls Tryz.prog 55 #[.slice (some ⟨g,0,none⟩) 3 3] W fun e w'=>∃v,e= .returned v∧jo w' base v nl∧Below W.heap.size W w'))
    go_upto_region 6 with fail;refine cZ Wo.heap.size [wV (.pointer (some ⟨gp,k*5,none⟩)),wV (.pointer (some ⟨gp,k*5,none⟩)),wV (.pointer (some ⟨gp,k*5,none⟩)),wV (.agg #[.int .i64 xk,.int .i64 xa,.int .i64 xb]),wV (.agg #[.int .i64 xk,.int .i64 xa,.int .i64 xb,.slice none 0 0]),wS Wo.heap.size 69 1 #[.int .i64 xk,.int .i64 xa,.int .i64 xb,.slice none 0 0],wV (.pointer (some ⟨gp,k*5,none⟩)),wV (.pointer (some ⟨gp,k*5,none⟩)),wV (.pointer (some ⟨gp,k*5+4,none⟩)),wV (.slice Ad xd.length cd),wV (.slice At tr.length ct),wBR Wo.heap.size #[.int .i64 xk,.int .i64 xa,.int .i64 xb,.slice none 0 0] (.slice Ad xd.length cd) (.slice At tr.length ct),wNP base nl,wNP base nl] [[],[0],[1],[2],[3],[4],[],[6],[7],[8],[],[5,9,10],[11],[12]] [[],[],[],[],[],[],[],[],[],[],[],[],[],[]] [[],[],[],[],[],[69],[],[],[],[],[],[69,36],[69,3],[69,3]] [] [] (Nat.le_refl _) (by kernel_rfl) (by kernel_rfl) (by kernel_rfl) (by kernel_rfl) (by kernel_rfl) (by kernel_rfl) rfl trivial (by kernel_rfl) (by kernel_rfl) ?hstep ?hend;case hstep=>
     simp only[iO,gW,RsT,acV,wV,wO,wS,wB,wU,wX,wK,wA,wBR,wNP,cK,gA,gZ,gS,List.getD_cons_zero,List.getD_cons_succ,List.getD_nil,Act.put,sA,sZ,sS,Nat.zero_add,Nat.reduceAdd,if_true,and_true];refine⟨?_,?o1,?o2,?o3,?o4,?o5,?_,?o7,?o8,?o9,?_,?o11,?o12,?o13⟩;all_goals intro vs W R hR hT hd
     all_goals have hsz:=hT.size
     case o1=>
      rw[hd];go_wp2;exact⟨rfl,_,rfl,hR _ _ rfl (TyW.refl _ _ _)⟩
     case o2=>
      rw[hd];go_wp2;exact⟨rfl,_,rfl,hR _ _ rfl (TyW.refl _ _ _)⟩
     case o3=>
      have c0:=(hT.below.cell (p:=⟨gp,k*5,none⟩) hgl).trans d0;have c1:=(hT.below.cell (p:=⟨gp,k*5+1,none⟩) hgl).trans d1;have c2:=(hT.below.cell (p:=⟨gp,k*5+2,none⟩) hgl).trans d2;rw[hd];go_wp2;exact⟨rfl,_,rfl,hR _ _ rfl (TyW.refl _ _ _)⟩
     case o4=>
      rw[hd];go_wp2;exact⟨rfl,_,rfl,hR _ _ rfl (TyW.refl _ _ _)⟩
     case o5=>
      rw[hd];go_wp2;exact⟨rfl,_,rfl,hR _ _ ⟨W.heap.size,hsz,rfl,Blk.new _ _ _⟩ (TyW.calm ((Below.refl _ _).alloc (Nat.le_refl _) _) hsz)⟩
     case o7=>
      rw[hd];go_wp2;exact⟨rfl,_,rfl,hR _ _ rfl (TyW.refl _ _ _)⟩
     case o8=>
      rw[hd];go_wp2;exact⟨rfl,_,rfl,hR _ _ rfl (TyW.refl _ _ _)⟩
     case o9=>
      have c4:=(hT.below.cell (p:=⟨gp,k*5+4,none⟩) hgl).trans d4;rw[hd];go_wp2;exact⟨rfl,_,rfl,hR _ _ rfl (TyW.refl _ _ _)⟩
     case o11=>
      obtain⟨⟨g5,hg5,e5,k5⟩,e9,e10⟩:=hd;rw[e5,e9,e10];go_wp2;exact⟨rfl,_,rfl,hR _ _ ⟨W.heap.size,g5,hsz,hg5,rfl,Blk.new _ _ _,k5.alloc _⟩ (TyW.calm ((Below.refl _ _).alloc (Nat.le_refl _) _) hsz)⟩
     case o12=>
      obtain⟨g,g5,hg,hg5,e11,kg,k5⟩:=hd;rw[e11];go_wp2_with fail;refine(hcc.out W hT.below g g5 hg hg5 kg k5).mono ?_;rintro e W2 ⟨v,rfl,hv,hb2⟩;go_wp2;exact⟨rfl,_,rfl,hR _ _ hv (TyW.calm hb2 hsz)⟩
     case o13=>
      go_wp2;exact⟨rfl,_,rfl,hR _ _ hd (TyW.refl _ _ _)⟩
     all_goals (go_wp2;exact⟨rfl,_,rfl,hR _ _ (by first|rfl|trivial) (TyW.refl _ _ _)⟩)
    case hend=>
     intro vs W hT hd;have o13:jo W base (vs 13) nl:=hd 13 (by simp) (by kernel_rfl);have hb6:=hT.below;simp only[acV,gA,gZ,gS,Act.put,sA,sZ,sS,List.length_cons,List.length_nil,Nat.reduceAdd];obtain⟨A6,c6,e6⟩:=o13.form;rw[e6]at o13⊢;have hP6:=hide (hP.below hb6);have k06:=k0.below hb6 k0.lt;have k16:=k1.below hb6 k1.lt;have hB6:=hb.trans (hb6.mono hsz);have hcn:Hid (jU nl):=hide fun n hn=>by
      rw[←hnl,List.mem_cons,List.mem_append]at hn;rcases hn with rfl|hn|hn
      ·simp
      ·exact hcd.out n hn
      ·exact hc.out n hn
     have hzn:Hid (bJ (path.take k)+nl.length≤100000000):=hide (by rw[←hnl];have:=hz.out;rw[hz1.out]at this;simp only[List.length_cons,List.length_append];omega);have hRn:Hid (R=dG H level L (path.take k).reverse nl):=hide (by rw[hR.out];exact hr2.out);clear hd hT hcc hr2 hr1 hl1 hz1 hz hR hc hcd hset kb d0 d1 d2 d3 d4 hD hP k0 k1 hb6 e6 hX hnl;go_wp2;go_roundw;case rel=>exact⟨k,nl,A6,c6,by omega,rfl,rfl,o13,hP6.out,k06,k16,hRn,hzn,hcn,hB6⟩
     case measure=>exact Nat.lt_succ_self k
end Go.Proofs.YtpjechjoijjhpaaGreatDoor
