/-
  Plain: an order that proves a yes makes a certificate that does.
-/
import Derived.BigQuiet
import Derived.Test.YtfhnamomiaekdaaGreatDoorV30
import Derived.Test.YtfhnamomiaekdaaGreatDoorV36
import Derived.Test.YtfhnamomiaekdaaGreatDoorV02
import Derived.Test.YtfhnamomiaekdaaGreatDoorV09
import Derived.Test.YtfhnamomiaekdaaGreatDoorV05
import Derived.Test.YtfhnamomiaekdaaGreatDoorV12
import Derived.Test.YtfhnamomiaekdaaGreatDoorV03
set_option linter.unusedVariables false
set_option linter.unusedSimpArgs false
namespace Go.Proofs.YtfhnamomiaekdaaGreatDoor
open Go.RowKit Go.Inq
theorem Pz{H:List Txn}{π:List Int}(hp:π.length≤1000000):Po (gJ H π):=by
 unfold gJ;split
 ·next h=>
  have:=lq h.1;refine⟨by rw[List.length_map];omega,fun r hr=> ?_⟩;obtain⟨k,hk,rfl⟩:=List.mem_map.1 hr;exact Nat.le_trans (List.length_filter_le _ _) hp
 ·exact⟨by simp,fun r hr=>by cases hr⟩
theorem Mx{H:List Txn}{level:Int}{π:List Int}(hr:ay H=true)(h:Ph H level π=true):zV H level true (if level=0 then π else[]) (if level=0 then[]else gJ H π) []=true:=by
 unfold Ph at h;unfold zV;rw[if_pos rfl];by_cases h0:level=0
 ·rw[if_pos h0]at h⊢;rw[if_pos h0,if_pos h0];unfold wo;rw[hr,h];rfl
 ·rw[if_neg h0]at h⊢;rw[if_neg h0,if_neg h0];by_cases h1:level=1
  ·rw[if_pos h1]at h⊢;rw[h];rfl
  ·rw[if_neg h1]at h;cases h
end Go.Proofs.YtfhnamomiaekdaaGreatDoor
namespace Go.Proofs.YtfhnamomiaekdaaGreatDoor
open Go.RowKit Go.Inq
set_option maxHeartbeats 4000000
attribute [local go_sem↓] Go.wp_at_zero Go.wp_at_succ
abbrev PD:=Fct×Option Addr×Nat
def Ui(x:PD):List Value:=[.int .i64 x.1.c.key,.int .i64 x.1.c.a,.int .i64 x.1.c.b,.int .i64 x.1.kind,.int .i64 x.1.i,.int .i64 x.1.j,.slice x.2.1 x.1.cyc.length x.2.2]
theorem DL{P:Program}{ops:Array Oper}{Q:Exit→Act→World→Prop}{o:Oper}{rest:List Oper}{a:Act}{W:World}(h:∀R,R=rest→wpList P ops Q (o::R) a W):wpList P ops Q (o::rest) a W:=h _ rfl
def Jf(w:World)(M:List PD)(L:List Fct):Prop:=M.map (·.1)=L∧∀x∈M,aP w (Old w) (.slice x.2.1 x.1.cyc.length x.2.2) x.1.cyc
theorem Jf.snoc{w:World}{M:List PD}{L:List Fct}{k:Nat}(h:Jf w M (L.take k))(hk:k<L.length){A:Option Addr}{c:Nat}(hy:aP w (Old w) (.slice A L[k].cyc.length c) L[k].cyc):Jf w (M++[(L[k],A,c)]) (L.take (k+1)):=by
 refine⟨by rw[List.map_append,h.1,List.take_succ_eq_append_getElem hk];rfl,fun x hx=> ?_⟩;rcases List.mem_append.1 hx with hx|hx
 ·exact h.2 x hx
 ·rw[List.mem_singleton.1 hx];exact hy
theorem Jf.len{w:World}{M:List PD}{L:List Fct}(h:Jf w M L):M.length=L.length:=by rw[←h.1,List.length_map]
theorem Jf.s{w w':World}{M:List PD}{L:List Fct}{base:Nat}{e:TypeId}{v:Value}(h:Jf w M L)(ho:w'.ownsRow base e 7 v M.length (M.map Ui).flatten)(hb:Below w.heap.size w w'):eY w' (Old w') v L:=by
 refine SlR.rG (ys:=M.map Ui) ho h.len rfl (by rw[List.length_map];exact h.len) (fun i cs x h1 h2=> ?_) (fun g hg=>(ho.lt g hg).2);rw[List.getElem?_map]at h1;obtain⟨m,hm,rfl⟩:=Option.map_eq_some_iff.1 h1;have e1:(M.map (·.1))[i]?=some m.1:=(by rw[List.getElem?_map,hm];rfl);rw[h.1,h2]at e1;injection e1 with e1
 refine⟨rfl,m.2.1,m.2.2,by rw[e1];rfl,?_⟩;rw[e1];exact(h.2 m (List.mem_of_getElem? hm)).below hb
abbrev uV:=Nod×Option Addr×Nat
def qA(x:uV):List Value:=[.int .i64 x.1.c.key,.int .i64 x.1.c.a,.int .i64 x.1.c.b,.slice x.2.1 x.1.cyc.length x.2.2]
theorem MB(x:uV):(qA x).length=4:=rfl
theorem MC:∀x,∀u∈qA x,u.oneCell'=true:=by
 intro x u hu;simp only[qA,List.mem_cons,List.not_mem_nil,or_false]at hu;rcases hu with rfl|rfl|rfl|rfl<;>rfl
theorem PE:(Tryz.prog.info? 126).map (fun i=>(i.zero,i.size,i.bytes))=some (some (.agg #[.int .i64 0,.int .i64 0,.int .i64 0,.slice none 0 0]),4,48):=by kernel_rfl
def Jg(w:World)(M:List uV)(L:List Nod):Prop:=M.map (·.1)=L∧∀x∈M,aP w (Old w) (.slice x.2.1 x.1.cyc.length x.2.2) x.1.cyc
theorem Jg.snoc{w:World}{M:List uV}{L:List Nod}{k:Nat}(h:Jg w M (L.take k))(hk:k<L.length){A:Option Addr}{c:Nat}(hy:aP w (Old w) (.slice A L[k].cyc.length c) L[k].cyc):Jg w (M++[(L[k],A,c)]) (L.take (k+1)):=by
 refine⟨by rw[List.map_append,h.1,List.take_succ_eq_append_getElem hk];rfl,fun x hx=> ?_⟩;rcases List.mem_append.1 hx with hx|hx
 ·exact h.2 x hx
 ·rw[List.mem_singleton.1 hx];exact hy
theorem Jg.len{w:World}{M:List uV}{L:List Nod}(h:Jg w M L):M.length=L.length:=by rw[←h.1,List.length_map]
theorem Jg.s{w w':World}{M:List uV}{L:List Nod}{base:Nat}{e:TypeId}{v:Value}(h:Jg w M L)(ho:w'.ownsRow base e 4 v M.length (M.map qA).flatten)(hb:Below w.heap.size w w'):bJ w' (Old w') v L:=by
 refine SlR.rG (ys:=M.map qA) ho h.len rfl (by rw[List.length_map];exact h.len) (fun i cs x h1 h2=> ?_) (fun g hg=>(ho.lt g hg).2);rw[List.getElem?_map]at h1;obtain⟨m,hm,rfl⟩:=Option.map_eq_some_iff.1 h1;have e1:(M.map (·.1))[i]?=some m.1:=(by rw[List.getElem?_map,hm];rfl);rw[h.1,h2]at e1;injection e1 with e1
 refine⟨rfl,m.2.1,m.2.2,by rw[e1];rfl,?_⟩;rw[e1];exact(h.2 m (List.mem_of_getElem? hm)).below hb
def jD(K:Nat→Prop)(w:World)(M:List uV)(L:List Nod):Prop:=M.map (·.1)=L∧∀x∈M,aP w K (.slice x.2.1 x.1.cyc.length x.2.2) x.1.cyc
theorem jD.snoc{K:Nat→Prop}{w:World}{M:List uV}{L:List Nod}{k:Nat}(h:jD K w M (L.take k))(hk:k<L.length){A:Option Addr}{c:Nat}(hy:aP w K (.slice A L[k].cyc.length c) L[k].cyc):jD K w (M++[(L[k],A,c)]) (L.take (k+1)):=by
 refine⟨by rw[List.map_append,h.1,List.take_succ_eq_append_getElem hk];rfl,fun x hx=> ?_⟩;rcases List.mem_append.1 hx with hx|hx
 ·exact h.2 x hx
 ·rw[List.mem_singleton.1 hx];exact hy
theorem jD.len{K:Nat→Prop}{w:World}{M:List uV}{L:List Nod}(h:jD K w M L):M.length=L.length:=by rw[←h.1,List.length_map]
theorem jD.s{K K':Nat→Prop}{w w':World}{M:List uV}{L:List Nod}{base:Nat}{e:TypeId}{v:Value}(h:jD K w M L)(ho:w'.ownsRow base e 4 v M.length (M.map qA).flatten)(ha:Agree K w w')(hK:∀b,K b→K' b)(hO:∀g,v.ownBlock=some g→K' g):bJ w' K' v L:=by
 refine SlR.rG (ys:=M.map qA) ho h.len rfl (by rw[List.length_map];exact h.len) (fun i cs x h1 h2=> ?_) hO;rw[List.getElem?_map]at h1;obtain⟨m,hm,rfl⟩:=Option.map_eq_some_iff.1 h1;have e1:(M.map (·.1))[i]?=some m.1:=(by rw[List.getElem?_map,hm];rfl);rw[h.1,h2]at e1;injection e1 with e1
 refine⟨rfl,m.2.1,m.2.2,by rw[e1];rfl,?_⟩;rw[e1];exact aP.keep (h.2 m (List.mem_of_getElem? hm)) ha hK
def QM(K:Nat→Prop)(w:World)(L:List Nod)(e:Ending)(w':World):Prop:=∃A c,∃M:List uV,e= .returned (.slice A L.length c)∧w'.ownsRow w.heap.size 126 4 (.slice A L.length c) M.length (M.map qA).flatten∧jD K w M L∧Below w.heap.size w w'
set_option maxRecDepth 100000 in
theorem F4(K:Nat→Prop)(A:Option Addr)(c:Nat)(L:List Nod)(w:World)(hKl:∀b,K b→b<w.heap.size)(h:bJ w K (.slice A L.length c) L)(hn:L.length≤1000000):
 Calls Tryz.prog 69 #[.slice A L.length c] w (QM K w L):=by
 obtain⟨ii,hii,hi1,hi2,hi3⟩:=info_parts PE;have hcp:=hide (fun(M:List uV) k (hc:jD K w M (L.take k)) (hk:k<L.length) A c (hy:aP w K (.slice A L[k].cyc.length c) L[k].cyc)=>hc.snoc hk hy);replace h:=hide h;go_enter Tryz.func69,Tryz.ntmps69;go_wp2_with fail;go_loopw [3,4] (fun s3 s4 wr=>∃k:Nat,∃M:List uV,k≤L.length∧s4= .int .i64 k∧wr.ownsRow w.heap.size 126 4 s3 M.length (M.map qA).flatten∧Hid (jD K w M (L.take k))∧Below w.heap.size w wr) (fun _ s4 _=>L.length-(intOf s4).toNat);case atStart=>exact⟨0,[],Nat.zero_le _,by go_num,World.ownsRow_nil _ _ _ _,hide ⟨rfl,fun x hx=>by cases hx⟩,Below.refl _ _⟩
 case round=>
  obtain⟨Wo,rfl⟩:∃Wo,Wo=wr:=⟨_,rfl⟩;obtain⟨k,M,hk,rfl,hown,hco,hb⟩:=hrel;have hk1:(0:Int)≤(k:Int):=Int.natCast_nonneg _;have hml:M.length=k:=(by rw[hco.out.len,List.length_take];omega);by_cases hlt:k<L.length
  ·have hk2:(k:Int)<(L.length:Int):=(by omega);obtain⟨b,off,Ay,cy,rfl,hK0,d⟩:=h.out.at_ hlt;have hK:=hKl b hK0;have d0:=(hb.cell (p:=⟨b,off+k*4,none⟩) hK).trans d.d0;have d1:=(hb.cell (p:=⟨b,off+k*4+1,none⟩) hK).trans d.d1;have d2:=(hb.cell (p:=⟨b,off+k*4+2,none⟩) hK).trans d.d2;have d3:=(hb.cell (p:=⟨b,off+k*4+3,none⟩) hK).trans d.d3;have hc2:=hide (hcp.out M k hco.out hlt Ay cy d.cyc);obtain⟨Av,cv,rfl⟩:=aU hown;generalize L[k]=f at*;obtain⟨⟨fk,fa,fb⟩,fy⟩:=f;dsimp only at d0 d1 d2 d3;have qM:=hb.size;have hown2:Hid (Wo.drew.ownsRow w.heap.size 126 4 (.slice Av M.length cv) M.length (M.map qA).flatten):=hide hown;clear hown d hcp hco;replace hml:=hide hml;go_upto_region 5 with fail;refine eB [0,1,2,3,4,5,6,7,8,9,10,11] [12,13,14] (by kernel_rfl) (by kernel_rfl) (fun _ _ d _ _ h=>by cases d<;>exact h) ?_;simp only[List.filterMap_cons,List.filterMap_nil,gZ,gS];repeat still_step
   refine wpStill_nil ?_;clear d0 d1 d2 d3;refine DL fun R hR=> ?_;go_wp2;subst hR;refine bF (W:=Wo.drew) (enc:=qA) rfl (.tmp 11) (.tmp 23) 39 rfl w.heap.size 126 ii _ 4 48 Tryz.underlying39 hii hi1 hi2 hi3 rfl (by decide) (.slice Av M.length cv) M rfl hown2.out MB (⟨⟨⟨fk,fa,fb⟩,fy⟩,Ay,cy⟩:uV) _ rfl rfl MC (by have:=hml.out;simp[maxLen];omega) (by have:=hml.out;omega) qM w w.heap.size (Nat.le_refl _) (gV hb) ?_;intro v1 w6 hown1 hg1 hb1 nI;go_wp2;go_roundw;case rel=>exact⟨k+1,_,by omega,by go_num,hown1,hc2,hb1⟩
   case measure=>simp[intOf];omega
  ·obtain rfl:k=L.length:=(by omega);have VD:jD K w M L:=(by have:=hco.out;rwa[List.take_length]at this);obtain⟨Av,cv,rfl⟩:=aU hown;have hown2:=hide hown;rw[hml];clear hown;go_wp2;go_ret;exact⟨Av,cv,M,rfl,by rw[←hml];exact hown2.out,VD,hb⟩
theorem MkR.one:∀(w:World) (K:Nat→Prop) (cs:List Value) (x:Mk),MkR w K cs x→∀u∈cs,u.oneCell'=true:=by
 rintro w K cs x ⟨A,c,rfl,_⟩ u hu;simp only[List.mem_cons,List.not_mem_nil,or_false]at hu;rcases hu with rfl|rfl|rfl|rfl|rfl<;>rfl
theorem PG:(Tryz.prog.info? 132).map (fun i=>(i.zero,i.size,i.bytes))=some (some (.agg #[.int .i64 0,.int .i64 0,.int .i64 0,.bool false,.slice none 0 0]),5,56):=by kernel_rfl
theorem nW{w:World}{n:Nat}:Below w.heap.size w (w.drewN n):=⟨rfl,rfl,rfl,Nat.le_refl _,fun _ _=>rfl⟩
set_option maxRecDepth 100000 in
theorem F5(A A':Option Addr)(c c':Nat)(l:List Nod)(w:World)(h:bJ w (Old w) (.slice A l.length c) l)(h':bJ w (Old w) (.slice A' l.length c') l)(hn:u7 l):
 Calls Tryz.prog 65 #[.slice A l.length c,.slice A' l.length c'] w fun e w'=>e= .returned (.bool true)∧Below w.heap.size w w':=by
 have hh:=hide (fun W (hb:Below w.heap.size w W)=>h.below hb);have hh':=hide (fun W (hb:Below w.heap.size w W)=>h'.below hb);have hself:=hide (fun(x:Int)=>show(x !=x)=false by simp);have hl:=hn.1;replace hn:=hide hn;clear h h';go_enter Tryz.func65,Tryz.ntmps65;go_wp2_with fail;go_loopw [5] (fun s5 wr=>∃i:Nat,i≤l.length∧s5= .int .i64 i∧Below w.heap.size w wr) (fun s5 _=>l.length-(intOf s5).toNat);case atStart=>exact⟨0,Nat.zero_le _,by go_num,Below.refl _ _⟩
 case round=>
  obtain⟨i,hi,rfl,hb⟩:=hrel;obtain⟨Wr,rfl⟩:∃Wr,Wr=wr:=⟨_,rfl⟩;have hi0:(0:Int)≤(i:Int):=Int.natCast_nonneg _;by_cases hlt:i<l.length
  ·have hi1:(i:Int)<(l.length:Int):=(by omega);obtain⟨b,off,Ay,cy,rfl,-,d⟩:=(hh.out Wr hb).at_ hlt;obtain⟨b',off',Ay',cy',rfl,-,d'⟩:=(hh'.out Wr hb).at_ hlt;have hd:=hide (fun W (hbW:Below w.heap.size w W)=>(by
    obtain⟨b1,off1,Ay1,cy1,e,-,d1⟩:=(hh.out W hbW).at_ hlt;injection e with e
    injection e with e1 e2
    subst e1 e2;exact⟨Ay1,cy1,d1.d3,d1.cyc⟩:∃Ay cy,W.cell? ⟨b,off+i*4+3,none⟩=some (.slice Ay l[i].cyc.length cy)∧aP W (Old W) (.slice Ay l[i].cyc.length cy) l[i].cyc))
   have hd':=hide (fun W (hbW:Below w.heap.size w W)=>(by
    obtain⟨b1,off1,Ay1,cy1,e,-,d1⟩:=(hh'.out W hbW).at_ hlt;injection e with e
    injection e with e1 e2
    subst e1 e2;exact⟨Ay1,cy1,d1.d3,d1.cyc⟩:∃Ay cy,W.cell? ⟨b',off'+i*4+3,none⟩=some (.slice Ay l[i].cyc.length cy)∧aP W (Old W) (.slice Ay l[i].cyc.length cy) l[i].cyc))
   have hcn:=hn.out.2 _ (List.getElem_mem hlt);obtain⟨d0,d1,d2,d3,-⟩:=d;obtain⟨e0,e1,e2,e3,-⟩:=d';generalize l[i]=x at*;obtain⟨⟨xk,xa,xb⟩,xc⟩:=x;dsimp only at d0 d1 d2 d3 e0 e1 e2 e3 hd hd' hcn;go_upto_region 6 with fail;go_quiet (fail);go_wp2;go_loopw [6] (fun s6 wr=>∃j:Nat,j≤xc.length∧s6= .int .i64 j∧Below w.heap.size w wr) (fun s6 _=>xc.length-(intOf s6).toNat);case atStart=>exact⟨0,Nat.zero_le _,by go_num,hb.trans (nW.mono hb.size)⟩
   case round=>
    clear hb d0 d1 d2 d3 e0 e1 e2 e3;obtain⟨j,hj,rfl,hb⟩:=hrel;obtain⟨Wj,rfl⟩:∃Wj,Wj=wr:=⟨_,rfl⟩;have hj0:(0:Int)≤(j:Int):=Int.natCast_nonneg _;obtain⟨Ay2,cy2,d3,hy⟩:=hd.out Wj hb;obtain⟨Ay3,cy3,e3,hz⟩:=hd'.out Wj hb;by_cases hlt2:j<xc.length
    ·have hj1:(j:Int)<(xc.length:Int):=(by omega);obtain⟨b2,off2,rfl,-,r0⟩:=aP.at_ hy hlt2;obtain⟨b3,WQ,rfl,-,r1⟩:=aP.at_ hz hlt2;generalize xc[j]=y at*;have q0:=hself.out y;clear hy hz hd hd';go_wp2;go_quiet (fail);go_wp2;go_roundw;case rel=>exact⟨j+1,by omega,by go_num,hb.trans (nW.mono hb.size)⟩
     case measure=>simp[intOf]<;>omega
    ·obtain rfl:j=xc.length:=(by omega);clear hy hz hd hd';go_wp2;go_roundw;case rel=>exact⟨i+1,by omega,by go_num,hb⟩
     case measure=>simp[intOf]<;>omega
  ·obtain rfl:i=l.length:=(by omega);go_wp2;go_ret;exact⟨rfl,hb⟩
set_option maxHeartbeats 8000000
def VE(w:World)(P:List Mk)(e:Ending)(w':World):Prop:=∃A' c',e= .returned (.slice A' P.length c')∧MkS w' (Old w') (.slice A' P.length c') P∧Below w.heap.size w w'
set_option maxRecDepth 100000 in
theorem xH(A:Option Addr)(c:Nat)(P:List Mk)(w:World)(h:MkS w (Old w) (.slice A P.length c) P)(hn:P.length≤1000000)(hd:∀m∈P,m.done.length≤1000000):
 Calls Tryz.prog 21 #[.slice A P.length c] w (VE w P):=by
 obtain⟨im,him,hm1,hm2,hm3⟩:=info_parts PG;have h0:=hide h;have hrow:=hide (fun k (hk:k<P.length)=>(take_snoc' hk:P.take (k+1)=P.take k++[P[k]]));replace hd:=hide fun i (hi:i<P.length)=>hd _ (List.getElem_mem hi);clear h;go_enter Tryz.func21,Tryz.ntmps21;go_wp2_with fail;go_loopw [3,4] (fun s3 s4 wr=>∃k:Nat,k≤P.length∧s4= .int .i64 k∧aG 5 MkR wr (fun b=>b<wr.heap.size∧s3.ownBlock≠some b) w.heap.size 132 s3 (P.take k)∧Below w.heap.size w wr) (fun _ s4 _=>P.length-(intOf s4).toNat);case atStart=>exact⟨0,Nat.zero_le _,by go_num,aG.nil _ _ _ _ _ _,Below.refl _ _⟩
 case round=>
  obtain⟨Wo,rfl⟩:∃Wo,Wo=wr:=⟨_,rfl⟩;obtain⟨k,hk,rfl,hO,hb⟩:=hrel;have hk1:(0:Int)≤(k:Int):=Int.natCast_nonneg _;obtain⟨Av,cv,rfl⟩:=hO.form;by_cases hlt:k<P.length
  ·have hk2:(k:Int)<(P.length:Int):=(by omega);obtain⟨b,off,Ay,cy,rfl,hbK,d⟩:=MkS.at_ h0.out hlt;have hyl:=hd.out k hlt;have Uj:b<w.heap.size:=hbK;have d0:Wo.drew.cell? _=_:=(hb.cell (p:=⟨b,off+k*5,none⟩) hbK).trans d.d0;have d1:Wo.drew.cell? _=_:=(hb.cell (p:=⟨b,off+k*5+1,none⟩) hbK).trans d.d1;have d2:Wo.drew.cell? _=_:=(hb.cell (p:=⟨b,off+k*5+2,none⟩) hbK).trans d.d2;have d3:Wo.drew.cell? _=_:=(hb.cell (p:=⟨b,off+k*5+3,none⟩) hbK).trans d.d3;have d4:Wo.drew.cell? _=_:=(hb.cell (p:=⟨b,off+k*5+4,none⟩) hbK).trans d.d4;have hdn:=d.done;have hst:=hide (hrow.out k hlt);have hMl:(P.take k).length≤1000000:=(by rw[List.length_take];omega);have hbx:Hid (b<Wo.drew.heap.size):=hide (Nat.lt_of_lt_of_le Uj hb.size);have hb0:Hid (w.heap.size≤Wo.drew.heap.size):=hide hb.size;clear d;generalize P[k]=m at*;obtain⟨⟨mk,ma,mb⟩,mr,md⟩:=m;dsimp only at d0 d1 d2 d3 d4 hdn hst hyl;generalize P.take k=M at*;have hNK:bJ Wo.drew (Old w) (.slice Ay md.length cy) md:=bJ.keep hdn (Agree.below (gV hb) fun b h=>h) (fun b h=>h);have hcn:=hide (F4 (Old w) Ay cy md Wo.drew (fun b hb'=>Nat.lt_of_lt_of_le hb' hb.size) hNK hyl);have hOd:aG 5 MkR Wo.drew (fun b=>b<Wo.drew.heap.size∧(Value.slice Av M.length cv).ownBlock≠some b) w.heap.size 132 (.slice Av M.length cv) M:=hO;have fF:=hide (fun g hg=>hOd.lt g hg);replace hOd:=hide hOd;clear hO hNK hdn hbK Uj;go_wp2_with fail;refine kI [0,1,2,3,4,6,7,8,9,11,12,13,14,15] [5,10,16,17,18,19,20] [[5,10,16,17,18,19,20],[5,16,10,17,18,19,20],[10,5,16,17,18,19,20],[10,16,5,17,18,19,20],[16,5,10,17,18,19,20],[16,10,5,17,18,19,20]] (by kernel_rfl) (by kernel_rfl) (fun _ _ d _ _ h=>by cases d<;>exact h) ?_;simp only[List.filterMap_cons,List.filterMap_nil,gZ,gS];repeat still_step
   refine wpStill_nil ?_;intro i hi;simp only[List.filterMap_cons,List.head?_cons,List.filterMap_nil,List.mem_cons,List.not_mem_nil,or_false,or_self]at hi;obtain rfl|rfl|rfl:i=5∨i=10∨i=16:=by omega
   ·refine aF rfl ?_;simp only[aL,List.filterMap_cons,List.filterMap_nil,if_true,if_false,reduceIte,Nat.reduceEqDiff,List.length_cons,List.length_nil,Nat.reduceAdd];go_wp2_with fail;intro i hi;simp only[List.filterMap_cons,List.head?_cons,List.filterMap_nil,List.mem_cons,List.not_mem_nil,or_false,or_self]at hi;obtain rfl|rfl:i=10∨i=16:=by omega
    ·refine aF rfl ?_;simp only[aL,List.filterMap_cons,List.filterMap_nil,if_true,if_false,reduceIte,Nat.reduceEqDiff,List.length_cons,List.length_nil,Nat.reduceAdd];go_wp2_with fail;intro iq hiq;have hiq:iq=16:=by
      simp only[List.filterMap_cons,List.head?_cons,List.filterMap_nil,List.mem_cons,List.not_mem_nil,or_false,or_self]at hiq;omega
     cases hiq;refine aF rfl ?_;simp only[aL,List.filterMap_cons,List.filterMap_nil,if_true,if_false,reduceIte,Nat.reduceEqDiff,List.length_cons,List.length_nil,Nat.reduceAdd];go_wp2_with fail;refine hcn.out.mono ?_;rintro e w5 ⟨An,cn,Mn,rfl,ho5,jE,hb5⟩;have e0:=(hb5.cell (p:=⟨b,off+k*5,none⟩) hbx.out).trans d0;have e1:=(hb5.cell (p:=⟨b,off+k*5+1,none⟩) hbx.out).trans d1;have e2:=(hb5.cell (p:=⟨b,off+k*5+2,none⟩) hbx.out).trans d2;have e3:=(hb5.cell (p:=⟨b,off+k*5+3,none⟩) hbx.out).trans d3;replace ho5:=hide ho5;replace jE:=hide jE;clear hcn;go_wp2_with fail;clear d0 d1 d2 d3 d4 e0 e1 e2 e3;intro iq hiq;have hiq:iq=17:=by
      simp only[List.filterMap_cons,List.head?_cons,List.filterMap_nil,List.mem_cons,List.not_mem_nil,or_false,or_self]at hiq;omega
     cases hiq;refine aF rfl ?_;simp only[aL,List.filterMap_cons,List.filterMap_nil,if_true,if_false,reduceIte,Nat.reduceEqDiff,List.length_cons,List.length_nil,Nat.reduceAdd];go_wp2_with fail;intro iq hiq;have hiq:iq=18:=by
      simp only[List.filterMap_cons,List.head?_cons,List.filterMap_nil,List.mem_cons,List.not_mem_nil,or_false,or_self]at hiq;omega
     cases hiq;refine aF rfl ?_;simp only[aL,List.filterMap_cons,List.filterMap_nil,if_true,if_false,reduceIte,Nat.reduceEqDiff,List.length_cons,List.length_nil,Nat.reduceAdd];go_wp2_with fail;intro iq hiq;have hiq:iq=19:=by
      simp only[List.filterMap_cons,List.head?_cons,List.filterMap_nil,List.mem_cons,List.not_mem_nil,or_false,or_self]at hiq;omega
     cases hiq;refine aF rfl ?_;simp only[aL,List.filterMap_cons,List.filterMap_nil,if_true,if_false,reduceIte,Nat.reduceEqDiff,List.length_cons,List.length_nil,Nat.reduceAdd];obtain⟨W2,hW2⟩:∃W2,w5.alloc (.cells #[.int .i64 mk,.int .i64 ma,.int .i64 mb,.bool mr,.slice An md.length cn] 132)=W2:=⟨_,rfl⟩;rw[hW2];have kN:=Blk.newEq hW2;have hB2:=ah (Below.refl w5.heap.size w5) hW2 (Nat.le_refl _);have hs2:W2.heap.size=w5.heap.size+1:=aA hW2;have hs5:Wo.drew.heap.size≤w5.heap.size:=hb5.size;have hs6:Wo.heap.size≤w5.heap.size:=hb5.size;have hDW:Below Wo.drew.heap.size Wo.drew W2:=hb5.trans (hB2.mono hb5.size);have hOW:Below Wo.heap.size Wo W2:=(⟨rfl,rfl,rfl,Nat.le_refl _,fun _ _=>rfl⟩:Below Wo.heap.size Wo Wo.drew).trans hDW;have hbw:=hb.trans (hOW.mono hb.size);have hwo:=hb.size;have hO2:aG 5 MkR W2 (fun b=>b<W2.heap.size∧(Value.slice Av M.length cv).ownBlock≠some b) w.heap.size 132 (.slice Av M.length cv) M:=
      aG.keep MkR.aO hOd.out (Agree.below hDW fun b hb=>hb.1) (fun b hb=>⟨by have:=hb.1;omega,hb.2⟩) fun g hg=>hDW.block g (fF.out g hg).2
     have ho2:=own_below ho5.out hB2 (Nat.le_refl _);have hN2:bJ W2 (fun b=>b<W2.heap.size∧(Value.slice Av M.length cv).ownBlock≠some b) (.slice An md.length cn) md:=
      jD.s jE.out ho2 (Agree.below hDW fun b hb=>Nat.lt_of_lt_of_le hb hb0.out) (fun b hb=>⟨by have:b<w.heap.size:=hb;omega,fun e=>by have:=(fF.out b e).1;have:b<w.heap.size:=hb;omega⟩)
       fun g hg=>⟨(ho2.lt g hg).2,fun e=>by have h1:=(fF.out g e).2;have h2:Wo.heap.size≤g:=(ho2.lt g hg).1;have h1:g<Wo.heap.size:=h1;omega⟩
     have hsrc:SlR 5 MkR W2 (fun b=>b<W2.heap.size∧(Value.slice Av M.length cv).ownBlock≠some b) (.slice (some ⟨w5.heap.size,0,none⟩) 1 1) [(⟨⟨mk,ma,mb⟩,mr,md⟩:Mk)]:=
      SlR.one kN rfl ⟨An,cn,rfl,hN2⟩ ⟨by show w5.heap.size<_;omega,fun e=>by have h1:w5.heap.size<Wo.heap.size:=(fF.out _ e).2;omega⟩
     clear hW2 hOd kN hN2 ho2 ho5 jE hB2 hDW hOW;refine aX (R:=MkR) rfl (.tmp 11) (.tmp 29) 55 rfl w.heap.size 132 im _ 5 56 Tryz.underlying55 him hm1 hm2 hm3 rfl (by decide) (.slice Av M.length cv) _ M rfl hO2 _ [(⟨⟨mk,ma,mb⟩,mr,md⟩:Mk)] rfl hsrc (fun cs x h=>MkR.one _ _ cs x h) (by simp[maxLen];omega) (by simp;omega) (by omega) (fun w' hg cs x hx=>MkR.aO _ _ _ _ _ _ hx (Agree.grown hg (fun b hb=>⟨hb.1,fun e=>hb.2 e.symm⟩)) (fun _ h=>h)) ?_;intro v7 W7 hO7 hg7 l5;have hs7:=hg7.size;have hb9:=hbw.grown hg7 hbw.size (fun j e=>by have:=(fF.out j e).1;omega);have hO9:aG 5 MkR W7 (fun b=>b<W7.heap.size∧v7.ownBlock≠some b) w.heap.size 132 v7 (M++[(⟨⟨mk,ma,mb⟩,mr,md⟩:Mk)]):=aG.keep MkR.aO hO7 (Agree.refl _ _) (fun b hb=>⟨by have:=hb.1;omega,fun e=>by
      rcases l5 with e'|e'
      ·exact hb.2 (e'▸e)
      ·rw[e']at e;injection e with e;have:=hb.1;omega⟩) fun _ _=>rfl
     rw[←hst.out]at hO9;clear hO7 hO2 hsrc hg7 l5 fF hbw;replace hO9:=hide hO9;go_wp2_with fail;refine cK _ _ _ _ rfl ?_;simp only[List.filterMap_cons,List.filterMap_nil,gA,gZ,gS];go_wp2;go_roundw;case rel=>exact⟨k+1,by omega,by go_num,hO9.out,hb9⟩
     case measure=>simp[intOf];omega
    ·refine aF rfl ?_;simp only[aL,List.filterMap_cons,List.filterMap_nil,if_true,if_false,reduceIte,Nat.reduceEqDiff,List.length_cons,List.length_nil,Nat.reduceAdd];go_wp2_with fail;refine hcn.out.mono ?_;rintro e w5 ⟨An,cn,Mn,rfl,ho5,jE,hb5⟩;have e0:=(hb5.cell (p:=⟨b,off+k*5,none⟩) hbx.out).trans d0;have e1:=(hb5.cell (p:=⟨b,off+k*5+1,none⟩) hbx.out).trans d1;have e2:=(hb5.cell (p:=⟨b,off+k*5+2,none⟩) hbx.out).trans d2;have e3:=(hb5.cell (p:=⟨b,off+k*5+3,none⟩) hbx.out).trans d3;replace ho5:=hide ho5;replace jE:=hide jE;clear hcn;go_wp2_with fail;intro iq hiq;have hiq:iq=10:=by
      simp only[List.filterMap_cons,List.head?_cons,List.filterMap_nil,List.mem_cons,List.not_mem_nil,or_false,or_self]at hiq;omega
     cases hiq;refine aF rfl ?_;simp only[aL,List.filterMap_cons,List.filterMap_nil,if_true,if_false,reduceIte,Nat.reduceEqDiff,List.length_cons,List.length_nil,Nat.reduceAdd];go_wp2_with fail;clear d0 d1 d2 d3 d4 e0 e1 e2 e3;intro iq hiq;have hiq:iq=17:=by
      simp only[List.filterMap_cons,List.head?_cons,List.filterMap_nil,List.mem_cons,List.not_mem_nil,or_false,or_self]at hiq;omega
     cases hiq;refine aF rfl ?_;simp only[aL,List.filterMap_cons,List.filterMap_nil,if_true,if_false,reduceIte,Nat.reduceEqDiff,List.length_cons,List.length_nil,Nat.reduceAdd];go_wp2_with fail;intro iq hiq;have hiq:iq=18:=by
      simp only[List.filterMap_cons,List.head?_cons,List.filterMap_nil,List.mem_cons,List.not_mem_nil,or_false,or_self]at hiq;omega
     cases hiq;refine aF rfl ?_;simp only[aL,List.filterMap_cons,List.filterMap_nil,if_true,if_false,reduceIte,Nat.reduceEqDiff,List.length_cons,List.length_nil,Nat.reduceAdd];go_wp2_with fail;intro iq hiq;have hiq:iq=19:=by
      simp only[List.filterMap_cons,List.head?_cons,List.filterMap_nil,List.mem_cons,List.not_mem_nil,or_false,or_self]at hiq;omega
     cases hiq;refine aF rfl ?_;simp only[aL,List.filterMap_cons,List.filterMap_nil,if_true,if_false,reduceIte,Nat.reduceEqDiff,List.length_cons,List.length_nil,Nat.reduceAdd];obtain⟨W2,hW2⟩:∃W2,w5.alloc (.cells #[.int .i64 mk,.int .i64 ma,.int .i64 mb,.bool mr,.slice An md.length cn] 132)=W2:=⟨_,rfl⟩;rw[hW2];have kN:=Blk.newEq hW2;have hB2:=ah (Below.refl w5.heap.size w5) hW2 (Nat.le_refl _);have hs2:W2.heap.size=w5.heap.size+1:=aA hW2;have hs5:Wo.drew.heap.size≤w5.heap.size:=hb5.size;have hs6:Wo.heap.size≤w5.heap.size:=hb5.size;have hDW:Below Wo.drew.heap.size Wo.drew W2:=hb5.trans (hB2.mono hb5.size);have hOW:Below Wo.heap.size Wo W2:=(⟨rfl,rfl,rfl,Nat.le_refl _,fun _ _=>rfl⟩:Below Wo.heap.size Wo Wo.drew).trans hDW;have hbw:=hb.trans (hOW.mono hb.size);have hwo:=hb.size;have hO2:aG 5 MkR W2 (fun b=>b<W2.heap.size∧(Value.slice Av M.length cv).ownBlock≠some b) w.heap.size 132 (.slice Av M.length cv) M:=
      aG.keep MkR.aO hOd.out (Agree.below hDW fun b hb=>hb.1) (fun b hb=>⟨by have:=hb.1;omega,hb.2⟩) fun g hg=>hDW.block g (fF.out g hg).2
     have ho2:=own_below ho5.out hB2 (Nat.le_refl _);have hN2:bJ W2 (fun b=>b<W2.heap.size∧(Value.slice Av M.length cv).ownBlock≠some b) (.slice An md.length cn) md:=
      jD.s jE.out ho2 (Agree.below hDW fun b hb=>Nat.lt_of_lt_of_le hb hb0.out) (fun b hb=>⟨by have:b<w.heap.size:=hb;omega,fun e=>by have:=(fF.out b e).1;have:b<w.heap.size:=hb;omega⟩)
       fun g hg=>⟨(ho2.lt g hg).2,fun e=>by have h1:=(fF.out g e).2;have h2:Wo.heap.size≤g:=(ho2.lt g hg).1;have h1:g<Wo.heap.size:=h1;omega⟩
     have hsrc:SlR 5 MkR W2 (fun b=>b<W2.heap.size∧(Value.slice Av M.length cv).ownBlock≠some b) (.slice (some ⟨w5.heap.size,0,none⟩) 1 1) [(⟨⟨mk,ma,mb⟩,mr,md⟩:Mk)]:=
      SlR.one kN rfl ⟨An,cn,rfl,hN2⟩ ⟨by show w5.heap.size<_;omega,fun e=>by have h1:w5.heap.size<Wo.heap.size:=(fF.out _ e).2;omega⟩
     clear hW2 hOd kN hN2 ho2 ho5 jE hB2 hDW hOW;refine aX (R:=MkR) rfl (.tmp 11) (.tmp 29) 55 rfl w.heap.size 132 im _ 5 56 Tryz.underlying55 him hm1 hm2 hm3 rfl (by decide) (.slice Av M.length cv) _ M rfl hO2 _ [(⟨⟨mk,ma,mb⟩,mr,md⟩:Mk)] rfl hsrc (fun cs x h=>MkR.one _ _ cs x h) (by simp[maxLen];omega) (by simp;omega) (by omega) (fun w' hg cs x hx=>MkR.aO _ _ _ _ _ _ hx (Agree.grown hg (fun b hb=>⟨hb.1,fun e=>hb.2 e.symm⟩)) (fun _ h=>h)) ?_;intro v7 W7 hO7 hg7 l5;have hs7:=hg7.size;have hb9:=hbw.grown hg7 hbw.size (fun j e=>by have:=(fF.out j e).1;omega);have hO9:aG 5 MkR W7 (fun b=>b<W7.heap.size∧v7.ownBlock≠some b) w.heap.size 132 v7 (M++[(⟨⟨mk,ma,mb⟩,mr,md⟩:Mk)]):=aG.keep MkR.aO hO7 (Agree.refl _ _) (fun b hb=>⟨by have:=hb.1;omega,fun e=>by
      rcases l5 with e'|e'
      ·exact hb.2 (e'▸e)
      ·rw[e']at e;injection e with e;have:=hb.1;omega⟩) fun _ _=>rfl
     rw[←hst.out]at hO9;clear hO7 hO2 hsrc hg7 l5 fF hbw;replace hO9:=hide hO9;go_wp2_with fail;refine cK _ _ _ _ rfl ?_;simp only[List.filterMap_cons,List.filterMap_nil,gA,gZ,gS];go_wp2;go_roundw;case rel=>exact⟨k+1,by omega,by go_num,hO9.out,hb9⟩
     case measure=>simp[intOf];omega
   ·refine aF rfl ?_;simp only[aL,List.filterMap_cons,List.filterMap_nil,if_true,if_false,reduceIte,Nat.reduceEqDiff,List.length_cons,List.length_nil,Nat.reduceAdd];go_wp2_with fail;intro i hi;simp only[List.filterMap_cons,List.head?_cons,List.filterMap_nil,List.mem_cons,List.not_mem_nil,or_false,or_self]at hi;obtain rfl|rfl:i=5∨i=16:=by omega
    ·refine aF rfl ?_;simp only[aL,List.filterMap_cons,List.filterMap_nil,if_true,if_false,reduceIte,Nat.reduceEqDiff,List.length_cons,List.length_nil,Nat.reduceAdd];go_wp2_with fail;intro iq hiq;have hiq:iq=16:=by
      simp only[List.filterMap_cons,List.head?_cons,List.filterMap_nil,List.mem_cons,List.not_mem_nil,or_false,or_self]at hiq;omega
     cases hiq;refine aF rfl ?_;simp only[aL,List.filterMap_cons,List.filterMap_nil,if_true,if_false,reduceIte,Nat.reduceEqDiff,List.length_cons,List.length_nil,Nat.reduceAdd];go_wp2_with fail;refine hcn.out.mono ?_;rintro e w5 ⟨An,cn,Mn,rfl,ho5,jE,hb5⟩;have e0:=(hb5.cell (p:=⟨b,off+k*5,none⟩) hbx.out).trans d0;have e1:=(hb5.cell (p:=⟨b,off+k*5+1,none⟩) hbx.out).trans d1;have e2:=(hb5.cell (p:=⟨b,off+k*5+2,none⟩) hbx.out).trans d2;have e3:=(hb5.cell (p:=⟨b,off+k*5+3,none⟩) hbx.out).trans d3;replace ho5:=hide ho5;replace jE:=hide jE;clear hcn;go_wp2_with fail;clear d0 d1 d2 d3 d4 e0 e1 e2 e3;intro iq hiq;have hiq:iq=17:=by
      simp only[List.filterMap_cons,List.head?_cons,List.filterMap_nil,List.mem_cons,List.not_mem_nil,or_false,or_self]at hiq;omega
     cases hiq;refine aF rfl ?_;simp only[aL,List.filterMap_cons,List.filterMap_nil,if_true,if_false,reduceIte,Nat.reduceEqDiff,List.length_cons,List.length_nil,Nat.reduceAdd];go_wp2_with fail;intro iq hiq;have hiq:iq=18:=by
      simp only[List.filterMap_cons,List.head?_cons,List.filterMap_nil,List.mem_cons,List.not_mem_nil,or_false,or_self]at hiq;omega
     cases hiq;refine aF rfl ?_;simp only[aL,List.filterMap_cons,List.filterMap_nil,if_true,if_false,reduceIte,Nat.reduceEqDiff,List.length_cons,List.length_nil,Nat.reduceAdd];go_wp2_with fail;intro iq hiq;have hiq:iq=19:=by
      simp only[List.filterMap_cons,List.head?_cons,List.filterMap_nil,List.mem_cons,List.not_mem_nil,or_false,or_self]at hiq;omega
     cases hiq;refine aF rfl ?_;simp only[aL,List.filterMap_cons,List.filterMap_nil,if_true,if_false,reduceIte,Nat.reduceEqDiff,List.length_cons,List.length_nil,Nat.reduceAdd];obtain⟨W2,hW2⟩:∃W2,w5.alloc (.cells #[.int .i64 mk,.int .i64 ma,.int .i64 mb,.bool mr,.slice An md.length cn] 132)=W2:=⟨_,rfl⟩;rw[hW2];have kN:=Blk.newEq hW2;have hB2:=ah (Below.refl w5.heap.size w5) hW2 (Nat.le_refl _);have hs2:W2.heap.size=w5.heap.size+1:=aA hW2;have hs5:Wo.drew.heap.size≤w5.heap.size:=hb5.size;have hs6:Wo.heap.size≤w5.heap.size:=hb5.size;have hDW:Below Wo.drew.heap.size Wo.drew W2:=hb5.trans (hB2.mono hb5.size);have hOW:Below Wo.heap.size Wo W2:=(⟨rfl,rfl,rfl,Nat.le_refl _,fun _ _=>rfl⟩:Below Wo.heap.size Wo Wo.drew).trans hDW;have hbw:=hb.trans (hOW.mono hb.size);have hwo:=hb.size;have hO2:aG 5 MkR W2 (fun b=>b<W2.heap.size∧(Value.slice Av M.length cv).ownBlock≠some b) w.heap.size 132 (.slice Av M.length cv) M:=
      aG.keep MkR.aO hOd.out (Agree.below hDW fun b hb=>hb.1) (fun b hb=>⟨by have:=hb.1;omega,hb.2⟩) fun g hg=>hDW.block g (fF.out g hg).2
     have ho2:=own_below ho5.out hB2 (Nat.le_refl _);have hN2:bJ W2 (fun b=>b<W2.heap.size∧(Value.slice Av M.length cv).ownBlock≠some b) (.slice An md.length cn) md:=
      jD.s jE.out ho2 (Agree.below hDW fun b hb=>Nat.lt_of_lt_of_le hb hb0.out) (fun b hb=>⟨by have:b<w.heap.size:=hb;omega,fun e=>by have:=(fF.out b e).1;have:b<w.heap.size:=hb;omega⟩)
       fun g hg=>⟨(ho2.lt g hg).2,fun e=>by have h1:=(fF.out g e).2;have h2:Wo.heap.size≤g:=(ho2.lt g hg).1;have h1:g<Wo.heap.size:=h1;omega⟩
     have hsrc:SlR 5 MkR W2 (fun b=>b<W2.heap.size∧(Value.slice Av M.length cv).ownBlock≠some b) (.slice (some ⟨w5.heap.size,0,none⟩) 1 1) [(⟨⟨mk,ma,mb⟩,mr,md⟩:Mk)]:=
      SlR.one kN rfl ⟨An,cn,rfl,hN2⟩ ⟨by show w5.heap.size<_;omega,fun e=>by have h1:w5.heap.size<Wo.heap.size:=(fF.out _ e).2;omega⟩
     clear hW2 hOd kN hN2 ho2 ho5 jE hB2 hDW hOW;refine aX (R:=MkR) rfl (.tmp 11) (.tmp 29) 55 rfl w.heap.size 132 im _ 5 56 Tryz.underlying55 him hm1 hm2 hm3 rfl (by decide) (.slice Av M.length cv) _ M rfl hO2 _ [(⟨⟨mk,ma,mb⟩,mr,md⟩:Mk)] rfl hsrc (fun cs x h=>MkR.one _ _ cs x h) (by simp[maxLen];omega) (by simp;omega) (by omega) (fun w' hg cs x hx=>MkR.aO _ _ _ _ _ _ hx (Agree.grown hg (fun b hb=>⟨hb.1,fun e=>hb.2 e.symm⟩)) (fun _ h=>h)) ?_;intro v7 W7 hO7 hg7 l5;have hs7:=hg7.size;have hb9:=hbw.grown hg7 hbw.size (fun j e=>by have:=(fF.out j e).1;omega);have hO9:aG 5 MkR W7 (fun b=>b<W7.heap.size∧v7.ownBlock≠some b) w.heap.size 132 v7 (M++[(⟨⟨mk,ma,mb⟩,mr,md⟩:Mk)]):=aG.keep MkR.aO hO7 (Agree.refl _ _) (fun b hb=>⟨by have:=hb.1;omega,fun e=>by
      rcases l5 with e'|e'
      ·exact hb.2 (e'▸e)
      ·rw[e']at e;injection e with e;have:=hb.1;omega⟩) fun _ _=>rfl
     rw[←hst.out]at hO9;clear hO7 hO2 hsrc hg7 l5 fF hbw;replace hO9:=hide hO9;go_wp2_with fail;refine cK _ _ _ _ rfl ?_;simp only[List.filterMap_cons,List.filterMap_nil,gA,gZ,gS];go_wp2;go_roundw;case rel=>exact⟨k+1,by omega,by go_num,hO9.out,hb9⟩
     case measure=>simp[intOf];omega
    ·refine aF rfl ?_;simp only[aL,List.filterMap_cons,List.filterMap_nil,if_true,if_false,reduceIte,Nat.reduceEqDiff,List.length_cons,List.length_nil,Nat.reduceAdd];go_wp2_with fail;refine hcn.out.mono ?_;rintro e w5 ⟨An,cn,Mn,rfl,ho5,jE,hb5⟩;have e0:=(hb5.cell (p:=⟨b,off+k*5,none⟩) hbx.out).trans d0;have e1:=(hb5.cell (p:=⟨b,off+k*5+1,none⟩) hbx.out).trans d1;have e2:=(hb5.cell (p:=⟨b,off+k*5+2,none⟩) hbx.out).trans d2;have e3:=(hb5.cell (p:=⟨b,off+k*5+3,none⟩) hbx.out).trans d3;replace ho5:=hide ho5;replace jE:=hide jE;clear hcn;go_wp2_with fail;intro iq hiq;have hiq:iq=5:=by
      simp only[List.filterMap_cons,List.head?_cons,List.filterMap_nil,List.mem_cons,List.not_mem_nil,or_false,or_self]at hiq;omega
     cases hiq;refine aF rfl ?_;simp only[aL,List.filterMap_cons,List.filterMap_nil,if_true,if_false,reduceIte,Nat.reduceEqDiff,List.length_cons,List.length_nil,Nat.reduceAdd];go_wp2_with fail;clear d0 d1 d2 d3 d4 e0 e1 e2 e3;intro iq hiq;have hiq:iq=17:=by
      simp only[List.filterMap_cons,List.head?_cons,List.filterMap_nil,List.mem_cons,List.not_mem_nil,or_false,or_self]at hiq;omega
     cases hiq;refine aF rfl ?_;simp only[aL,List.filterMap_cons,List.filterMap_nil,if_true,if_false,reduceIte,Nat.reduceEqDiff,List.length_cons,List.length_nil,Nat.reduceAdd];go_wp2_with fail;intro iq hiq;have hiq:iq=18:=by
      simp only[List.filterMap_cons,List.head?_cons,List.filterMap_nil,List.mem_cons,List.not_mem_nil,or_false,or_self]at hiq;omega
     cases hiq;refine aF rfl ?_;simp only[aL,List.filterMap_cons,List.filterMap_nil,if_true,if_false,reduceIte,Nat.reduceEqDiff,List.length_cons,List.length_nil,Nat.reduceAdd];go_wp2_with fail;intro iq hiq;have hiq:iq=19:=by
      simp only[List.filterMap_cons,List.head?_cons,List.filterMap_nil,List.mem_cons,List.not_mem_nil,or_false,or_self]at hiq;omega
     cases hiq;refine aF rfl ?_;simp only[aL,List.filterMap_cons,List.filterMap_nil,if_true,if_false,reduceIte,Nat.reduceEqDiff,List.length_cons,List.length_nil,Nat.reduceAdd];obtain⟨W2,hW2⟩:∃W2,w5.alloc (.cells #[.int .i64 mk,.int .i64 ma,.int .i64 mb,.bool mr,.slice An md.length cn] 132)=W2:=⟨_,rfl⟩;rw[hW2];have kN:=Blk.newEq hW2;have hB2:=ah (Below.refl w5.heap.size w5) hW2 (Nat.le_refl _);have hs2:W2.heap.size=w5.heap.size+1:=aA hW2;have hs5:Wo.drew.heap.size≤w5.heap.size:=hb5.size;have hs6:Wo.heap.size≤w5.heap.size:=hb5.size;have hDW:Below Wo.drew.heap.size Wo.drew W2:=hb5.trans (hB2.mono hb5.size);have hOW:Below Wo.heap.size Wo W2:=(⟨rfl,rfl,rfl,Nat.le_refl _,fun _ _=>rfl⟩:Below Wo.heap.size Wo Wo.drew).trans hDW;have hbw:=hb.trans (hOW.mono hb.size);have hwo:=hb.size;have hO2:aG 5 MkR W2 (fun b=>b<W2.heap.size∧(Value.slice Av M.length cv).ownBlock≠some b) w.heap.size 132 (.slice Av M.length cv) M:=
      aG.keep MkR.aO hOd.out (Agree.below hDW fun b hb=>hb.1) (fun b hb=>⟨by have:=hb.1;omega,hb.2⟩) fun g hg=>hDW.block g (fF.out g hg).2
     have ho2:=own_below ho5.out hB2 (Nat.le_refl _);have hN2:bJ W2 (fun b=>b<W2.heap.size∧(Value.slice Av M.length cv).ownBlock≠some b) (.slice An md.length cn) md:=
      jD.s jE.out ho2 (Agree.below hDW fun b hb=>Nat.lt_of_lt_of_le hb hb0.out) (fun b hb=>⟨by have:b<w.heap.size:=hb;omega,fun e=>by have:=(fF.out b e).1;have:b<w.heap.size:=hb;omega⟩)
       fun g hg=>⟨(ho2.lt g hg).2,fun e=>by have h1:=(fF.out g e).2;have h2:Wo.heap.size≤g:=(ho2.lt g hg).1;have h1:g<Wo.heap.size:=h1;omega⟩
     have hsrc:SlR 5 MkR W2 (fun b=>b<W2.heap.size∧(Value.slice Av M.length cv).ownBlock≠some b) (.slice (some ⟨w5.heap.size,0,none⟩) 1 1) [(⟨⟨mk,ma,mb⟩,mr,md⟩:Mk)]:=
      SlR.one kN rfl ⟨An,cn,rfl,hN2⟩ ⟨by show w5.heap.size<_;omega,fun e=>by have h1:w5.heap.size<Wo.heap.size:=(fF.out _ e).2;omega⟩
     clear hW2 hOd kN hN2 ho2 ho5 jE hB2 hDW hOW;refine aX (R:=MkR) rfl (.tmp 11) (.tmp 29) 55 rfl w.heap.size 132 im _ 5 56 Tryz.underlying55 him hm1 hm2 hm3 rfl (by decide) (.slice Av M.length cv) _ M rfl hO2 _ [(⟨⟨mk,ma,mb⟩,mr,md⟩:Mk)] rfl hsrc (fun cs x h=>MkR.one _ _ cs x h) (by simp[maxLen];omega) (by simp;omega) (by omega) (fun w' hg cs x hx=>MkR.aO _ _ _ _ _ _ hx (Agree.grown hg (fun b hb=>⟨hb.1,fun e=>hb.2 e.symm⟩)) (fun _ h=>h)) ?_;intro v7 W7 hO7 hg7 l5;have hs7:=hg7.size;have hb9:=hbw.grown hg7 hbw.size (fun j e=>by have:=(fF.out j e).1;omega);have hO9:aG 5 MkR W7 (fun b=>b<W7.heap.size∧v7.ownBlock≠some b) w.heap.size 132 v7 (M++[(⟨⟨mk,ma,mb⟩,mr,md⟩:Mk)]):=aG.keep MkR.aO hO7 (Agree.refl _ _) (fun b hb=>⟨by have:=hb.1;omega,fun e=>by
      rcases l5 with e'|e'
      ·exact hb.2 (e'▸e)
      ·rw[e']at e;injection e with e;have:=hb.1;omega⟩) fun _ _=>rfl
     rw[←hst.out]at hO9;clear hO7 hO2 hsrc hg7 l5 fF hbw;replace hO9:=hide hO9;go_wp2_with fail;refine cK _ _ _ _ rfl ?_;simp only[List.filterMap_cons,List.filterMap_nil,gA,gZ,gS];go_wp2;go_roundw;case rel=>exact⟨k+1,by omega,by go_num,hO9.out,hb9⟩
     case measure=>simp[intOf];omega
   ·refine aF rfl ?_;simp only[aL,List.filterMap_cons,List.filterMap_nil,if_true,if_false,reduceIte,Nat.reduceEqDiff,List.length_cons,List.length_nil,Nat.reduceAdd];go_wp2_with fail;refine hcn.out.mono ?_;rintro e w5 ⟨An,cn,Mn,rfl,ho5,jE,hb5⟩;have e0:=(hb5.cell (p:=⟨b,off+k*5,none⟩) hbx.out).trans d0;have e1:=(hb5.cell (p:=⟨b,off+k*5+1,none⟩) hbx.out).trans d1;have e2:=(hb5.cell (p:=⟨b,off+k*5+2,none⟩) hbx.out).trans d2;have e3:=(hb5.cell (p:=⟨b,off+k*5+3,none⟩) hbx.out).trans d3;replace ho5:=hide ho5;replace jE:=hide jE;clear hcn;go_wp2_with fail;intro i hi;simp only[List.filterMap_cons,List.head?_cons,List.filterMap_nil,List.mem_cons,List.not_mem_nil,or_false,or_self]at hi;obtain rfl|rfl:i=5∨i=10:=by omega
    ·refine aF rfl ?_;simp only[aL,List.filterMap_cons,List.filterMap_nil,if_true,if_false,reduceIte,Nat.reduceEqDiff,List.length_cons,List.length_nil,Nat.reduceAdd];go_wp2_with fail;intro iq hiq;have hiq:iq=10:=by
      simp only[List.filterMap_cons,List.head?_cons,List.filterMap_nil,List.mem_cons,List.not_mem_nil,or_false,or_self]at hiq;omega
     cases hiq;refine aF rfl ?_;simp only[aL,List.filterMap_cons,List.filterMap_nil,if_true,if_false,reduceIte,Nat.reduceEqDiff,List.length_cons,List.length_nil,Nat.reduceAdd];go_wp2_with fail;clear d0 d1 d2 d3 d4 e0 e1 e2 e3;intro iq hiq;have hiq:iq=17:=by
      simp only[List.filterMap_cons,List.head?_cons,List.filterMap_nil,List.mem_cons,List.not_mem_nil,or_false,or_self]at hiq;omega
     cases hiq;refine aF rfl ?_;simp only[aL,List.filterMap_cons,List.filterMap_nil,if_true,if_false,reduceIte,Nat.reduceEqDiff,List.length_cons,List.length_nil,Nat.reduceAdd];go_wp2_with fail;intro iq hiq;have hiq:iq=18:=by
      simp only[List.filterMap_cons,List.head?_cons,List.filterMap_nil,List.mem_cons,List.not_mem_nil,or_false,or_self]at hiq;omega
     cases hiq;refine aF rfl ?_;simp only[aL,List.filterMap_cons,List.filterMap_nil,if_true,if_false,reduceIte,Nat.reduceEqDiff,List.length_cons,List.length_nil,Nat.reduceAdd];go_wp2_with fail;intro iq hiq;have hiq:iq=19:=by
      simp only[List.filterMap_cons,List.head?_cons,List.filterMap_nil,List.mem_cons,List.not_mem_nil,or_false,or_self]at hiq;omega
     cases hiq;refine aF rfl ?_;simp only[aL,List.filterMap_cons,List.filterMap_nil,if_true,if_false,reduceIte,Nat.reduceEqDiff,List.length_cons,List.length_nil,Nat.reduceAdd];obtain⟨W2,hW2⟩:∃W2,w5.alloc (.cells #[.int .i64 mk,.int .i64 ma,.int .i64 mb,.bool mr,.slice An md.length cn] 132)=W2:=⟨_,rfl⟩;rw[hW2];have kN:=Blk.newEq hW2;have hB2:=ah (Below.refl w5.heap.size w5) hW2 (Nat.le_refl _);have hs2:W2.heap.size=w5.heap.size+1:=aA hW2;have hs5:Wo.drew.heap.size≤w5.heap.size:=hb5.size;have hs6:Wo.heap.size≤w5.heap.size:=hb5.size;have hDW:Below Wo.drew.heap.size Wo.drew W2:=hb5.trans (hB2.mono hb5.size);have hOW:Below Wo.heap.size Wo W2:=(⟨rfl,rfl,rfl,Nat.le_refl _,fun _ _=>rfl⟩:Below Wo.heap.size Wo Wo.drew).trans hDW;have hbw:=hb.trans (hOW.mono hb.size);have hwo:=hb.size;have hO2:aG 5 MkR W2 (fun b=>b<W2.heap.size∧(Value.slice Av M.length cv).ownBlock≠some b) w.heap.size 132 (.slice Av M.length cv) M:=
      aG.keep MkR.aO hOd.out (Agree.below hDW fun b hb=>hb.1) (fun b hb=>⟨by have:=hb.1;omega,hb.2⟩) fun g hg=>hDW.block g (fF.out g hg).2
     have ho2:=own_below ho5.out hB2 (Nat.le_refl _);have hN2:bJ W2 (fun b=>b<W2.heap.size∧(Value.slice Av M.length cv).ownBlock≠some b) (.slice An md.length cn) md:=
      jD.s jE.out ho2 (Agree.below hDW fun b hb=>Nat.lt_of_lt_of_le hb hb0.out) (fun b hb=>⟨by have:b<w.heap.size:=hb;omega,fun e=>by have:=(fF.out b e).1;have:b<w.heap.size:=hb;omega⟩)
       fun g hg=>⟨(ho2.lt g hg).2,fun e=>by have h1:=(fF.out g e).2;have h2:Wo.heap.size≤g:=(ho2.lt g hg).1;have h1:g<Wo.heap.size:=h1;omega⟩
     have hsrc:SlR 5 MkR W2 (fun b=>b<W2.heap.size∧(Value.slice Av M.length cv).ownBlock≠some b) (.slice (some ⟨w5.heap.size,0,none⟩) 1 1) [(⟨⟨mk,ma,mb⟩,mr,md⟩:Mk)]:=
      SlR.one kN rfl ⟨An,cn,rfl,hN2⟩ ⟨by show w5.heap.size<_;omega,fun e=>by have h1:w5.heap.size<Wo.heap.size:=(fF.out _ e).2;omega⟩
     clear hW2 hOd kN hN2 ho2 ho5 jE hB2 hDW hOW;refine aX (R:=MkR) rfl (.tmp 11) (.tmp 29) 55 rfl w.heap.size 132 im _ 5 56 Tryz.underlying55 him hm1 hm2 hm3 rfl (by decide) (.slice Av M.length cv) _ M rfl hO2 _ [(⟨⟨mk,ma,mb⟩,mr,md⟩:Mk)] rfl hsrc (fun cs x h=>MkR.one _ _ cs x h) (by simp[maxLen];omega) (by simp;omega) (by omega) (fun w' hg cs x hx=>MkR.aO _ _ _ _ _ _ hx (Agree.grown hg (fun b hb=>⟨hb.1,fun e=>hb.2 e.symm⟩)) (fun _ h=>h)) ?_;intro v7 W7 hO7 hg7 l5;have hs7:=hg7.size;have hb9:=hbw.grown hg7 hbw.size (fun j e=>by have:=(fF.out j e).1;omega);have hO9:aG 5 MkR W7 (fun b=>b<W7.heap.size∧v7.ownBlock≠some b) w.heap.size 132 v7 (M++[(⟨⟨mk,ma,mb⟩,mr,md⟩:Mk)]):=aG.keep MkR.aO hO7 (Agree.refl _ _) (fun b hb=>⟨by have:=hb.1;omega,fun e=>by
      rcases l5 with e'|e'
      ·exact hb.2 (e'▸e)
      ·rw[e']at e;injection e with e;have:=hb.1;omega⟩) fun _ _=>rfl
     rw[←hst.out]at hO9;clear hO7 hO2 hsrc hg7 l5 fF hbw;replace hO9:=hide hO9;go_wp2_with fail;refine cK _ _ _ _ rfl ?_;simp only[List.filterMap_cons,List.filterMap_nil,gA,gZ,gS];go_wp2;go_roundw;case rel=>exact⟨k+1,by omega,by go_num,hO9.out,hb9⟩
     case measure=>simp[intOf];omega
    ·refine aF rfl ?_;simp only[aL,List.filterMap_cons,List.filterMap_nil,if_true,if_false,reduceIte,Nat.reduceEqDiff,List.length_cons,List.length_nil,Nat.reduceAdd];go_wp2_with fail;intro iq hiq;have hiq:iq=5:=by
      simp only[List.filterMap_cons,List.head?_cons,List.filterMap_nil,List.mem_cons,List.not_mem_nil,or_false,or_self]at hiq;omega
     cases hiq;refine aF rfl ?_;simp only[aL,List.filterMap_cons,List.filterMap_nil,if_true,if_false,reduceIte,Nat.reduceEqDiff,List.length_cons,List.length_nil,Nat.reduceAdd];go_wp2_with fail;clear d0 d1 d2 d3 d4 e0 e1 e2 e3;intro iq hiq;have hiq:iq=17:=by
      simp only[List.filterMap_cons,List.head?_cons,List.filterMap_nil,List.mem_cons,List.not_mem_nil,or_false,or_self]at hiq;omega
     cases hiq;refine aF rfl ?_;simp only[aL,List.filterMap_cons,List.filterMap_nil,if_true,if_false,reduceIte,Nat.reduceEqDiff,List.length_cons,List.length_nil,Nat.reduceAdd];go_wp2_with fail;intro iq hiq;have hiq:iq=18:=by
      simp only[List.filterMap_cons,List.head?_cons,List.filterMap_nil,List.mem_cons,List.not_mem_nil,or_false,or_self]at hiq;omega
     cases hiq;refine aF rfl ?_;simp only[aL,List.filterMap_cons,List.filterMap_nil,if_true,if_false,reduceIte,Nat.reduceEqDiff,List.length_cons,List.length_nil,Nat.reduceAdd];go_wp2_with fail;intro iq hiq;have hiq:iq=19:=by
      simp only[List.filterMap_cons,List.head?_cons,List.filterMap_nil,List.mem_cons,List.not_mem_nil,or_false,or_self]at hiq;omega
     cases hiq;refine aF rfl ?_;simp only[aL,List.filterMap_cons,List.filterMap_nil,if_true,if_false,reduceIte,Nat.reduceEqDiff,List.length_cons,List.length_nil,Nat.reduceAdd];obtain⟨W2,hW2⟩:∃W2,w5.alloc (.cells #[.int .i64 mk,.int .i64 ma,.int .i64 mb,.bool mr,.slice An md.length cn] 132)=W2:=⟨_,rfl⟩;rw[hW2];have kN:=Blk.newEq hW2;have hB2:=ah (Below.refl w5.heap.size w5) hW2 (Nat.le_refl _);have hs2:W2.heap.size=w5.heap.size+1:=aA hW2;have hs5:Wo.drew.heap.size≤w5.heap.size:=hb5.size;have hs6:Wo.heap.size≤w5.heap.size:=hb5.size;have hDW:Below Wo.drew.heap.size Wo.drew W2:=hb5.trans (hB2.mono hb5.size);have hOW:Below Wo.heap.size Wo W2:=(⟨rfl,rfl,rfl,Nat.le_refl _,fun _ _=>rfl⟩:Below Wo.heap.size Wo Wo.drew).trans hDW;have hbw:=hb.trans (hOW.mono hb.size);have hwo:=hb.size;have hO2:aG 5 MkR W2 (fun b=>b<W2.heap.size∧(Value.slice Av M.length cv).ownBlock≠some b) w.heap.size 132 (.slice Av M.length cv) M:=
      aG.keep MkR.aO hOd.out (Agree.below hDW fun b hb=>hb.1) (fun b hb=>⟨by have:=hb.1;omega,hb.2⟩) fun g hg=>hDW.block g (fF.out g hg).2
     have ho2:=own_below ho5.out hB2 (Nat.le_refl _);have hN2:bJ W2 (fun b=>b<W2.heap.size∧(Value.slice Av M.length cv).ownBlock≠some b) (.slice An md.length cn) md:=
      jD.s jE.out ho2 (Agree.below hDW fun b hb=>Nat.lt_of_lt_of_le hb hb0.out) (fun b hb=>⟨by have:b<w.heap.size:=hb;omega,fun e=>by have:=(fF.out b e).1;have:b<w.heap.size:=hb;omega⟩)
       fun g hg=>⟨(ho2.lt g hg).2,fun e=>by have h1:=(fF.out g e).2;have h2:Wo.heap.size≤g:=(ho2.lt g hg).1;have h1:g<Wo.heap.size:=h1;omega⟩
     have hsrc:SlR 5 MkR W2 (fun b=>b<W2.heap.size∧(Value.slice Av M.length cv).ownBlock≠some b) (.slice (some ⟨w5.heap.size,0,none⟩) 1 1) [(⟨⟨mk,ma,mb⟩,mr,md⟩:Mk)]:=
      SlR.one kN rfl ⟨An,cn,rfl,hN2⟩ ⟨by show w5.heap.size<_;omega,fun e=>by have h1:w5.heap.size<Wo.heap.size:=(fF.out _ e).2;omega⟩
     clear hW2 hOd kN hN2 ho2 ho5 jE hB2 hDW hOW;refine aX (R:=MkR) rfl (.tmp 11) (.tmp 29) 55 rfl w.heap.size 132 im _ 5 56 Tryz.underlying55 him hm1 hm2 hm3 rfl (by decide) (.slice Av M.length cv) _ M rfl hO2 _ [(⟨⟨mk,ma,mb⟩,mr,md⟩:Mk)] rfl hsrc (fun cs x h=>MkR.one _ _ cs x h) (by simp[maxLen];omega) (by simp;omega) (by omega) (fun w' hg cs x hx=>MkR.aO _ _ _ _ _ _ hx (Agree.grown hg (fun b hb=>⟨hb.1,fun e=>hb.2 e.symm⟩)) (fun _ h=>h)) ?_;intro v7 W7 hO7 hg7 l5;have hs7:=hg7.size;have hb9:=hbw.grown hg7 hbw.size (fun j e=>by have:=(fF.out j e).1;omega);have hO9:aG 5 MkR W7 (fun b=>b<W7.heap.size∧v7.ownBlock≠some b) w.heap.size 132 v7 (M++[(⟨⟨mk,ma,mb⟩,mr,md⟩:Mk)]):=aG.keep MkR.aO hO7 (Agree.refl _ _) (fun b hb=>⟨by have:=hb.1;omega,fun e=>by
      rcases l5 with e'|e'
      ·exact hb.2 (e'▸e)
      ·rw[e']at e;injection e with e;have:=hb.1;omega⟩) fun _ _=>rfl
     rw[←hst.out]at hO9;clear hO7 hO2 hsrc hg7 l5 fF hbw;replace hO9:=hide hO9;go_wp2_with fail;refine cK _ _ _ _ rfl ?_;simp only[List.filterMap_cons,List.filterMap_nil,gA,gZ,gS];go_wp2;go_roundw;case rel=>exact⟨k+1,by omega,by go_num,hO9.out,hb9⟩
     case measure=>simp[intOf];omega
  ·obtain rfl:k=P.length:=(by omega);rw[List.take_length]at hO;have hF:MkS Wo (Old Wo) (.slice Av P.length cv) P:=(aG.keep MkR.aO hO (Agree.refl _ _) (fun b hb=>hb.1) fun _ _=>rfl:aG 5 MkR Wo (Old Wo) _ _ _ _).sl fun g hg=>(hO.lt g hg).2;replace hF:=hide hF;clear hO;go_wp2;go_ret;refine⟨Av,cv,?_,hF.out,hb⟩;show Ending.returned (.slice Av (P.take P.length).length cv)=_;rw[List.take_length]
set_option maxRecDepth 100000 in
theorem Jh(A A':Option Addr)(c c':Nat)(l:List Mk)(w:World)(h:MkS w (Old w) (.slice A l.length c) l)(h':MkS w (Old w) (.slice A' l.length c') l)(hn:l.length≤1000000)(hd:∀m∈l,u7 m.done):
 Calls Tryz.prog 25 #[.slice A l.length c,.slice A' l.length c'] w fun e w'=>e= .returned (.bool true)∧Below w.heap.size w w':=by
 have hh:=hide (fun W (hb:Below w.heap.size w W)=>h.below hb);have hh':=hide (fun W (hb:Below w.heap.size w W)=>h'.below hb);replace hd:=hide fun i (hi:i<l.length)=>hd _ (List.getElem_mem hi);clear h h';go_enter Tryz.func25,Tryz.ntmps25;go_wp2_with fail;go_loopw [5] (fun s5 wr=>∃i:Nat,i≤l.length∧s5= .int .i64 i∧Below w.heap.size w wr) (fun s5 _=>l.length-(intOf s5).toNat);case atStart=>exact⟨0,Nat.zero_le _,by go_num,Below.refl _ _⟩
 case round=>
  obtain⟨i,hi,rfl,hb⟩:=hrel;obtain⟨Wr,rfl⟩:∃Wr,Wr=wr:=⟨_,rfl⟩;have hi0:(0:Int)≤(i:Int):=Int.natCast_nonneg _;by_cases hlt:i<l.length
  ·have hi1:(i:Int)<(l.length:Int):=(by omega);obtain⟨b,off,Ay,cy,rfl,hbK,d⟩:=(hh.out Wr hb).at_ hlt;obtain⟨b',off',Ay',cy',rfl,Uk,d'⟩:=(hh'.out Wr hb).at_ hlt;have hbk:b<Wr.heap.size:=hbK;have hbk':b'<Wr.heap.size:=Uk;have hfn:=hd.out i hlt;obtain⟨d0,d1,d2,d3,d4,d5⟩:=d;obtain⟨e0,e1,e2,e3,e4,e5⟩:=d';generalize l[i]=x at*;obtain⟨⟨xk,xa,xb⟩,xr,xd⟩:=x;dsimp only at d0 d1 d2 d3 d4 d5 e0 e1 e2 e3 e4 e5 hfn;have hcn:=hide (F5 Ay Ay' cy cy' xd Wr.drew d5 e5 hfn);have hz:=hide (show(xr !=xr)=false by cases xr<;>rfl);clear d5 e5 hbK Uk;go_wp2_with fail;refine wp_region_still_tail 10 (by kernel_rfl) (by kernel_rfl) ?_;simp only[List.take_succ_cons,List.take_zero,List.drop_succ_cons,List.drop_zero];repeat still_step
   refine wpStill_nil ?_;go_wp2_with fail;refine hcn.out.mono ?_;rintro e w5 ⟨rfl,hb5⟩;have hb6:Below w.heap.size w w5:=hb.drew.trans (hb5.mono hb.size);have g0:=(hb5.cell (p:=⟨b,off+i*5,none⟩) hbk).trans d0;have g1:=(hb5.cell (p:=⟨b,off+i*5+1,none⟩) hbk).trans d1;have g2:=(hb5.cell (p:=⟨b,off+i*5+2,none⟩) hbk).trans d2;have g3:=(hb5.cell (p:=⟨b,off+i*5+3,none⟩) hbk).trans d3;have r0:=(hb5.cell (p:=⟨b',off'+i*5,none⟩) hbk').trans e0;have r1:=(hb5.cell (p:=⟨b',off'+i*5+1,none⟩) hbk').trans e1;have r2:=(hb5.cell (p:=⟨b',off'+i*5+2,none⟩) hbk').trans e2;have r3:=(hb5.cell (p:=⟨b',off'+i*5+3,none⟩) hbk').trans e3;have hz1:=hz.out;clear hcn d0 d1 d2 d3 d4 e0 e1 e2 e3 e4 hb5;go_upto_region 7 with fail;go_quiet (fail);go_wp2;go_roundw;case rel=>exact⟨i+1,by omega,by go_num,hb6.trans (nW.mono hb6.size)⟩
   case measure=>simp[intOf];omega
  ·obtain rfl:i=l.length:=(by omega);go_wp2;go_ret;exact⟨rfl,hb⟩
end Go.Proofs.YtfhnamomiaekdaaGreatDoor
