/-
  Walks: law 31: nodes, as the reference has them, told by where their cycles lie; a path, as the reference has it.
-/
import Derived.Test.YtpjechjoijjhpaaGreatDoorZ26
import Derived.Test.YtpjechjoijjhpaaGreatDoorZ05
import Derived.Test.YtpjechjoijjhpaaGreatDoorZ12
set_option linter.unusedVariables false
set_option linter.unusedSimpArgs false
namespace Go.Proofs.YtpjechjoijjhpaaGreatDoor
open Go.RowKit Go.Inq
set_option maxHeartbeats 4000000
attribute [local go_sem↓] Go.wp_at_zero Go.wp_at_succ
def fQ(K:Nat→Prop)(w:World)(M:List oh)(L:List Nod):Prop:=M.map (·.1)=L∧∀x∈M,aM w K (.slice x.2.1 x.1.cyc.length x.2.2) x.1.cyc
theorem fQ.snoc{K:Nat→Prop}{w:World}{M:List oh}{L:List Nod}{k:Nat}(h:fQ K w M (L.take k))(hk:k<L.length){A:Option Addr}{c:Nat}(hy:aM w K (.slice A L[k].cyc.length c) L[k].cyc):fQ K w (M++[(L[k],A,c)]) (L.take (k+1)):=by
 refine⟨by rw[List.map_append,h.1,List.take_succ_eq_append_getElem hk];rfl,fun x hx=> ?_⟩;rcases List.mem_append.1 hx with hx|hx
 ·exact h.2 x hx
 ·rw[List.mem_singleton.1 hx];exact hy
theorem fQ.len{K:Nat→Prop}{w:World}{M:List oh}{L:List Nod}(h:fQ K w M L):M.length=L.length:=by rw[←h.1,List.length_map]
theorem fQ.s{K K':Nat→Prop}{w w':World}{M:List oh}{L:List Nod}{base:Nat}{e:TypeId}{v:Value}(h:fQ K w M L)(ho:w'.ownsRow base e 4 v M.length (M.map lF).flatten)(ha:Agree K w w')(hK:∀b,K b→K' b)(hO:∀g,v.ownBlock=some g→K' g):aY w' K' v L:=by
 refine SlR.mX (ys:=M.map lF) ho h.len rfl (by rw[List.length_map];exact h.len) (fun i cs x h1 h2=> ?_) hO;rw[List.getElem?_map]at h1;obtain⟨m,hm,rfl⟩:=Option.map_eq_some_iff.1 h1;have e1:(M.map (·.1))[i]?=some m.1:=(by rw[List.getElem?_map,hm];rfl);rw[h.1,h2]at e1;injection e1 with e1
 refine⟨rfl,m.2.1,m.2.2,by rw[e1];rfl,?_⟩;rw[e1];exact aM.keep (h.2 m (List.mem_of_getElem? hm)) ha hK
def QA(K:Nat→Prop)(w:World)(L:List Nod)(e:Ending)(w':World):Prop:=∃A c,∃M:List oh,e= .returned (.slice A L.length c)∧w'.ownsRow w.heap.size 93 4 (.slice A L.length c) M.length (M.map lF).flatten∧fQ K w M L∧Below w.heap.size w w'
set_option maxRecDepth 100000 in
theorem xD(K:Nat→Prop)(A:Option Addr)(c:Nat)(L:List Nod)(w:World)(hKl:∀b,K b→b<w.heap.size)(h:aY w K (.slice A L.length c) L)(hn:L.length≤1000000):
 Calls Tryz.prog 19 #[.slice A L.length c] w (QA K w L):=by
 obtain⟨ii,hii,hi1,hi2,hi3⟩:=info_parts zT;have hcp:=hide (fun(M:List oh) k (hc:fQ K w M (L.take k)) (hk:k<L.length) A c (hy:aM w K (.slice A L[k].cyc.length c) L[k].cyc)=>hc.snoc hk hy);replace h:=hide h;go_enter Tryz.func19,Tryz.ntmps19;go_wp2_with fail;go_loopw [3,4] (fun s3 s4 wr=>∃k:Nat,∃M:List oh,k≤L.length∧s4= .int .i64 k∧wr.ownsRow w.heap.size 93 4 s3 M.length (M.map lF).flatten∧Hid (fQ K w M (L.take k))∧Below w.heap.size w wr) (fun _ s4 _=>L.length-(intOf s4).toNat);case atStart=>exact⟨0,[],Nat.zero_le _,by go_num,World.ownsRow_nil _ _ _ _,hide ⟨rfl,fun x hx=>by cases hx⟩,Below.refl _ _⟩
 case round=>
  obtain⟨Wo,rfl⟩:∃Wo,Wo=wr:=⟨_,rfl⟩;obtain⟨k,M,hk,rfl,hown,hco,hb⟩:=hrel;have hk1:(0:Int)≤(k:Int):=Int.natCast_nonneg _;have hml:M.length=k:=(by rw[hco.out.len,List.length_take];omega);by_cases hlt:k<L.length
  ·have hk2:(k:Int)<(L.length:Int):=(by omega);obtain⟨b,off,Ay,cy,rfl,hK0,d⟩:=h.out.at_ hlt;have hK:=hKl b hK0;have d0:=(hb.cell (p:=⟨b,off+k*4,none⟩) hK).trans d.d0;have d1:=(hb.cell (p:=⟨b,off+k*4+1,none⟩) hK).trans d.d1;have d2:=(hb.cell (p:=⟨b,off+k*4+2,none⟩) hK).trans d.d2;have d3:=(hb.cell (p:=⟨b,off+k*4+3,none⟩) hK).trans d.d3;have hc2:=hide (hcp.out M k hco.out hlt Ay cy d.cyc);obtain⟨Av,cv,rfl⟩:=aW hown;generalize L[k]=f at*;obtain⟨⟨fk,fa,fb⟩,fy⟩:=f;dsimp only at d0 d1 d2 d3;have oL:=hb.size;have hown2:Hid (Wo.drew.ownsRow w.heap.size 93 4 (.slice Av M.length cv) M.length (M.map lF).flatten):=hide hown;clear hown d hcp hco;replace hml:=hide hml;go_upto_region 5 with fail;refine bn [0,1,2,3,4,5,6,7,8,9,10,11] [12,13,14] (by kernel_rfl) (by kernel_rfl) (fun _ _ d _ _ h=>by cases d<;>exact h) ?_;simp only[List.filterMap_cons,List.filterMap_nil,gZ,gS];repeat still_step
   refine wpStill_nil ?_;clear d0 d1 d2 d3;refine uS fun R hR=> ?_;go_wp2;subst hR;refine aN (W:=Wo.drew) (enc:=lF) rfl (.tmp 11) (.tmp 23) 41 rfl w.heap.size 93 ii _ 4 48 Tryz.underlying41 hii hi1 hi2 hi3 rfl (by decide) (.slice Av M.length cv) M rfl hown2.out Mc (⟨⟨⟨fk,fa,fb⟩,fy⟩,Ay,cy⟩:oh) _ rfl rfl Md (by have:=hml.out;simp[maxLen];omega) (by have:=hml.out;omega) oL w w.heap.size (Nat.le_refl _) (aZ hb) ?_;intro v1 w6 hown1 hg1 hb1 jN;go_wp2;go_roundw;case rel=>exact⟨k+1,_,by omega,by go_num,hown1,hc2,hb1⟩
   case measure=>simp[intOf];omega
  ·obtain rfl:k=L.length:=(by omega);have SQ:fQ K w M L:=(by have:=hco.out;rwa[List.take_length]at this);obtain⟨Av,cv,rfl⟩:=aW hown;have hown2:=hide hown;rw[hml];clear hown;go_wp2;go_ret;exact⟨Av,cv,M,rfl,by rw[←hml];exact hown2.out,SQ,hb⟩
theorem MkR.one:∀(w:World) (K:Nat→Prop) (cs:List Value) (x:Mk),MkR w K cs x→∀u∈cs,u.oneCell'=true:=by
 rintro w K cs x ⟨A,c,rfl,_⟩ u hu;simp only[List.mem_cons,List.not_mem_nil,or_false]at hu;rcases hu with rfl|rfl|rfl|rfl|rfl<;>rfl
theorem zU:(Tryz.prog.info? 72).map (fun i=>(i.zero,i.size,i.bytes))=some (some (.agg #[.int .i64 0,.int .i64 0,.int .i64 0,.bool false,.slice none 0 0]),5,56):=by kernel_rfl
end Go.Proofs.YtpjechjoijjhpaaGreatDoor
