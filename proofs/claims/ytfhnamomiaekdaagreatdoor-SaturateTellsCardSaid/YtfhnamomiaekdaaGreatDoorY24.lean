/-
  Walks: law 31: nodes, as the reference has them, told by where their cycles lie; a path, as the reference has it.
-/
import Derived.Test.YtfhnamomiaekdaaGreatDoorY23
import Derived.Test.YtfhnamomiaekdaaGreatDoorY08
set_option linter.unusedVariables false
set_option linter.unusedSimpArgs false
namespace Go.Proofs.YtfhnamomiaekdaaGreatDoor
open Go.RowKit Go.Inq
set_option maxHeartbeats 4000000
attribute [local go_sem↓] Go.wp_at_zero Go.wp_at_succ
def lC(K:Nat→Prop)(w:World)(M:List mh)(L:List Nod):Prop:=M.map (·.1)=L∧∀x∈M,aI w K (.slice x.2.1 x.1.cyc.length x.2.2) x.1.cyc
theorem lC.snoc{K:Nat→Prop}{w:World}{M:List mh}{L:List Nod}{k:Nat}(h:lC K w M (L.take k))(hk:k<L.length){A:Option Addr}{c:Nat}(hy:aI w K (.slice A L[k].cyc.length c) L[k].cyc):lC K w (M++[(L[k],A,c)]) (L.take (k+1)):=by
 refine⟨by rw[List.map_append,h.1,List.take_succ_eq_append_getElem hk];rfl,fun x hx=> ?_⟩;rcases List.mem_append.1 hx with hx|hx
 ·exact h.2 x hx
 ·rw[List.mem_singleton.1 hx];exact hy
theorem lC.len{K:Nat→Prop}{w:World}{M:List mh}{L:List Nod}(h:lC K w M L):M.length=L.length:=by rw[←h.1,List.length_map]
theorem lC.s{K K':Nat→Prop}{w w':World}{M:List mh}{L:List Nod}{base:Nat}{e:TypeId}{v:Value}(h:lC K w M L)(ho:w'.ownsRow base e 4 v M.length (M.map oV).flatten)(ha:Agree K w w')(hK:∀b,K b→K' b)(hO:∀g,v.ownBlock=some g→K' g):dH w' K' v L:=by
 refine SlR.mq (ys:=M.map oV) ho h.len rfl (by rw[List.length_map];exact h.len) (fun i cs x h1 h2=> ?_) hO;rw[List.getElem?_map]at h1;obtain⟨m,hm,rfl⟩:=Option.map_eq_some_iff.1 h1;have e1:(M.map (·.1))[i]?=some m.1:=(by rw[List.getElem?_map,hm];rfl);rw[h.1,h2]at e1;injection e1 with e1
 refine⟨rfl,m.2.1,m.2.2,by rw[e1];rfl,?_⟩;rw[e1];exact aI.keep (h.2 m (List.mem_of_getElem? hm)) ha hK
theorem MkR.one:∀(w:World) (K:Nat→Prop) (cs:List Value) (x:Mk),MkR w K cs x→∀u∈cs,u.oneCell'=true:=by
 rintro w K cs x ⟨A,c,rfl,_⟩ u hu;simp only[List.mem_cons,List.not_mem_nil,or_false]at hu;rcases hu with rfl|rfl|rfl|rfl|rfl<;>rfl
end Go.Proofs.YtfhnamomiaekdaaGreatDoor
