/-
  A row of the call's own, over a lower base; no program in sight.
-/
import Derived.Test.YtfhnamomiaekdaaGreatDoorP05
import Derived.Test.YtfhnamomiaekdaaGreatDoorP03
set_option linter.unusedVariables false
set_option linter.unusedSimpArgs false
namespace Go.Proofs.YtfhnamomiaekdaaGreatDoor
open Go.RowKit Go.Inq
set_option maxHeartbeats 1000000
theorem own_base'{w:World}{base base':Nat}{e:TypeId}{size n:Nat}{v:Value}{xs:List Value}(h:w.ownsRow base e size v n xs)(hb:base'≤base):w.ownsRow base' e size v n xs:=by
 refine⟨h.1,?_⟩;rcases h.2 with h2|⟨g,cap,cur,hv,hg,r⟩
 ·exact .inl h2
 ·exact .inr ⟨g,cap,cur,hv,Nat.le_trans hb hg,r⟩
theorem eX{l:List Int}{x:Int}{i:Nat}(h:l.idxOf? x=some i):bJ l x=i:=by
 unfold bJ;have:l.findIdx? (·==x)=some i:=h;rw[this]
theorem lu{l:List Int}{x:Int}(h:l.idxOf? x=none):bJ l x= -1:=by
 unfold bJ;have:l.findIdx? (·==x)=none:=h;rw[this]
theorem Db{path:List Int}{p:Cho}(h1:bJ path p.a<0)(h2:bJ path p.b<0):gH path p=none:=by
 unfold gH;cases ha:path.idxOf? p.a with
 |some i=>rw[eX ha]at h1;omega
 |none=>
  cases hb:path.idxOf? p.b with
  |some i=>rw[eX hb]at h2;omega
  |none=>rfl
theorem Dc{path:List Int}{p:Cho}(h0:¬(bJ path p.a<0∧bJ path p.b<0))(h:bJ path p.a<0∨(0≤bJ path p.b∧bJ path p.b<bJ path p.a)):gH path p=some ⟨p.key,p.b,p.a⟩:=by
 unfold gH;cases ha:path.idxOf? p.a with
 |some i=>
  rw[eX ha]at h h0;cases hb:path.idxOf? p.b with
  |some j=>
   rw[eX hb]at h h0;dsimp only;rw[if_pos (by omega)]
  |none=>rw[lu hb]at h;omega
 |none=>
  rw[lu ha]at h h0;cases hb:path.idxOf? p.b with
  |some j=>rfl
  |none=>rw[lu hb]at h0;omega
theorem Df{path:List Int}{p:Cho}(h:¬(bJ path p.a<0∨(0≤bJ path p.b∧bJ path p.b<bJ path p.a))):gH path p=some p:=by
 unfold gH;cases ha:path.idxOf? p.a with
 |some i=>
  rw[eX ha]at h;cases hb:path.idxOf? p.b with
  |some j=>
   rw[eX hb]at h;dsimp only;rw[if_neg (by omega)]
  |none=>rfl
 |none=>rw[lu ha]at h;omega
theorem Jc(path:List Int)(l:List Cho)(x:Cho):(l++[x]).filterMap (gH path)=l.filterMap (gH path)++(match gH path x with|some y=>[y]|none=>[]):=by
 rw[List.filterMap_append];congr 1;cases h:gH path x<;>simp[h]
end Go.Proofs.YtfhnamomiaekdaaGreatDoor
