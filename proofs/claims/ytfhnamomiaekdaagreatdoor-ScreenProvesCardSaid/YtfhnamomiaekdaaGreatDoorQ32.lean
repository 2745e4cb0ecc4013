/-
  Plain words: how many facts a strategy tells; no program in sight.
-/
import Derived.Test.YtfhnamomiaekdaaGreatDoorQ05
set_option linter.unusedVariables false
set_option linter.unusedSimpArgs false
namespace Go.Proofs.YtfhnamomiaekdaaGreatDoor
open Go.RowKit Go.Inq
set_option maxHeartbeats 1000000
theorem Fa(H:List Txn):dn H []=aA H:=by unfold dn;simp
theorem I6(H:List Txn)(level:Int):(bq H level).facts=[]∨(bq H level).facts=bT H level (bN H):=by
 unfold bq;split
 ·split
  ·split
   ·exact .inl rfl
   ·exact .inr rfl
  ·exact .inl rfl
 ·exact .inl rfl
theorem Lj{H:List Txn}{level:Int}:(bq H level).facts.length≤40000:=by
 by_cases hr:aA H=true
 ·rcases I6 H level with e|e
  ·rw[e];simp
  ·rw[e];have:=pF H level (bN H);have:=vC hr;omega
 ·have hb:(dn H []&&(decide (level=0)||decide (level=1)))=false:=(by rw[Fa];simp[hr]);have:bq H level=⟨3,[],none,[]⟩:=(by unfold bq;rw[hb];rfl);rw[this];simp
end Go.Proofs.YtfhnamomiaekdaaGreatDoor
