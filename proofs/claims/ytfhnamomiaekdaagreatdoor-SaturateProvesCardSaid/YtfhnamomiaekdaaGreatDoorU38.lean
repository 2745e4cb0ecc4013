/-
  Plain: an order that proves a yes makes a certificate that does.
-/
import Derived.Test.YtfhnamomiaekdaaGreatDoorU24
import Derived.Test.YtfhnamomiaekdaaGreatDoorU34
set_option linter.unusedVariables false
set_option linter.unusedSimpArgs false
namespace Go.Proofs.YtfhnamomiaekdaaGreatDoor
open Go.RowKit Go.Inq
theorem Ob{H:List Txn}{π:List Int}(hp:π.length≤1000000):NV (gJ H π):=by
 unfold gJ;split
 ·next h=>
  have:=kV h.1;refine⟨by rw[List.length_map];omega,fun r hr=> ?_⟩;obtain⟨k,hk,rfl⟩:=List.mem_map.1 hr;exact Nat.le_trans (List.length_filter_le _ _) hp
 ·exact⟨by simp,fun r hr=>by cases hr⟩
theorem KZ{H:List Txn}{level:Int}{π:List Int}(hr:aA H=true)(h:KE H level π=true):zf H level true (if level=0 then π else[]) (if level=0 then[]else gJ H π) []=true:=by
 unfold KE at h;unfold zf;rw[if_pos rfl];by_cases h0:level=0
 ·rw[if_pos h0]at h⊢;rw[if_pos h0,if_pos h0];unfold uY;rw[hr,h];rfl
 ·rw[if_neg h0]at h⊢;rw[if_neg h0,if_neg h0];by_cases h1:level=1
  ·rw[if_pos h1]at h⊢;rw[h];rfl
  ·rw[if_neg h1]at h;cases h
end Go.Proofs.YtfhnamomiaekdaaGreatDoor
