/-
  A slice out of a block that is told row by row; no program in sight.
-/
import Derived.Test.YtpjechjoijjhpaaGreatDoorZ01
set_option linter.unusedVariables false
set_option linter.unusedSimpArgs false
namespace Go.Proofs.YtpjechjoijjhpaaGreatDoor
open Go.RowKit Go.Inq
set_option maxHeartbeats 1000000
theorem J2 {α:Type} {size:Nat} {R:World→(Nat→Prop)→List Value→α→Prop} {w:World} {K:Nat→Prop} {g:Nat} {t:TypeId} {l:List α} (ys:List (List Value)) (h:Blk w g t ys.flatten.toArray) (hl:ys.length=l.length)
 (hR:∀(i:Nat) cs x,ys[i]?=some cs→l[i]?=some x→cs.length=size∧R w K cs x) (hK:K g) (hn:l.length≤1000000):SlR size R w K (.slice (some ⟨g,0,none⟩) l.length l.length) l:=by
 have hlen:∀(ys:List (List Value)),(∀cs∈ys,cs.length=size)→ys.flatten.length=ys.length*size:=by
  intro ys
  induction ys with
  |nil=>intro _;simp
  |cons y r ih=>
   intro hs;rw[List.flatten_cons,List.length_append,ih fun cs hc=>hs cs (List.mem_cons_of_mem _ hc),hs y (by simp),List.length_cons,Nat.add_mul];omega
 have h1:=hlen ys fun cs hc=>by
  obtain⟨i,hi⟩:=List.getElem?_of_mem hc;have hil:i<l.length:=by
   rcases Nat.lt_or_ge i ys.length with h|h
   ·omega
   ·rw[List.getElem?_eq_none h]at hi;cases hi
  exact(hR i cs l[i] hi (List.getElem?_eq_getElem hil)).1
 refine SlR.mX (base:=g) (e:=t) (n:=l.length) (xs:=ys.flatten) (ys:=ys) ⟨by rw[h1,hl],.inr ⟨g,l.length,_,rfl,Nat.le_refl _,h,Nat.le_refl _,by unfold maxLen;omega,by simp[h1,hl],List.take_of_length_le (by simp[h1,hl])⟩⟩ rfl rfl hl hR (fun g' hg=> ?_);have:g=g':=(by simpa[Value.ownBlock]using hg);exact this▸hK
end Go.Proofs.YtpjechjoijjhpaaGreatDoor
