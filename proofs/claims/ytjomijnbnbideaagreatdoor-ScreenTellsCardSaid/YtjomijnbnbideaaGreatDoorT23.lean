/-
  Walks: layer 28: screen.Step, ahead of its loops.
-/
import Derived.Test.YtjomijnbnbideaaGreatDoorT05
import Derived.Test.YtjomijnbnbideaaGreatDoorT14
import Derived.Test.YtjomijnbnbideaaGreatDoorT15
import Derived.Test.YtjomijnbnbideaaGreatDoorT22
import Derived.Test.YtjomijnbnbideaaGreatDoorT08
set_option linter.unusedVariables false
set_option linter.unusedSimpArgs false
namespace Go.Proofs.YtjomijnbnbideaaGreatDoor
open Go.RowKit Go.Inq Go.Shelf
set_option maxHeartbeats 8000000
attribute [local go_sem] Oper.semAt_some
attribute [local go_sem ↓] Go.wp_at_zero Go.wp_at_succ

def TreeX (w : World) (base : Nat) (v : Value) : Option (List Nat) → Prop
  | none => v = .slice none 0 0
  | some l => ∃ g vc, base ≤ g ∧ v = .slice (some ⟨g, 0, none⟩) 1 1 ∧ Blk w g 114 #[.int .i64 0, .int .i64 0, .int .i64 0, vc] ∧ OwnI w base vc (intsN l)
def ScrOut (w : World) (o : Scr) (e : Ending) (w' : World) : Prop :=
  ∃ vo vt vf, e = .returned (.agg #[.int .i64 o.said, vo, vt, vf]) ∧ OwnI w' w.heap.size vo (intsN o.order) ∧ TreeX w' w.heap.size vt o.tree ∧ OwnX w' w.heap.size vf o.facts ∧ Below w.heap.size w w'
set_option maxRecDepth 100000 in
theorem step28_bad (A : Option Addr) (c : Nat) (H : List Txn) (level : Int) (w : World) (h : TxnS w (Old w) (.slice A H.length c) H) (hn : SmallH H) (hbad : (rightC H [] && (decide (level = 0) || decide (level = 1))) = false) :
    Calls Tryz.prog 24 #[.agg #[.slice A H.length c], .int .i64 level] w (ScrOut w (scrH H level)) := by
  refine (callsIn_wide (n := 3)).1 ?_
  have hro : Fence.wide.round = none := rfl
  have hsc : scrH H level = ⟨3, [], none, []⟩ := by unfold scrH; rw [hbad]; rfl
  rw [hsc]
  refine callsIn_of_wp_marks Tryz.func24 rfl trivial ?_ hro
  simp only [Tryz.ntmps24, List.size_toArray, List.length_cons, List.length_nil, Nat.reduceAdd, Nat.reduceSub, Array.replicate_succ, Array.replicate_zero, List.push_toArray, List.append_toArray, List.nil_append, List.cons_append]
  gi_wp2_with fail
  refine ⟨trivial, ?_⟩
  obtain ⟨W0, hW0⟩ : ∃ W0, (((w.alloc (.cells #[.slice A H.length c] 24)).alloc (.cells #[.int .i64 level] 3)).alloc (.cells #[.int .i64 0, .slice none 0 0, .slice none 0 0, .slice none 0 0] 35)) = W0 := ⟨_, rfl⟩
  rw [hW0]
  have hs0 : W0.heap.size = w.heap.size + 3 := by rw [← hW0]; simp
  have hBW : Below w.heap.size w W0 := by rw [← hW0]; exact (((Below.refl _ w).alloc (Nat.le_refl _) _).alloc (by simp) _).alloc (by simp; omega) _
  have k2 : Blk W0 (w.heap.size + 1 + 1) 35 #[.int .i64 0, .slice none 0 0, .slice none 0 0, .slice none 0 0] := by
    rw [← hW0]
    have := Blk.new ((w.alloc (.cells #[.slice A H.length c] 24)).alloc (.cells #[.int .i64 level] 3)) 35 #[.int .i64 0, .slice none 0 0, .slice none 0 0, .slice none 0 0]
    simpa using this
  have hTW : TxnS W0 (Old W0) (.slice A H.length c) H := TxnS.keep h (Agree.below hBW fun b h => h) (fun b hb => Nat.lt_of_lt_of_le hb hBW.size)
  refine (callsIn_wide.2 (full18_bad A c H level none 0 [] W0 hTW hn (SlR.nil _ _ _ _ _ _) (by simp) hbad)).mono ?_
  rintro e w1 ⟨rfl, hb1⟩
  dsimp only
  have hs1 := hb1.size
  have hbw1 := hBW.trans (hb1.mono hBW.size)
  have kx := k2.below hb1 k2.lt
  obtain ⟨W1, hW1⟩ : ∃ W1, w1.alloc (.cells #[.int .i64 0, .slice none 0 0] 56) = W1 := ⟨_, rfl⟩
  have ky := kx.allocEq hW1
  have hbz := below_allocEq hbw1 hW1 hbw1.size
  have kg := Blk.newEq hW1
  have z0 := kg.cell 0
  have z1 := kg.cell 1
  have v0 := kg.frozen 0
  have v1 := kg.frozen 1
  have x0 := ky.cell 0
  have x1 := ky.cell 1
  have x2 := ky.cell 2
  have x3 := ky.cell 3
  have y0 := ky.frozen 0
  have y1 := ky.frozen 1
  have y2 := ky.frozen 2
  have y3 := ky.frozen 3
  simp only [List.getElem?_toArray, List.getElem?_cons_zero, List.getElem?_cons_succ] at x0 x1 x2 x3 z0 z1
  clear hW0 hTW hBW h
  gi_wp2
  have hne : w.heap.size + 1 + 1 ≠ w1.heap.size := by have := k2.lt; omega
  have kF := (((((ky.far (p := ⟨w1.heap.size, 0, none⟩) hne (.int .i64 0)).far (p := ⟨w1.heap.size, 1, none⟩) hne (.slice none 0 0)).set_ 0 (.int .i64 3)).set_ 1 (.slice none 0 0)).set_ 2 (.slice none 0 0)).set_ 3 (.slice none 0 0)
  have r0 := kF.cell 0
  have r1 := kF.cell 1
  have r2 := kF.cell 2
  have r3 := kF.cell 3
  simp at r0 r1 r2 r3
  have hsz3 : w.heap.size ≤ w1.heap.size := by omega
  refine ⟨.agg #[.int .i64 3, .slice none 0 0, .slice none 0 0, .slice none 0 0], ?_, ⟨_, _, _, rfl, OwnI.nil _ _, rfl, OwnX.nil _ _, ?_⟩⟩
  · simp [results, Tryz.f24, go_sem, r0, r1, r2, r3]
  · exact (((((hbz.setCell (p := ⟨w1.heap.size, 0, none⟩) (by exact hsz3) _).setCell (p := ⟨w1.heap.size, 1, none⟩) (by exact hsz3) _).setCell (p := ⟨w.heap.size + 1 + 1, 0, none⟩) (by simp; omega) _).setCell (p := ⟨w.heap.size + 1 + 1, 1, none⟩) (by simp; omega) _).setCell (p := ⟨w.heap.size + 1 + 1, 2, none⟩) (by simp; omega) _).setCell (p := ⟨w.heap.size + 1 + 1, 3, none⟩) (by simp; omega) _
end Go.Proofs.YtjomijnbnbideaaGreatDoor
