/-
  Walks: layer 28: screen.Step, where something leads back.
-/
import Derived.Test.YtjomijnbnbideaaGreatDoorT23
set_option linter.unusedVariables false
set_option linter.unusedSimpArgs false
namespace Go.Proofs.YtjomijnbnbideaaGreatDoor
open Go.RowKit Go.Inq Go.Shelf
set_option maxHeartbeats 8000000
attribute [local go_sem] Oper.semAt_some
attribute [local go_sem ↓] Go.wp_at_zero Go.wp_at_succ

set_option maxRecDepth 100000 in
theorem step28_no (A : Option Addr) (c : Nat) (H : List Txn) (level : Int) (w : World) (h : TxnS w (Old w) (.slice A H.length c) H) (hn : SmallH H) (hr : rightC H [] = true) (hlev : level = 0 ∨ level = 1) (hne : findL H.length (fullE H level []) ≠ []) (hTB : TabB w) :
    Calls Tryz.prog 24 #[.agg #[.slice A H.length c], .int .i64 level] w (ScrOut w (scrH H level)) := by
  refine (callsIn_wide (n := 3)).1 ?_
  have hro : Fence.wide.round = none := rfl
  have hsc : scrH H level = ⟨2, [], some (findL H.length (fullE H level [])), []⟩ := by
    unfold scrH
    have hl : (decide (level = 0) || decide (level = 1)) = true := by rcases hlev with e | e <;> simp [e]
    rw [hr, hl, if_pos (show (true && true) = true from rfl), if_neg hne]
  rw [hsc]
  obtain ⟨L, hL⟩ : ∃ L, findL H.length (fullE H level []) = L := ⟨_, rfl⟩
  rw [hL] at hne ⊢
  replace hL := hide hL
  have hnz : (0 : Int) < (L.length : Int) := by have := List.length_pos_iff.2 hne; omega
  clear hsc hne
  refine callsIn_of_wp_marks Tryz.func24 rfl trivial ?_ hro
  simp only [Tryz.ntmps24, List.size_toArray, List.length_cons, List.length_nil, Nat.reduceAdd, Nat.reduceSub, Array.replicate_succ, Array.replicate_zero, List.push_toArray, List.append_toArray, List.nil_append, List.cons_append]
  gi_wp2_with fail
  refine ⟨trivial, ?_⟩
  obtain ⟨W0, hW0⟩ : ∃ W0, (((w.alloc (.cells #[.slice A H.length c] 24)).alloc (.cells #[.int .i64 level] 3)).alloc (.cells #[.int .i64 0, .slice none 0 0, .slice none 0 0, .slice none 0 0] 35)) = W0 := ⟨_, rfl⟩
  rw [hW0]
  have hs0 : W0.heap.size = w.heap.size + 3 := by rw [← hW0]; simp
  have hBW : Below w.heap.size w W0 := by rw [← hW0]; exact (((Below.refl _ w).alloc (Nat.le_refl _) _).alloc (by simp) _).alloc (by simp; omega) _
  have k2 : Blk W0 (w.heap.size + 1 + 1) 35 #[.int .i64 0, .slice none 0 0, .slice none 0 0, .slice none 0 0] := by
    rw [← hW0]
    have := Blk.new ((w.alloc (.cells #[.slice A H.length c] 24)).alloc (.cells #[.int .i64 level] 3)) 35 #[.int .i64 0, .slice none 0 0, .slice none 0 0, .slice none 0 0]
    simpa using this
  have hTW : TxnS W0 (Old W0) (.slice A H.length c) H := TxnS.keep h (Agree.below hBW fun b h => h) (fun b hb => Nat.lt_of_lt_of_le hb hBW.size)
  refine (callsIn_wide.2 (full18_any A c H level none 0 [] W0 hTW hn (SlR.nil _ _ _ _ _ _) hr hlev (hTB.below hBW))).mono ?_
  rintro e w1 ⟨g, hg, rfl, hbk, hb1⟩
  dsimp only
  have h64 : H.length ≤ 64 := by have := ((rightH_iff H).1 (rightC_hist hr)).1; omega
  have hs1 := hb1.size
  have hbw1 := hBW.trans (hb1.mono hBW.size)
  have kx := k2.below hb1 k2.lt
  have hgl := hbk.lt
  have hT1 := hTB.below hbw1
  obtain ⟨W1, hW1⟩ : ∃ W1, w1.alloc (.cells #[.int .i64 0, .slice none 0 0] 56) = W1 := ⟨_, rfl⟩
  have hg0 : w.heap.size ≤ g := by omega
  have hne1 : w.heap.size + 1 + 1 ≠ w1.heap.size := by have := k2.lt; omega
  have hne2 : g ≠ w1.heap.size := by omega
  have hne3 : w.heap.size + 1 + 1 ≠ g := by omega
  have ky := kx.allocEq hW1
  have kr := hbk.allocEq hW1
  have kg := Blk.newEq hW1
  have hbz := below_allocEq hbw1 hW1 hbw1.size
  have z0 := kg.cell 0
  have z1 := kg.cell 1
  have v0 := kg.frozen 0
  have v1 := kg.frozen 1
  simp only [List.getElem?_toArray, List.getElem?_cons_zero, List.getElem?_cons_succ] at z0 z1
  generalize fullE H level [] = E at *
  clear hW0 hTW hBW h hb1 kx hbk k2
  gi_wp2
  refine ⟨trivial, ?_⟩
  have hsz3 : w.heap.size ≤ w1.heap.size := by omega
  obtain ⟨W2, hW2⟩ : ∃ W2, ((W1.setCell ⟨w1.heap.size, 0, none⟩ (.int .i64 (H.length : Nat))).setCell ⟨w1.heap.size, 1, none⟩ (.slice (some ⟨g, 0, none⟩) H.length H.length)) = W2 := ⟨_, rfl⟩
  have m2 : Blk W2 (w.heap.size + 1 + 1) 35 #[.int .i64 0, .slice none 0 0, .slice none 0 0, .slice none 0 0] := by rw [← hW2]; exact (ky.far (p := ⟨w1.heap.size, 0, none⟩) hne1 _).far (p := ⟨w1.heap.size, 1, none⟩) hne1 _
  have mr : Blk W2 g 145 (rowsB H.length E) := by rw [← hW2]; exact (kr.far (p := ⟨w1.heap.size, 0, none⟩) hne2 _).far (p := ⟨w1.heap.size, 1, none⟩) hne2 _
  have hb2 : Below w.heap.size w W2 := by rw [← hW2]; exact (hbz.setCell (p := ⟨w1.heap.size, 0, none⟩) (by exact hsz3) _).setCell (p := ⟨w1.heap.size, 1, none⟩) (by exact hsz3) _
  rw [hW2]
  have hgr := GrS.of_blk (K := Old W2) mr mr.lt h64
  have hfind := find15_any H.length (some ⟨g, 0, none⟩) H.length E W2 hgr (hTB.below hb2)
  rw [hL.out] at hfind
  refine (callsIn_wide.2 hfind).mono ?_
  rintro e w3 ⟨v, rfl, hown, hb3⟩
  dsimp only
  have hs3 := hb3.size
  have hbw3 := hb2.trans (hb3.mono hb2.size)
  have m3 := m2.below hb3 m2.lt
  have hs2 := hb2.size
  obtain ⟨Av, cv, rfl⟩ := hown.form
  rw [intsN_len]
  replace hown := hide hown
  have hm2l := m2.lt
  obtain ⟨W3, hW3⟩ : ∃ W3, w3.alloc (.cells #[.int .i64 0, .int .i64 0, .int .i64 0, .slice Av L.length cv] 114) = W3 := ⟨_, rfl⟩
  have m4 := m3.allocEq hW3
  have kN := Blk.newEq hW3
  have hb4 := below_allocEq hbw3 hW3 hbw3.size
  have x0 := m4.cell 0
  have x1 := m4.cell 1
  have x2 := m4.cell 2
  have x3 := m4.cell 3
  have y0 := m4.frozen 0
  have y1 := m4.frozen 1
  have y2 := m4.frozen 2
  have y3 := m4.frozen 3
  simp only [List.getElem?_toArray, List.getElem?_cons_zero, List.getElem?_cons_succ] at x0 x1 x2 x3
  clear hW2 hfind z0 z1 v0 v1 hgr ky kr kg m2 mr m3 hL
  gi_wp2
  have hw3 : w.heap.size ≤ w3.heap.size := by omega
  have hne4 : w3.heap.size ≠ w.heap.size + 1 + 1 := by omega
  have kF := (((m4.set_ 0 (.int .i64 2)).set_ 1 (.slice none 0 0)).set_ 2 (.slice (some ⟨w3.heap.size, 0, none⟩) 1 1)).set_ 3 (.slice none 0 0)
  have kM := (((kN.far (p := ⟨w.heap.size + 1 + 1, 0, none⟩) hne4 (.int .i64 2)).far (p := ⟨w.heap.size + 1 + 1, 1, none⟩) hne4 (.slice none 0 0)).far (p := ⟨w.heap.size + 1 + 1, 2, none⟩) hne4 (.slice (some ⟨w3.heap.size, 0, none⟩) 1 1)).far (p := ⟨w.heap.size + 1 + 1, 3, none⟩) hne4 (.slice none 0 0)
  have r0 := kF.cell 0
  have r1 := kF.cell 1
  have r2 := kF.cell 2
  have r3 := kF.cell 3
  simp at r0 r1 r2 r3
  have oo := hown.out
  unfold OwnI at oo
  have oq : w3.ownsRow W2.heap.size 3 1 (.slice Av L.length cv) (intsN L).length ((intsN L).map Go.Inq.encI).flatten := by rw [intsN_len] at oo ⊢; exact oo
  have o1 : W3.ownsRow W2.heap.size 3 1 (.slice Av L.length cv) (intsN L).length ((intsN L).map Go.Inq.encI).flatten := by rw [← hW3]; exact oq.alloc _
  have hno : ∀ g', (Value.slice Av L.length cv).ownBlock = some g' → g' = w.heap.size + 1 + 1 → False := fun g' e1 e2 => by have := (o1.lt _ e1).1; omega
  have o2 := (((o1.kept (grown_set (w.heap.size + 1 + 1) 0 (.int .i64 2)) (.inr fun e => hno _ e rfl)).kept (grown_set (w.heap.size + 1 + 1) 1 (.slice none 0 0)) (.inr fun e => hno _ e rfl)).kept (grown_set (w.heap.size + 1 + 1) 2 (.slice (some ⟨w3.heap.size, 0, none⟩) 1 1)) (.inr fun e => hno _ e rfl)).kept (grown_set (w.heap.size + 1 + 1) 3 (.slice none 0 0)) (.inr fun e => hno _ e rfl)
  refine ⟨.agg #[.int .i64 2, .slice none 0 0, .slice (some ⟨w3.heap.size, 0, none⟩) 1 1, .slice none 0 0], ?_, ⟨_, _, _, rfl, OwnI.nil _ _, ⟨w3.heap.size, _, hw3, rfl, kM, own_base o2 hs2⟩, OwnX.nil _ _, ?_⟩⟩
  · simp [results, Tryz.f24, go_sem, r0, r1, r2, r3]
  · exact (((hb4.setCell (p := ⟨w.heap.size + 1 + 1, 0, none⟩) (by simp; omega) _).setCell (p := ⟨w.heap.size + 1 + 1, 1, none⟩) (by simp; omega) _).setCell (p := ⟨w.heap.size + 1 + 1, 2, none⟩) (by simp; omega) _).setCell (p := ⟨w.heap.size + 1 + 1, 3, none⟩) (by simp; omega) _
end Go.Proofs.YtjomijnbnbideaaGreatDoor
