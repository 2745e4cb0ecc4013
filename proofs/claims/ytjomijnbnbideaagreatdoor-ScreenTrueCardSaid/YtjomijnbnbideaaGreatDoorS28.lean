/-
  Walks: layer 28: screen.Step, where nothing leads back, and no two write one key.
-/
import Derived.Test.YtjomijnbnbideaaGreatDoorS26
import Derived.Test.YtjomijnbnbideaaGreatDoorS05
import Derived.Test.YtjomijnbnbideaaGreatDoorS27
set_option linter.unusedVariables false
set_option linter.unusedSimpArgs false
namespace Go.Proofs.YtjomijnbnbideaaGreatDoor
open Go.RowKit Go.Inq Go.Shelf
set_option maxHeartbeats 8000000
attribute [local go_sem] Oper.semAt_some
attribute [local go_sem ↓] Go.wp_at_zero Go.wp_at_succ

set_option maxRecDepth 100000 in
theorem step28_yes (A : Option Addr) (c : Nat) (H : List Txn) (level : Int) (w : World) (h : TxnS w (Old w) (.slice A H.length c) H) (hn : SmallH H) (hr : rightC H [] = true) (hlev : level = 0 ∨ level = 1) (hne : findL H.length (fullE H level []) = []) (hp : pairsL H = []) (O : List Nat) (hO : orderT H.length (fullE H level []) = some O) (hTB : TabB w) :
    Calls Tryz.prog 24 #[.agg #[.slice A H.length c], .int .i64 level] w (ScrOut w (scrH H level)) := by
  refine (callsIn_wide (n := 3)).1 ?_
  have hro : Fence.wide.round = none := rfl
  have hsc : scrH H level = ⟨1, O, none, []⟩ := by
    unfold scrH
    have hl : (decide (level = 0) || decide (level = 1)) = true := by rcases hlev with e | e <;> simp [e]
    rw [hr, hl, if_pos (show (true && true) = true from rfl), if_pos hne, if_pos hp, hO]
    rfl
  rw [hsc]
  replace hO := hide hO
  replace hne := hide hne
  replace hp := hide hp
  clear hsc
  refine callsIn_of_wp_marks Tryz.func24 rfl trivial ?_ hro
  simp only [Tryz.ntmps24, List.size_toArray, List.length_cons, List.length_nil, Nat.reduceAdd, Nat.reduceSub, Array.replicate_succ, Array.replicate_zero, List.push_toArray, List.append_toArray, List.nil_append, List.cons_append]
  gi_wp2_with fail
  refine ⟨trivial, ?_⟩
  obtain ⟨W0, hW0⟩ : ∃ W0, (((w.alloc (.cells #[.slice A H.length c] 24)).alloc (.cells #[.int .i64 level] 3)).alloc (.cells #[.int .i64 0, .slice none 0 0, .slice none 0 0, .slice none 0 0] 35)) = W0 := ⟨_, rfl⟩
  rw [hW0]
  have hs0 : W0.heap.size = w.heap.size + 3 := by rw [← hW0]; simp
  have hBW : Below w.heap.size w W0 := by rw [← hW0]; exact (((Below.refl _ w).alloc (Nat.le_refl _) _).alloc (by simp) _).alloc (by simp; omega) _
  have k2 : Blk W0 (w.heap.size + 1 + 1) 35 #[.int .i64 0, .slice none 0 0, .slice none 0 0, .slice none 0 0] := by
    rw [← hW0]
    have := Blk.new ((w.alloc (.cells #[.slice A H.length c] 24)).alloc (.cells #[.int .i64 level] 3)) 35 #[.int .i64 0, .slice none 0 0, .slice none 0 0, .slice none 0 0]
    simpa using this
  have k0 : Blk W0 w.heap.size 24 #[.slice A H.length c] := by rw [← hW0]; exact ((Blk.new _ _ _).alloc _).alloc _
  have hTW : TxnS W0 (Old W0) (.slice A H.length c) H := TxnS.keep h (Agree.below hBW fun b h => h) (fun b hb => Nat.lt_of_lt_of_le hb hBW.size)
  refine (callsIn_wide.2 (full18_any A c H level none 0 [] W0 hTW hn (SlR.nil _ _ _ _ _ _) hr hlev (hTB.below hBW))).mono ?_
  rintro e w1 ⟨g, hg, rfl, hbk, hb1⟩
  dsimp only
  have h64 : H.length ≤ 64 := by have := ((rightH_iff H).1 (rightC_hist hr)).1; omega
  have hs1 := hb1.size
  have hbw1 := hBW.trans (hb1.mono hBW.size)
  have kx := k2.below hb1 k2.lt
  have kz := k0.below hb1 k0.lt
  have hgl := hbk.lt
  have hT1 := hTB.below hbw1
  obtain ⟨W1, hW1⟩ : ∃ W1, w1.alloc (.cells #[.int .i64 0, .slice none 0 0] 56) = W1 := ⟨_, rfl⟩
  have hg0 : w.heap.size ≤ g := by omega
  have hne1 : w.heap.size + 1 + 1 ≠ w1.heap.size := by have := k2.lt; omega
  have hne2 : g ≠ w1.heap.size := by omega
  have hne3 : w.heap.size + 1 + 1 ≠ g := by omega
  have ky := kx.allocEq hW1
  have kh := kz.allocEq hW1
  have hne0 : w.heap.size ≠ w1.heap.size := by have := k2.lt; omega
  have kr := hbk.allocEq hW1
  have kg := Blk.newEq hW1
  have hbz := below_allocEq hbw1 hW1 hbw1.size
  have z0 := kg.cell 0
  have z1 := kg.cell 1
  have v0 := kg.frozen 0
  have v1 := kg.frozen 1
  simp only [List.getElem?_toArray, List.getElem?_cons_zero, List.getElem?_cons_succ] at z0 z1
  generalize fullE H level [] = E at *
  clear hW0 hTW hBW hb1 kx hbk k2
  gi_wp2
  refine ⟨trivial, ?_⟩
  have hsz3 : w.heap.size ≤ w1.heap.size := by omega
  obtain ⟨W2, hW2⟩ : ∃ W2, ((W1.setCell ⟨w1.heap.size, 0, none⟩ (.int .i64 (H.length : Nat))).setCell ⟨w1.heap.size, 1, none⟩ (.slice (some ⟨g, 0, none⟩) H.length H.length)) = W2 := ⟨_, rfl⟩
  have m2 : Blk W2 (w.heap.size + 1 + 1) 35 #[.int .i64 0, .slice none 0 0, .slice none 0 0, .slice none 0 0] := by rw [← hW2]; exact (ky.far (p := ⟨w1.heap.size, 0, none⟩) hne1 _).far (p := ⟨w1.heap.size, 1, none⟩) hne1 _
  have mh : Blk W2 w.heap.size 24 #[.slice A H.length c] := by rw [← hW2]; exact (kh.far (p := ⟨w1.heap.size, 0, none⟩) hne0 _).far (p := ⟨w1.heap.size, 1, none⟩) hne0 _
  have mg : Blk W2 w1.heap.size 56 #[.int .i64 (H.length : Nat), .slice (some ⟨g, 0, none⟩) H.length H.length] := by rw [← hW2]; exact (kg.set_ 0 _).set_ 1 _
  have mr : Blk W2 g 145 (rowsB H.length E) := by rw [← hW2]; exact (kr.far (p := ⟨w1.heap.size, 0, none⟩) hne2 _).far (p := ⟨w1.heap.size, 1, none⟩) hne2 _
  have hb2 : Below w.heap.size w W2 := by rw [← hW2]; exact (hbz.setCell (p := ⟨w1.heap.size, 0, none⟩) (by exact hsz3) _).setCell (p := ⟨w1.heap.size, 1, none⟩) (by exact hsz3) _
  rw [hW2]
  have hgr := GrS.of_blk (K := Old W2) mr mr.lt h64
  have hfind := find15_any H.length (some ⟨g, 0, none⟩) H.length E W2 hgr (hTB.below hb2)
  rw [hne.out] at hfind
  refine (callsIn_wide.2 hfind).mono ?_
  rintro e w3 ⟨v, rfl, hown, hb3⟩
  dsimp only
  have hs3 := hb3.size
  have hbw3 := hb2.trans (hb3.mono hb2.size)
  have m3 := m2.below hb3 m2.lt
  have hs2 := hb2.size
  obtain ⟨Av, cv, rfl⟩ := hown.form
  have m3h := mh.below hb3 mh.lt
  have m3g := mg.below hb3 mg.lt
  have m3r := mr.below hb3 mr.lt
  have c0 := m3h.cell 0
  simp only [List.getElem?_toArray, List.getElem?_cons_zero, List.getElem?_cons_succ] at c0
  have hm2l := m2.lt
  clear hW2 hfind z0 z1 v0 v1 hgr ky kr kg m2 mr mh mg kh kz hown
  gi_wp2
  refine ⟨trivial, ?_⟩
  have hT3 : TxnS w3 (Old w3) (.slice A H.length c) H := TxnS.keep h (Agree.below hbw3 fun b h => h) (fun b hb => Nat.lt_of_lt_of_le hb hbw3.size)
  have hpr := pairs9_any A c H w3 hT3 hn (rightC_hist hr)
  rw [hp.out] at hpr
  refine (callsIn_wide.2 hpr).mono ?_
  rintro e w4 ⟨v4, rfl, hown4, hb4⟩
  obtain ⟨A4, c4, rfl⟩ := hown4.form
  dsimp only
  have hs4 := hb4.size
  have hbw4 := hbw3.trans (hb4.mono hbw3.size)
  have m4 := m3.below hb4 m3.lt
  have m4g := m3g.below hb4 m3g.lt
  have m4r := m3r.below hb4 m3r.lt
  have z0 := m4g.cell 0
  have z1 := m4g.cell 1
  simp at z0 z1
  clear hpr hT3 c0 m3h m3g m3r m3 hown4
  gi_wp2
  refine ⟨trivial, ?_⟩
  have hord := order16_any H.length (some ⟨g, 0, none⟩) H.length E (Old w4) w4 (GrS.of_blk m4r m4r.lt h64) (fun b hb => hb) (hTB.below hbw4)
  rw [hO.out] at hord
  refine (callsIn_wide.2 hord).mono ?_
  rintro e w5 ⟨⟨v5, rfl, hown5⟩, hb5⟩
  dsimp only
  have hs5 := hb5.size
  have hbw5 := hbw4.trans (hb5.mono hbw4.size)
  have m5 := m4.below hb5 m4.lt
  have x0 := m5.cell 0
  have x1 := m5.cell 1
  have x2 := m5.cell 2
  have x3 := m5.cell 3
  have y0 := m5.frozen 0
  have y1 := m5.frozen 1
  have y2 := m5.frozen 2
  have y3 := m5.frozen 3
  simp only [List.getElem?_toArray, List.getElem?_cons_zero, List.getElem?_cons_succ] at x0 x1 x2 x3
  obtain ⟨Av5, cv5, rfl⟩ := hown5.form
  replace hown5 := hide hown5
  have hm5 := m5.lt
  clear hord m4g m4r z0 z1 m4
  gi_wp2
  have kF := (((m5.set_ 0 (.int .i64 1)).set_ 1 (.slice Av5 (intsN O).length cv5)).set_ 2 (.slice none 0 0)).set_ 3 (.slice none 0 0)
  have r0 := kF.cell 0
  have r1 := kF.cell 1
  have r2 := kF.cell 2
  have r3 := kF.cell 3
  simp at r0 r1 r2 r3
  have o1 : w5.ownsRow w4.heap.size 3 1 (.slice Av5 (intsN O).length cv5) (intsN O).length ((intsN O).map Go.Inq.encI).flatten := hown5.out
  have hno : ∀ g', (Value.slice Av5 (intsN O).length cv5).ownBlock = some g' → g' = w.heap.size + 1 + 1 → False := fun g' e1 e2 => by have := (o1.lt _ e1).1; omega
  have o2 := (((o1.kept (grown_set (w.heap.size + 1 + 1) 0 (.int .i64 1)) (.inr fun e => hno _ e rfl)).kept (grown_set (w.heap.size + 1 + 1) 1 (.slice Av5 (intsN O).length cv5)) (.inr fun e => hno _ e rfl)).kept (grown_set (w.heap.size + 1 + 1) 2 (.slice none 0 0)) (.inr fun e => hno _ e rfl)).kept (grown_set (w.heap.size + 1 + 1) 3 (.slice none 0 0)) (.inr fun e => hno _ e rfl)
  refine ⟨.agg #[.int .i64 1, .slice Av5 (intsN O).length cv5, .slice none 0 0, .slice none 0 0], ?_, ⟨_, _, _, rfl, own_base o2 hbw4.size, rfl, OwnX.nil _ _, ?_⟩⟩
  · simp [results, Tryz.f24, go_sem, r0, r1, r2, r3]
  · exact (((hbw5.setCell (p := ⟨w.heap.size + 1 + 1, 0, none⟩) (by simp; omega) _).setCell (p := ⟨w.heap.size + 1 + 1, 1, none⟩) (by simp; omega) _).setCell (p := ⟨w.heap.size + 1 + 1, 2, none⟩) (by simp; omega) _).setCell (p := ⟨w.heap.size + 1 + 1, 3, none⟩) (by simp; omega) _
end Go.Proofs.YtjomijnbnbideaaGreatDoor
