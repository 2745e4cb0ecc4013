/-
  Walks: layer 19: a read of what is written over; whether there is an edge of some kind.
-/
import Derived.Test.YtjomijnbnbideaaGreatDoorM10
set_option linter.unusedVariables false
set_option linter.unusedSimpArgs false
namespace Go.Proofs.YtjomijnbnbideaaGreatDoor
open Go.RowKit Go.Inq
set_option maxHeartbeats 8000000
attribute [local go_sem ↓] Go.wp_at_zero Go.wp_at_succ

set_option maxRecDepth 100000 in
theorem ovc19_any (A : Option Addr) (c : Nat) (H : List Txn) (Al : Option Addr) (cl : Nat) (l : List Cho) (r : It) (y : Nat) (bh by' bl : Nat) (w : World) (h : TxnS w (Old w) (.slice A H.length c) H) (hn : SmallH H) (hl : ChoS w (Old w) (.slice Al l.length cl) l) (hln : l.length ≤ 1000000000) (hy : y < H.length)
    (hbh : w.cell? ⟨bh, 0, none⟩ = some (.slice A H.length c)) (hby : w.cell? ⟨by', 0, none⟩ = some (.int .i64 (y : Int))) (hbl : w.cell? ⟨bl, 0, none⟩ = some (.slice Al l.length cl)) :
    Calls Tryz.prog 280 #[.agg #[.int .i64 r.a, .int .i64 r.b], .pointer (some ⟨bh, 0, none⟩), .pointer (some ⟨by', 0, none⟩), .pointer (some ⟨bl, 0, none⟩)] w fun e w' => e = .returned (.bool (overR H l y r)) ∧ Below w.heap.size w w' := by
  obtain ⟨ra, rb⟩ := r
  dsimp only
  obtain ⟨W0, hW0⟩ : ∃ W0, w.alloc (.cells #[.int .i64 ra, .int .i64 rb] 112) = W0 := ⟨_, rfl⟩
  have hB := below_allocEq (Below.refl w.heap.size w) hW0 (Nat.le_refl _)
  have k0 := Blk.newEq hW0
  have e0 := (hB.cell (p := ⟨bh, 0, none⟩) (block_lt_of_cell hbh)).trans hbh
  have e1 := (hB.cell (p := ⟨by', 0, none⟩) (block_lt_of_cell hby)).trans hby
  have e2 := (hB.cell (p := ⟨bl, 0, none⟩) (block_lt_of_cell hbl)).trans hbl
  have hT := h.below hB
  have hL := hide (hl.below hB)
  have c0 := Blk.n0 k0
  have c1 := Blk.n1 k0
  have hp : Hid (overR H l y ⟨ra, rb⟩ = ((txnAt H y).writes.contains ra && (decide (rb < 0) || (decide (rb ≠ (y : Int)) && l.any fun c => decide (c = ⟨ra, rb, y⟩))))) := hide rfl
  obtain ⟨q, hq⟩ : ∃ q, overR H l y ⟨ra, rb⟩ = q := ⟨_, rfl⟩
  rw [hq] at hp
  rw [hq]
  have hw1 := hide (writes19_any A c H y ra W0 hT hn hy)
  have hco := hide (fun W (hb : Below W0.heap.size W0 W) => containsOv_any Al cl l ra rb (y : Int) W (hL.out.below hb) hln)
  generalize (txnAt H y).writes.contains ra = q1 at *
  generalize (l.any fun c => decide (c = ⟨ra, rb, (y : Int)⟩)) = q2 at *
  clear h hl hbh hby hbl hq hT
  go_enter Tryz.func280, Tryz.ntmps280
  go_wp2_with fail
  refine hw1.out.mono ?_
  rintro e w1 ⟨rfl, hb1⟩
  have hb2 := hB.trans (hb1.mono hB.size)
  have c0' := (hb1.cell (p := ⟨w.heap.size, 0, none⟩) k0.lt).trans c0
  have c1' := (hb1.cell (p := ⟨w.heap.size, 1, none⟩) k0.lt).trans c1
  have e1' := (hb1.cell (p := ⟨by', 0, none⟩) (block_lt_of_cell e1)).trans e1
  have e2' := (hb1.cell (p := ⟨bl, 0, none⟩) (block_lt_of_cell e2)).trans e2
  have hc2 := hide (hco.out w1 hb1)
  clear hW0 hw1 hco c0 c1 e0 e1 e2
  cases q1 with
  | false =>
    have hre : q = false := by rw [hp.out]; rfl
    subst hre
    clear hp hc2
    go_wp2
    go_ret
    exact ⟨rfl, hb2⟩
  | true =>
    by_cases h1 : rb < 0
    · have hre : q = true := by rw [hp.out, decide_eq_true h1]; rfl
      have g1 : decide (rb < 0) = true := by simpa using h1
      subst hre
      clear hp hc2
      go_wp2
      go_ret
      exact ⟨rfl, hb2⟩
    · have g1 : decide (rb < 0) = false := by simpa using h1
      by_cases h2 : rb = (y : Int)
      · have hre : q = false := by rw [hp.out, decide_eq_false h1]; simp [h2]
        have g2 : (rb != (y : Int)) = false := by simp [h2]
        subst hre
        clear hp hc2 h1 h2
        go_wp2
        go_ret
        exact ⟨rfl, hb2⟩
      · have hre : q = q2 := by rw [hp.out, decide_eq_false h1]; simp [h2]
        have g2 : (rb != (y : Int)) = true := by simpa using h2
        subst hre
        clear hp h1 h2
        go_wp2_with fail
        refine hc2.out.mono ?_
        rintro e w2 ⟨rfl, hb3⟩
        go_wp2
        go_ret
        exact ⟨rfl, hb2.trans (hb3.mono hb2.size)⟩
set_option maxRecDepth 100000 in
theorem over19_any (A : Option Addr) (c : Nat) (H : List Txn) (Al : Option Addr) (cl : Nat) (l : List Cho) (x y : Nat) (w : World) (h : TxnS w (Old w) (.slice A H.length c) H) (hn : SmallH H) (hl : ChoS w (Old w) (.slice Al l.length cl) l) (hln : l.length ≤ 1000000000) (hx : x < H.length) (hy : y < H.length) :
    Calls Tryz.prog 279 #[.slice Al l.length cl, .agg #[.slice A H.length c], .int .i64 (x : Int), .int .i64 (y : Int)] w fun e w' => e = .returned (.bool (overE H l x y)) ∧ Below w.heap.size w w' := by
  have hx0 : (0 : Int) ≤ (x : Int) := Int.natCast_nonneg _
  have hx1 : (x : Int) < (H.length : Int) := by omega
  obtain ⟨W0, hW0⟩ : ∃ W0, ((w.alloc (.cells #[.slice Al l.length cl] 299)).alloc (.cells #[.slice A H.length c] 24)).alloc (.cells #[.int .i64 (y : Int)] 3) = W0 := ⟨_, rfl⟩
  have hB := below_three hW0
  have k0 := Blk.three1 hW0
  have k1 := Blk.three2 hW0
  have k2 := Blk.three3 hW0
  have hT := hide (h.below hB)
  have hL := hide (hl.below hB)
  obtain ⟨b, off, Aw, cw, Ar, cr, rfl, _, d0, d1, d2, -, hrs⟩ := TxnS.at_ hT.out hx
  have hrl : H[x].reads.length ≤ 1000000 := (hn.2 _ (List.getElem_mem hx)).2
  have hc := hide (containsTk_any 280 (enters_of Tryz.func280 (by kernel_rfl) rfl) #[.pointer (some ⟨w.heap.size + 1, 0, none⟩), .pointer (some ⟨w.heap.size + 1 + 1, 0, none⟩), .pointer (some ⟨w.heap.size, 0, none⟩)] (overR H l y) Ar cr H[x].reads W0 hrs (by omega) (fun W hbW r _ => ovc19_any _ c H Al cl l r y _ _ _ W (hT.out.below hbW) hn (hL.out.below hbW) hln hy (by have := (k1.below hbW k1.lt).cell 0; simpa using this) (by have := (k2.below hbW k2.lt).cell 0; simpa using this) (by have := (k0.below hbW k0.lt).cell 0; simpa using this)))
  have hre : overE H l x y = (decide (x ≠ y) && H[x].reads.any (overR H l y)) := by unfold overE; rw [txnAt_of hx]
  rw [hre]
  generalize H[x].reads = R at *
  generalize R.any (overR H l y) = q at *
  have c0 := Blk.n0 k1
  have c1 := Blk.n0 k2
  clear h hl hrs hre
  by_cases hxy : x = y
  · have g1 : ((x : Int) != (y : Int)) = false := by simp [hxy]
    have g2 : (x != y) = false := by simp [hxy]
    have hq : (decide (x ≠ y) && q) = false := by simp [hxy]
    rw [hq]
    clear hc hxy hq
    go_enter Tryz.func279, Tryz.ntmps279
    go_wp2
    go_ret
    exact ⟨rfl, hB⟩
  · have g1 : ((x : Int) != (y : Int)) = true := by simp; omega
    have g2 : (x != y) = true := by simp [hxy]
    have hq : (decide (x ≠ y) && q) = q := by simp [hxy]
    rw [hq]
    clear hxy hq
    go_enter Tryz.func279, Tryz.ntmps279
    go_wp2_with fail
    refine hc.out.mono ?_
    rintro e w1 ⟨rfl, hb1⟩
    go_wp2
    go_ret
    exact ⟨rfl, hB.trans (hb1.mono hB.size)⟩
set_option maxRecDepth 100000 in
theorem someS_any (A : Option Addr) (c : Nat) (H : List Txn) (Al : Option Addr) (cl : Nat) (l : List Cho) (x y : Nat) (bh bx by' : Nat) (w : World) (h : TxnS w (Old w) (.slice A H.length c) H) (hn : SmallH H) (hl : ChoS w (Old w) (.slice Al l.length cl) l) (hln : l.length ≤ 1000000000) (hx : x < H.length) (hy : y < H.length)
    (hbh : w.cell? ⟨bh, 0, none⟩ = some (.slice A H.length c)) (hbx : w.cell? ⟨bx, 0, none⟩ = some (.int .i64 (x : Int))) (hby : w.cell? ⟨by', 0, none⟩ = some (.int .i64 (y : Int))) :
    Calls Tryz.prog 242 #[.iface 267 (.agg #[]), .pointer (some ⟨bh, 0, none⟩), .pointer (some ⟨bx, 0, none⟩), .pointer (some ⟨by', 0, none⟩)] w fun e w' => e = .returned (.bool (soE H x y)) ∧ Below w.heap.size w w' := by
  have hc := hide (sess19_any A c H x y undef w h hx hy)
  clear h hl
  go_enter Tryz.func242, Tryz.ntmps242
  go_wp2_with fail
  refine hc.out.mono ?_
  rintro e w1 ⟨rfl, hb1⟩
  go_wp2
  go_ret
  exact ⟨rfl, hb1⟩
set_option maxRecDepth 100000 in
theorem someR_any (A : Option Addr) (c : Nat) (H : List Txn) (Al : Option Addr) (cl : Nat) (l : List Cho) (x y : Nat) (bh bx by' : Nat) (w : World) (h : TxnS w (Old w) (.slice A H.length c) H) (hn : SmallH H) (hl : ChoS w (Old w) (.slice Al l.length cl) l) (hln : l.length ≤ 1000000000) (hx : x < H.length) (hy : y < H.length)
    (hbh : w.cell? ⟨bh, 0, none⟩ = some (.slice A H.length c)) (hbx : w.cell? ⟨bx, 0, none⟩ = some (.int .i64 (x : Int))) (hby : w.cell? ⟨by', 0, none⟩ = some (.int .i64 (y : Int))) :
    Calls Tryz.prog 242 #[.iface 268 (.agg #[]), .pointer (some ⟨bh, 0, none⟩), .pointer (some ⟨bx, 0, none⟩), .pointer (some ⟨by', 0, none⟩)] w fun e w' => e = .returned (.bool (redE H x y)) ∧ Below w.heap.size w w' := by
  have hc := hide (read19_any A c H x y w h hn hy)
  clear h hl
  go_enter Tryz.func242, Tryz.ntmps242
  go_wp2_with fail
  refine hc.out.mono ?_
  rintro e w1 ⟨rfl, hb1⟩
  go_wp2
  go_ret
  exact ⟨rfl, hb1⟩
set_option maxRecDepth 100000 in
theorem someW_any (A : Option Addr) (c : Nat) (H : List Txn) (Al : Option Addr) (cl : Nat) (l : List Cho) (x y : Nat) (bh bx by' : Nat) (w : World) (h : TxnS w (Old w) (.slice A H.length c) H) (hn : SmallH H) (hl : ChoS w (Old w) (.slice Al l.length cl) l) (hln : l.length ≤ 1000000000) (hx : x < H.length) (hy : y < H.length)
    (hbh : w.cell? ⟨bh, 0, none⟩ = some (.slice A H.length c)) (hbx : w.cell? ⟨bx, 0, none⟩ = some (.int .i64 (x : Int))) (hby : w.cell? ⟨by', 0, none⟩ = some (.int .i64 (y : Int))) :
    Calls Tryz.prog 242 #[.iface 269 (.slice Al l.length cl), .pointer (some ⟨bh, 0, none⟩), .pointer (some ⟨bx, 0, none⟩), .pointer (some ⟨by', 0, none⟩)] w fun e w' => e = .returned (.bool (writE H l x y)) ∧ Below w.heap.size w w' := by
  have hc := hide (writ19_any A c H Al cl l x y w h hn hl hln hx hy)
  clear h hl
  go_enter Tryz.func242, Tryz.ntmps242
  go_wp2_with fail
  refine hc.out.mono ?_
  rintro e w1 ⟨rfl, hb1⟩
  go_wp2
  go_ret
  exact ⟨rfl, hb1⟩
set_option maxRecDepth 100000 in
theorem someO_any (A : Option Addr) (c : Nat) (H : List Txn) (Al : Option Addr) (cl : Nat) (l : List Cho) (x y : Nat) (bh bx by' : Nat) (w : World) (h : TxnS w (Old w) (.slice A H.length c) H) (hn : SmallH H) (hl : ChoS w (Old w) (.slice Al l.length cl) l) (hln : l.length ≤ 1000000000) (hx : x < H.length) (hy : y < H.length)
    (hbh : w.cell? ⟨bh, 0, none⟩ = some (.slice A H.length c)) (hbx : w.cell? ⟨bx, 0, none⟩ = some (.int .i64 (x : Int))) (hby : w.cell? ⟨by', 0, none⟩ = some (.int .i64 (y : Int))) :
    Calls Tryz.prog 242 #[.iface 299 (.slice Al l.length cl), .pointer (some ⟨bh, 0, none⟩), .pointer (some ⟨bx, 0, none⟩), .pointer (some ⟨by', 0, none⟩)] w fun e w' => e = .returned (.bool (overE H l x y)) ∧ Below w.heap.size w w' := by
  have hc := hide (over19_any A c H Al cl l x y w h hn hl hln hx hy)
  clear h hl
  go_enter Tryz.func242, Tryz.ntmps242
  go_wp2_with fail
  refine hc.out.mono ?_
  rintro e w1 ⟨rfl, hb1⟩
  go_wp2
  go_ret
  exact ⟨rfl, hb1⟩
end Go.Proofs.YtjomijnbnbideaaGreatDoor
