/-
  Walks: event.Right, and the references of layers 1 and 3 that tell whether an event may be.
-/
import Derived.Test.YtjomijnbnbideaaGreatDoorProg
import Derived.Test.YtjomijnbnbideaaGreatDoorM01
import Derived.Test.YtjomijnbnbideaaGreatDoorM06
import Derived.Test.YtjomijnbnbideaaGreatDoorM07
set_option linter.unusedVariables false
set_option linter.unusedSimpArgs false
namespace Go.Proofs.YtjomijnbnbideaaGreatDoor
open Go.RowKit Go.Inq
set_option maxHeartbeats 400000

end Go.Proofs.YtjomijnbnbideaaGreatDoor

namespace Go.Proofs.YtjomijnbnbideaaGreatDoor
open Go.RowKit Go.Inq
set_option maxHeartbeats 1000000
attribute [local go_sem ↓] Go.wp_at_zero Go.wp_at_succ

def SmallH (l : List Txn) : Prop := l.length ≤ 1000000 ∧ ∀ t ∈ l, t.writes.length ≤ 1000000 ∧ t.reads.length ≤ 1000000
end Go.Proofs.YtjomijnbnbideaaGreatDoor

namespace Go.Proofs.YtjomijnbnbideaaGreatDoor
open Go.RowKit Go.Inq Go.Shelf
set_option maxHeartbeats 4000000
attribute [local go_sem] Oper.semAt_some
attribute [local go_sem ↓] Go.wp_at_zero Go.wp_at_succ

theorem faults8_any (v : Value) (w : World) : Calls Tryz.prog 162 #[.agg #[v]] w fun e w' => e = .returned (.func (.func 203) #[] #[.pointer (some ⟨w.heap.size, 0, none⟩)]) ∧ w' = w.alloc (.cells #[v] 24) := by
  go_enter Tryz.func162, Tryz.ntmps162
  go_wp2
  go_ret
  exact ⟨rfl, rfl⟩
theorem faults8_stops (Bh n₀ c : Nat) (A : Option Addr) (H : List Txn) (hn : SmallH H) (w : World) (hBn : Bh < n₀) (hnW : n₀ ≤ w.heap.size) (hc : w.cell? ⟨Bh, 0, none⟩ = some (.slice A H.length c)) (hT : TxnS w (fun b => b < n₀) (.slice A H.length c) H) :
    SeqStopsK Fence.wide (3 - 1) Tryz.prog 203 #[.pointer (some ⟨Bh, 0, none⟩)] (fun x : Bool => #[Value.bool x]) (KeepsAll n₀) (fun ys => ys = faultsL H) (fun pre => pre <+: faultsL H) (faultsL H).length w := fun l J Jx W hW hJ _ hY h0 =>
  faults1_in (3 - 1) (by omega) l Bh n₀ c A H hn.1 hn.2 J Jx W hJ hY ((hW.cell (p := ⟨Bh, 0, none⟩) (by show Bh < _; omega)).trans hc) hBn (Nat.le_trans hnW hW.size) (TxnS.keep hT (Agree.below hW fun b h => by omega) (fun b h => h)) h0
set_option maxRecDepth 100000 in
theorem right8_any (A : Option Addr) (c : Nat) (H : List Txn) (w : World) (h : TxnS w (Old w) (.slice A H.length c) H) (hn : SmallH H) :
    Calls Tryz.prog 97 #[.agg #[.slice A H.length c]] w fun e w' => e = .returned (.bool (rightH H)) ∧ Below w.heap.size w w' := by
  refine (callsIn_wide (n := 3)).1 ?_
  have hro : Fence.wide.round = none := rfl
  refine callsIn_of_wp_marks Tryz.func97 rfl trivial ?_ hro
  simp only [Tryz.ntmps97, List.size_toArray, List.length_cons, List.length_nil, Nat.reduceAdd, Nat.reduceSub, Array.replicate_succ, Array.replicate_zero, List.push_toArray, List.append_toArray, List.nil_append, List.cons_append]
  gi_wp2_with fail
  refine ⟨trivial, ?_⟩
  refine (callsIn_wide.2 (faults8_any _ _)).mono ?_
  rintro e w1 ⟨rfl, rfl⟩
  dsimp only
  gi_wp2
  obtain ⟨W0, hW0⟩ : ∃ W0, ((w.alloc (.cells #[.slice A H.length c] 24)).alloc (.cells #[.bool false] 4)).alloc (.cells #[.slice A H.length c] 24) = W0 := ⟨_, rfl⟩
  have hs0 : W0.heap.size = w.heap.size + 3 := by rw [← hW0]; simp
  have hBW : Below w.heap.size w W0 := by rw [← hW0]; exact (((Below.refl _ w).alloc (Nat.le_refl _) _).alloc (by simp) _).alloc (by simp; omega) _
  have k1 : Blk W0 (w.heap.size + 1) 4 #[.bool false] := by
    rw [← hW0]
    have := Blk.new (w.alloc (.cells #[.slice A H.length c] 24)) 4 #[.bool false]
    simp only [World.size_alloc] at this
    exact this.alloc _
  have k2 : Blk W0 (w.heap.size + 2) 24 #[.slice A H.length c] := by
    rw [← hW0]
    have := Blk.new ((w.alloc (.cells #[.slice A H.length c] 24)).alloc (.cells #[.bool false] 4)) 24 #[.slice A H.length c]
    simp only [World.size_alloc] at this
    exact this
  simp only [World.size_alloc]
  rw [hW0]
  have h2 : TxnS W0 (fun b => b < w.heap.size) (.slice A H.length c) H := TxnS.keep h (Agree.below hBW fun b h => h) (fun b h => h)
  have c2 := Blk.n0 k2
  have c1 := Blk.n0 k1
  have f1 := k1.frozen 0
  clear hW0
  refine wpIn_rangeFunc_ownF hro (by omega) (gf := 203) (lb := #[.pointer (some ⟨w.heap.size + 2, 0, none⟩)]) rfl trivial (enters_of Tryz.func203 (by kernel_rfl) rfl)
    (faults8_stops (w.heap.size + 2) (w.heap.size + 3) c A H hn W0 (by omega) (by omega) c2 (TxnS.fit h2 (fun b h => by omega))) KeepsAll.t (KeepsAll.b (by omega)) (Below.refl _ _) (fun _ => rfl)
    (fun pre W => ((pre.all id = true) ∧ W.cell? ⟨w.heap.size + 1, 0, none⟩ = some (.bool false) ∧ W.frozen? ⟨w.heap.size + 1, 0, none⟩ = false) ∧ Below w.heap.size w W)
    (fun cc pre W => (cc = .ret ∧ false ∈ pre ∧ W.cell? ⟨w.heap.size + 1, 0, none⟩ = some (.bool false)) ∧ Below w.heap.size w W)
    (OwnFrom.and (Own.from (fun s A B row hs hg hr => ⟨hs.1, cell_kept hs.2.1 hg hr, (frozen_kept hs.2.1 hg hr).trans hs.2.2⟩) _) (ownFrom_below (Nat.le_refl _) (by omega)))
    (fun cc => OwnFrom.and (Own.from (fun s A B row hs hg hr => ⟨hs.1, hs.2.1, cell_kept hs.2.2 hg hr⟩) _) (ownFrom_below (Nat.le_refl _) (by omega)))
    ⟨⟨rfl, c1, f1⟩, hBW⟩
    (fun x => { tmps := #[.agg #[.slice A H.length c], .pointer (some ⟨w.heap.size, 0, none⟩), .pointer (some ⟨w.heap.size + 1, 0, none⟩), .bool x, .agg #[.slice A H.length c], .func (.func 203) #[] #[.pointer (some ⟨w.heap.size + 2, 0, none⟩)], .bool x, undef, undef], defers := [] }) ?assign ?body ?done ?stop
  case assign =>
    intro l x W K hK
    gi_wp2
    exact hK
  case body =>
    rintro l pre x W ⟨⟨hp, hcr, hfr⟩, hB⟩ _
    cases x with
    | false =>
      gi_wp2
      exact ⟨KeepsOthers.setCell _ _ _, ⟨rfl, by simp, World.cell?_setCell_same' _ _ _ (by rw [hcr]; rfl)⟩, hB.setCell (p := ⟨w.heap.size + 1, 0, none⟩) (by simp) _⟩
    | true =>
      gi_wp2
      exact ⟨KeepsOthers.refl _, KeepsAll.refl _ _, ⟨by rw [List.all_append, hp]; rfl, hcr, hfr⟩, hB⟩
  case done =>
    rintro D xs W hD rfl ⟨⟨hall, hcr, hfr⟩, hB⟩ hK
    have hall := hide hall
    gi_wp2
    have hK' := (KeepsOthers.setCell W ⟨w.heap.size + 1, 0, none⟩ (.bool true)).same D _ hK rfl
    refine ⟨by simp, .inl ⟨_, _, rfl, run_takeDeferred hK', ?_⟩⟩
    have hc5 := cell_kept (World.cell?_setCell_same' W ⟨w.heap.size + 1, 0, none⟩ (.bool true) (by rw [hcr]; rfl)) (grownBy_putObj' _ D (.deferred none)) (fun r e => by cases e; exact ⟨_, hK', rfl⟩)
    refine ⟨.bool true, ?_, by unfold rightH; rw [hall.out], (hB.setCell (p := ⟨w.heap.size + 1, 0, none⟩) (by simp) _).trans (belowK_b (w := w) (Nat.le_refl _) _ D _ _ (by omega) hK' rfl rfl)⟩
    simp [results, Tryz.f97, go_sem, hc5]
  case stop =>
    rintro D cc pre W hD hpre ⟨⟨rfl, hin, hcr⟩, hB⟩ hK
    have hf := hide (pre_false hpre hin)
    gi_wp2
    refine ⟨by simp, .inl ⟨_, _, rfl, run_takeDeferred hK, ?_⟩⟩
    have hc5 := cell_kept hcr (grownBy_putObj' _ D (.deferred none)) (fun r e => by cases e; exact ⟨_, hK, rfl⟩)
    refine ⟨.bool false, ?_, by unfold rightH; rw [hf.out], hB.trans (belowK_b (w := w) (Nat.le_refl _) W D _ _ (by omega) hK rfl rfl)⟩
    simp [results, Tryz.f97, go_sem, hc5]
end Go.Proofs.YtjomijnbnbideaaGreatDoor
