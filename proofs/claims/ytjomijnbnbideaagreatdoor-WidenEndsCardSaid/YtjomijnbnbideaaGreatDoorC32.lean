/-
  Walks: layer 13's reference: does some way lead back?
-/
import Derived.Test.YtjomijnbnbideaaGreatDoorC31
set_option linter.unusedVariables false
set_option linter.unusedSimpArgs false
namespace Go.Proofs.YtjomijnbnbideaaGreatDoor
open Go.RowKit Go.Inq
set_option maxHeartbeats 8000000
attribute [local go_sem ↓] Go.wp_at_zero Go.wp_at_succ

set_option maxRecDepth 100000 in
theorem rcyc13_any (n : Nat) (A : Option Addr) (c : Nat) (E : Edges) (w : World) (h : GrS w (Old w) n A c E) :
    Calls Tryz.prog 174 #[.agg #[.int .i64 n, .slice A n c]] w fun e w' => e = .returned (.bool (cycB n E)) ∧ Below w.heap.size w w' := by
  have hn64 := h.n64
  obtain ⟨W0, hW0⟩ : ∃ W0, w.alloc (.cells #[.int .i64 n, .slice A n c] 124) = W0 := ⟨_, rfl⟩
  have hb := below_allocEq (Below.refl w.heap.size w) hW0 (Nat.le_refl _)
  have k1 := Blk.newEq hW0
  have hg := h.below hb
  have c0 := k1.cell 0
  have c1 := k1.cell 1
  simp only [List.getElem?_toArray, List.getElem?_cons_zero, List.getElem?_cons_succ] at c0 c1
  have hno : Hid ((∀ x, x < n → cloE n E x x = false) → cycB n E = false) := hide (fun g => by
    unfold cycB
    rw [List.any_eq_false]
    intro x hx
    rw [g x (List.mem_range.1 hx)]
    decide)
  have hyes : Hid (∀ x, x < n → cloE n E x x = true → cycB n E = true) := hide (fun x hx g => by
    unfold cycB
    rw [List.any_eq_true]
    exact ⟨x, List.mem_range.2 hx, g⟩)
  have hcl := hide (fun (w1 : World) (hb1 : Below W0.heap.size W0 w1) => rclose13_any n A c E w1 (hg.below hb1))
  have hri := hide (rright12_any n A c E (Old W0) W0 hg (fun b h => h))
  generalize cycB n E = r at *
  clear h hg
  go_enter Tryz.func174, Tryz.ntmps174
  go_wp2_with fail
  clear hW0 c0 c1
  refine hri.out.mono ?_
  rintro e w1 ⟨rfl, hb1⟩
  have k1b := k1.below hb1 k1.lt
  have c0 := k1b.cell 0
  have c1 := k1b.cell 1
  simp only [List.getElem?_toArray, List.getElem?_cons_zero, List.getElem?_cons_succ] at c0 c1
  have hc1 := hide (hcl.out w1 hb1)
  have hb2 := hb.trans (hb1.mono hb.size)
  clear hri hcl
  go_wp2_with fail
  clear c0 c1
  refine hc1.out.mono ?_
  rintro e w2 ⟨A2, c2, rfl, hG, hb3⟩
  have k1c := k1b.below hb3 k1b.lt
  have hb4 := hb2.trans (hb3.mono hb2.size)
  clear hc1 k1b k1
  go_upto_region 5 with fail
  obtain ⟨W5, hW5⟩ : ∃ W5, w2.alloc (.cells #[.int .i64 n, .slice A2 n c2] 124) = W5 := ⟨_, rfl⟩
  rw [hW5]
  have hBa := below_allocEq (Below.refl w2.heap.size w2) hW5 (Nat.le_refl _)
  have k2 := Blk.newEq hW5
  have hG5 := hide (hG.below hBa)
  have k1d := k1c.below hBa k1c.lt
  have hb5 := hb4.trans (hBa.mono hb4.size)
  clear hW5 hG hBa k1c hb4
  generalize w2.heap.size = p at *
  go_wp2_with fail
  go_loopw [5] (fun s5 wr => ∃ x : Nat, x ≤ n ∧ s5 = .int .i64 x ∧ Hid (∀ y, y < x → cloE n E y y = false) ∧ Below W5.heap.size W5 wr) (fun s5 _ => n - (intOf s5).toNat)
  case atStart => exact ⟨0, Nat.zero_le _, by go_num, hide (fun y hy => absurd hy (by omega)), Below.refl _ _⟩
  case round =>
    obtain ⟨x, hx, rfl, hall, hbr⟩ := hrel
    have hx1 : (0 : Int) ≤ (x : Int) := Int.natCast_nonneg _
    have m1 := k1d.below hbr k1d.lt
    have m2 := k2.below hbr k2.lt
    have c0 := m1.cell 0
    have d0 := m2.cell 0
    have d1 := m2.cell 1
    simp only [List.getElem?_toArray, List.getElem?_cons_zero, List.getElem?_cons_succ] at c0 d0 d1
    by_cases hlt : x < n
    · have hx2 : (x : Int) < (n : Int) := by omega
      have hha := hide (rhas12_any n A2 c2 (cloE n E) x x (Old wr) wr (hG5.out.below hbr) (fun b h => h) hlt hlt)
      have hy := hide (hyes.out x hlt)
      have hst := hide (fun (g : cloE n E x x = false) => (fun y (hy : y < x + 1) => (by
        by_cases e : y = x
        · subst e; exact g
        · exact hall.out y (by omega) : cloE n E y y = false)))
      generalize cloE n E x x = q at *
      go_wp2_with fail
      refine hha.out.mono ?_
      rintro e w3 ⟨rfl, hb3'⟩
      have hbz := hbr.trans (hb3'.mono hbr.size)
      clear hha c0 d0 d1
      cases q with
      | true =>
        have hr := hy.out rfl
        subst hr
        clear hst hy hall hno hyes
        go_wp2
        go_ret
        exact ⟨rfl, hb5.trans (hbz.mono hb5.size)⟩
      | false =>
        have hg := hide (hst.out rfl)
        clear hst hy hall
        go_wp2
        go_roundw
        case rel => exact ⟨x + 1, by omega, by go_num, hg, hbz⟩
        case measure => simp [intOf]; omega
    · obtain rfl : x = n := by omega
      have hr := hno.out hall.out
      subst hr
      clear hall hno hyes
      go_wp2
      go_ret
      exact ⟨rfl, hb5.trans (hbr.mono hb5.size)⟩
end Go.Proofs.YtjomijnbnbideaaGreatDoor
