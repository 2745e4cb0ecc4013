/-
  Walks: layer 12's reference: one graph behind another.
-/
import Derived.Test.YtfhnamomiaekdaaGreatT18
set_option linter.unusedVariables false
set_option linter.unusedSimpArgs false
namespace Go.Proofs.YtfhnamomiaekdaaGreat
open Go.RowKit Go.Inq
set_option maxHeartbeats 8000000
attribute [local go_sem ↓] Go.wp_at_zero Go.wp_at_succ

/-- What has been made of E then F, ahead of (x, y, z). -/
def thenTo (n : Nat) (E F : Edges) (x y z : Nat) : Edges := fun a c => (List.range n).any fun b => (E a b && F b c) && (decide (a < x) || (decide (a = x) && (decide (b < y) || (decide (b = y) && decide (c < z)))))
theorem thenTo_iff {n : Nat} {E F : Edges} {x y z a c : Nat} : thenTo n E F x y z a c = true ↔ ∃ b, b < n ∧ (E a b = true ∧ F b c = true) ∧ (a < x ∨ (a = x ∧ (b < y ∨ (b = y ∧ c < z)))) := by
  unfold thenTo
  simp [List.any_eq_true]
theorem thenTo_zero (n : Nat) (E F : Edges) : thenTo n E F 0 0 0 = noE := by
  funext a c
  rw [Bool.eq_iff_iff, thenTo_iff]
  simp [noE]
theorem thenTo_step {n : Nat} {E F : Edges} {x y z : Nat} (hy : y < n) (h1 : E x y = true) (h2 : F y z = true) : thenTo n E F x y (z + 1) = orE (thenTo n E F x y z) (oneE x z) := by
  funext a c
  rw [Bool.eq_iff_iff]
  unfold orE oneE
  rw [Bool.or_eq_true, thenTo_iff, thenTo_iff]
  simp
  constructor
  · rintro ⟨b, hb, h3, h4⟩
    by_cases e : a = x ∧ b = y ∧ c = z
    · exact .inr ⟨e.1, e.2.2⟩
    · exact .inl ⟨b, hb, h3, by omega⟩
  · rintro (⟨b, hb, h3, h4⟩ | ⟨rfl, rfl⟩)
    · exact ⟨b, hb, h3, by omega⟩
    · exact ⟨y, hy, ⟨h1, h2⟩, by omega⟩
theorem thenTo_skip {n : Nat} {E F : Edges} {x y z : Nat} (h : F y z = false) : thenTo n E F x y (z + 1) = thenTo n E F x y z := by
  funext a c
  rw [Bool.eq_iff_iff, thenTo_iff, thenTo_iff]
  constructor
  · rintro ⟨b, hb, h3, h4⟩
    by_cases e : b = y ∧ c = z
    · rw [e.1, e.2, h] at h3; cases h3.2
    · exact ⟨b, hb, h3, by omega⟩
  · rintro ⟨b, hb, h3, h4⟩
    exact ⟨b, hb, h3, by omega⟩
theorem thenTo_row {n : Nat} {E F : Edges} {x y a c : Nat} (hc : c < n) : thenTo n E F x y n a c = thenTo n E F x (y + 1) 0 a c := by
  rw [Bool.eq_iff_iff, thenTo_iff, thenTo_iff]
  constructor
  · rintro ⟨b, hb, h3, h4⟩; exact ⟨b, hb, h3, by omega⟩
  · rintro ⟨b, hb, h3, h4⟩; exact ⟨b, hb, h3, by omega⟩
theorem thenTo_no {n : Nat} {E F : Edges} {x y : Nat} (h : E x y = false) : thenTo n E F x (y + 1) 0 = thenTo n E F x y 0 := by
  funext a c
  rw [Bool.eq_iff_iff, thenTo_iff, thenTo_iff]
  constructor
  · rintro ⟨b, hb, h3, h4⟩
    by_cases e : a = x ∧ b = y
    · rw [e.1, e.2, h] at h3; cases h3.1
    · exact ⟨b, hb, h3, by omega⟩
  · rintro ⟨b, hb, h3, h4⟩; exact ⟨b, hb, h3, by omega⟩
theorem thenTo_next {n : Nat} {E F : Edges} {x a c : Nat} : thenTo n E F x n 0 a c = thenTo n E F (x + 1) 0 0 a c := by
  rw [Bool.eq_iff_iff, thenTo_iff, thenTo_iff]
  constructor
  · rintro ⟨b, hb, h3, h4⟩; exact ⟨b, hb, h3, by omega⟩
  · rintro ⟨b, hb, h3, h4⟩; exact ⟨b, hb, h3, by omega⟩
theorem thenTo_all {n : Nat} {E F : Edges} {a c : Nat} (ha : a < n) : thenTo n E F n 0 0 a c = thenE n E F a c := by
  rw [Bool.eq_iff_iff, thenTo_iff]
  unfold thenE
  rw [List.any_eq_true]
  constructor
  · rintro ⟨b, hb, h3, _⟩; exact ⟨b, List.mem_range.2 hb, by rw [h3.1, h3.2]; rfl⟩
  · rintro ⟨b, hb, h3⟩
    rw [Bool.and_eq_true] at h3
    exact ⟨b, List.mem_range.1 hb, h3, .inl ha⟩
set_option maxRecDepth 100000 in
theorem rcomp12_any (n : Nat) (A : Option Addr) (c : Nat) (E : Edges) (A2 : Option Addr) (c2 : Nat) (F : Edges) (K : Nat → Prop) (w : World) (h : GrS w K n A c E) (h2 : GrS w K n A2 c2 F) (hK : ∀ b, K b → b < w.heap.size) :
    Calls Tryz.prog 169 #[.agg #[.int .i64 n, .slice A n c], .agg #[.int .i64 n, .slice A2 n c2]] w (OutR w n (thenE n E F)) := by
  have hn64 := h.n64
  go_enter Tryz.func169, Tryz.ntmps169
  go_upto_region 1 with fail
  obtain ⟨W0, hW0⟩ : ∃ W0, ((w.alloc (.cells #[.int .i64 n, .slice A n c] 174)).alloc (.cells #[.int .i64 n, .slice A2 n c2] 174)).alloc (.cells #[.int .i64 0, .slice none 0 0] 174) = W0 := ⟨_, rfl⟩
  rw [hW0]
  have hb := below_three hW0
  have k1 := Blk.three1 hW0
  have k2 := Blk.three2 hW0
  have k3 := Blk.three3 hW0
  have s0 := size_three hW0
  have hg := hide (h.keep (Agree.below hb hK) (fun b hb => hb))
  have hg2 := hide (h2.keep (Agree.below hb hK) (fun b hb => hb))
  have hKW : Hid (∀ b, K b → b < W0.heap.size) := hide fun b hb => by have := hK b hb; omega
  clear hW0 h h2
  have c0 := k1.cell 0
  have c1 := k1.cell 1
  simp only [List.getElem?_toArray, List.getElem?_cons_zero, List.getElem?_cons_succ] at c0 c1
  replace s0 := hide s0
  go_wp2_with fail
  refine (rnew12_any n hn64 W0).mono ?_
  rintro e w1 ⟨v, rfl, hR, hb1⟩
  clear c0 c1
  obtain ⟨Av, cv, rfl, -⟩ := hR.gr hn64 (K := fun _ => True) (fun _ _ _ => trivial)
  go_upto_region 2 with fail
  obtain ⟨W5, hW5⟩ : ∃ W5, w1.alloc (.cells #[.int .i64 n, .slice Av n cv] 174) = W5 := ⟨_, rfl⟩
  rw [hW5]
  have hP := RGP.start hR hn64 hW5
  have hs1 := hb1.size
  have hb5 := below_allocEq hb1 hW5 hs1
  clear hW5 hR hb1
  go_wp2_with fail
  go_loopw [6] (fun s6 wr => ∃ x : Nat, x ≤ n ∧ s6 = .int .i64 x ∧ RGP wr W0.heap.size w1.heap.size n (thenTo n E F x 0 0) Av cv ∧ Below W0.heap.size W0 wr) (fun s6 _ => n - (intOf s6).toNat)
  case atStart => exact ⟨0, Nat.zero_le _, by go_num, by rw [thenTo_zero]; exact hP, hb5⟩
  case round =>
    obtain ⟨x, hx, rfl, hPr, hbr⟩ := hrel
    have hx1 : (0 : Int) ≤ (x : Int) := Int.natCast_nonneg _
    have c0 := hPr.c0
    have c1 := hPr.c1
    have k1r := k1.below hbr k1.lt
    have a0 := k1r.cell 0
    simp only [List.getElem?_toArray, List.getElem?_cons_zero, List.getElem?_cons_succ] at a0
    by_cases hlt : x < n
    · have hx2 : (x : Int) < (n : Int) := by omega
      go_wp2_with fail
      clear c0 c1 a0 k1r
      go_loopw [7] (fun s7 wq => ∃ y : Nat, y ≤ n ∧ s7 = .int .i64 y ∧ RGP wq W0.heap.size w1.heap.size n (thenTo n E F x y 0) Av cv ∧ Below W0.heap.size W0 wq) (fun s7 _ => n - (intOf s7).toNat)
      case atStart => exact ⟨0, Nat.zero_le _, by go_num, hPr, hbr⟩
      case round =>
        obtain ⟨y, hy, rfl, hPq, hbq⟩ := hrel
        have hy1 : (0 : Int) ≤ (y : Int) := Int.natCast_nonneg _
        have k1q := k1.below hbq k1.lt
        have a0 := k1q.cell 0
        have a1 := k1q.cell 1
        simp only [List.getElem?_toArray, List.getElem?_cons_zero, List.getElem?_cons_succ] at a0 a1
        by_cases hlq : y < n
        · have hy2 : (y : Int) < (n : Int) := by omega
          have hgq := hide (hg.out.keep (Agree.below hbq hKW.out) (fun b hb => hb))
          have hc1 := hide (rhas12_any n A c E x y K wr hgq.out (fun b hb => Nat.lt_of_lt_of_le (hKW.out b hb) hbq.size) hlt hlq)
          have hno := hide (thenTo_no (n := n) (E := E) (F := F) (x := x) (y := y))
          have hyes := hide (fun z (h1 : E x y = true) (h2 : F y z = true) => thenTo_step (n := n) hlq h1 h2)
          generalize E x y = e1 at *
          go_wp2_with fail
          clear a0 a1
          refine hc1.out.mono ?_
          rintro e w2 ⟨rfl, hb2⟩
          have hbz := hbq.trans (hb2.mono hbq.size)
          have hPz := hPq.below hb2 (Nat.le_refl _)
          clear hc1 hPq hPr k1q
          cases e1 with
          | false =>
            have hE2 := hide (hno.out rfl)
            clear hno hyes
            go_wp2
            go_roundw
            case rel => exact ⟨y + 1, by omega, by go_num, by rw [hE2.out]; exact hPz, hbz⟩
            case measure => simp [intOf]; omega
          | true =>
            clear hno
            go_wp2_with fail
            go_loopw [9] (fun s9 wq => ∃ z : Nat, z ≤ n ∧ s9 = .int .i64 z ∧ RGP wq W0.heap.size w1.heap.size n (thenTo n E F x y z) Av cv ∧ Below W0.heap.size W0 wq) (fun s9 _ => n - (intOf s9).toNat)
            case atStart => exact ⟨0, Nat.zero_le _, by go_num, hPz, hbz⟩
            case round =>
              obtain ⟨z, hz, rfl, hPz, hbz⟩ := hrel
              have hz1 : (0 : Int) ≤ (z : Int) := Int.natCast_nonneg _
              have k1z := k1.below hbz k1.lt
              have k2z := k2.below hbz k2.lt
              have a0 := k1z.cell 0
              have b0 := k2z.cell 0
              have b1 := k2z.cell 1
              simp only [List.getElem?_toArray, List.getElem?_cons_zero, List.getElem?_cons_succ] at a0 b0 b1
              by_cases hlz : z < n
              · have hz2 : (z : Int) < (n : Int) := by omega
                have hgz := hide (hg2.out.keep (Agree.below hbz hKW.out) (fun b hb => hb))
                have hc2 := hide (rhas12_any n A2 c2 F y z K wr hgz.out (fun b hb => Nat.lt_of_lt_of_le (hKW.out b hb) hbz.size) hlq hlz)
                have hst := hide (hyes.out z trivial)
                have hsk := hide (thenTo_skip (n := n) (E := E) (F := F) (x := x) (y := y) (z := z))
                generalize F y z = e2 at *
                go_wp2_with fail
                clear b0 b1 k2z a0 k1z
                refine hc2.out.mono ?_
                rintro e w3 ⟨rfl, hb3⟩
                have hb4 := hbz.trans (hb3.mono hbz.size)
                have hP4 := hPz.below hb3 (Nat.le_refl _)
                clear hc2 hbz hPz hgz hgq hbq hb3 hb2
                cases e2 with
                | false =>
                  have hE2 := hide (hsk.out rfl)
                  clear hst hsk
                  go_wp2
                  go_roundw
                  case rel => exact ⟨z + 1, by omega, by go_num, by rw [hE2.out]; exact hP4, hb4⟩
                  case measure => simp [intOf]; omega
                | true =>
                  have hE2 := hide (hst.out rfl)
                  obtain ⟨g, rfl, hX⟩ := hP4.at_ hlt
                  have hP5 := hide (hX.add (y := z) hlt hlz).drew
                  have hb5 := hide (below_drew (hb4.setCell (p := ⟨g, x, none⟩) hX.B (.int .u64 (withB (setB ((thenTo n E F x y z) x) n) (z : Int) : Nat))))
                  obtain ⟨-, c0, c1, d0, df, gp, gl, -, h64⟩ := hX
                  clear hst hsk hP4 hb4
                  generalize setB ((thenTo n E F x y z) x) n = s at *
                  go_upto_region 15 with fail
                  refine wp_region_still_tail 11 (by kernel_rfl) (by kernel_rfl) ?_
                  simp only [List.take_succ_cons, List.take_zero, List.drop_succ_cons, List.drop_zero]
                  repeat still_step
                  still_call ((rwith10_any _ h64 _ _).mono fun _ _ h => ⟨h.1, h.2.symm⟩)
                  repeat still_step
                  refine wpStill_nil ?_
                  change wpList _ _ _ _ _ (w3).drew
                  go_wp2
                  go_roundw
                  case rel => exact ⟨z + 1, by omega, by go_num, by rw [hE2.out]; exact hP5.out, hb5.out⟩
                  case measure => simp [intOf]; omega
              · obtain rfl : z = n := by omega
                have hP4 := hide (hPz.congr (F := thenTo z E F x (y + 1) 0) fun a b _ hb => thenTo_row hb)
                clear hPz
                go_wp2
                go_roundw
                case rel => exact ⟨y + 1, by omega, by go_num, hP4.out, hbz⟩
                case measure => simp [intOf]; omega
        · obtain rfl : y = n := by omega
          have hP4 := hide (hPq.congr (F := thenTo y E F (x + 1) 0 0) fun a b _ hb => thenTo_next)
          clear hPq hPr
          go_wp2
          go_roundw
          case rel => exact ⟨x + 1, by omega, by go_num, hP4.out, hbq⟩
          case measure => simp [intOf]; omega
    · obtain rfl : x = n := by omega
      have hP4 := hPr.congr (F := thenE x E F) fun a b ha _ => thenTo_all ha
      have k3r := k3.below hbr k3.lt
      have f0 := k3r.frozen 0
      have f1 := k3r.frozen 1
      have e0 := k3r.cell 0
      have e1 := k3r.cell 1
      have hs0 := s0.out
      have hs3 : w.heap.size + 1 + 1 < W0.heap.size := k3.lt
      have hR := hide (((hP4.rg.far (p := ⟨w.heap.size + 1 + 1, 0, none⟩) hs3 (.int .i64 x)).far (p := ⟨w.heap.size + 1 + 1, 1, none⟩) hs3 (.slice Av x cv)).base (B' := w.heap.size) (by omega))
      have hz := hide (((hb.trans (hbr.mono hb.size)).setCell (p := ⟨w.heap.size + 1 + 1, 0, none⟩) (by simp; try omega) (.int .i64 x)).setCell (p := ⟨w.heap.size + 1 + 1, 1, none⟩) (by simp; try omega) (.slice Av x cv))
      have hq := (k3r.set_ 0 (.int .i64 x)).set_ 1 (.slice Av x cv)
      simp only [List.setIfInBounds_toArray, List.set_cons_zero, List.set_cons_succ] at hq
      have y0 := hq.cell 0
      have y1 := hq.cell 1
      simp only [List.getElem?_toArray, List.getElem?_cons_zero, List.getElem?_cons_succ] at y0 y1 e0 e1
      clear hq hs0 hs3
      go_wp2_with fail
      exact bodyPost_ret (v := .agg #[.int .i64 x, .slice Av x cv]) (by simp [results, Tryz.results169, go_sem, y0, y1]) rfl ⟨_, rfl, hR.out, hz.out⟩
end Go.Proofs.YtfhnamomiaekdaaGreat
