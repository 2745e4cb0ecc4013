/-
  Walks: layer 12's reference: one graph behind another.
-/
import Derived.Test.YtjomijnbnbideaaGreatDoorT27
import Derived.Test.YtjomijnbnbideaaGreatDoorT12
import Derived.Test.YtjomijnbnbideaaGreatDoorT10
import Derived.Test.YtjomijnbnbideaaGreatDoorT07
import Derived.Test.YtjomijnbnbideaaGreatDoorT11
import Derived.Test.YtjomijnbnbideaaGreatDoorT13
set_option linter.unusedVariables false
set_option linter.unusedSimpArgs false
namespace Go.Proofs.YtjomijnbnbideaaGreatDoor
open Go.RowKit Go.Inq
set_option maxHeartbeats 8000000
attribute [local go_sem ↓] Go.wp_at_zero Go.wp_at_succ

/-- What has been made of E then F, ahead of (x, y, z). -/
def thenTo (n : Nat) (E F : Edges) (x y z : Nat) : Edges := fun a c => (List.range n).any fun b => (E a b && F b c) && (decide (a < x) || (decide (a = x) && (decide (b < y) || (decide (b = y) && decide (c < z)))))
theorem thenTo_iff {n : Nat} {E F : Edges} {x y z a c : Nat} : thenTo n E F x y z a c = true ↔ ∃ b, b < n ∧ (E a b = true ∧ F b c = true) ∧ (a < x ∨ (a = x ∧ (b < y ∨ (b = y ∧ c < z)))) := by
  unfold thenTo
  simp [List.any_eq_true]
theorem thenTo_zero (n : Nat) (E F : Edges) : thenTo n E F 0 0 0 = noE := by
  funext a c
  rw [Bool.eq_iff_iff, thenTo_iff]
  simp [noE]
theorem thenTo_step {n : Nat} {E F : Edges} {x y z : Nat} (hy : y < n) (h1 : E x y = true) (h2 : F y z = true) : thenTo n E F x y (z + 1) = orE (thenTo n E F x y z) (oneE x z) := by
  funext a c
  rw [Bool.eq_iff_iff]
  unfold orE oneE
  rw [Bool.or_eq_true, thenTo_iff, thenTo_iff]
  simp
  constructor
  · rintro ⟨b, hb, h3, h4⟩
    by_cases e : a = x ∧ b = y ∧ c = z
    · exact .inr ⟨e.1, e.2.2⟩
    · exact .inl ⟨b, hb, h3, by omega⟩
  · rintro (⟨b, hb, h3, h4⟩ | ⟨rfl, rfl⟩)
    · exact ⟨b, hb, h3, by omega⟩
    · exact ⟨y, hy, ⟨h1, h2⟩, by omega⟩
theorem thenTo_skip {n : Nat} {E F : Edges} {x y z : Nat} (h : F y z = false) : thenTo n E F x y (z + 1) = thenTo n E F x y z := by
  funext a c
  rw [Bool.eq_iff_iff, thenTo_iff, thenTo_iff]
  constructor
  · rintro ⟨b, hb, h3, h4⟩
    by_cases e : b = y ∧ c = z
    · rw [e.1, e.2, h] at h3; cases h3.2
    · exact ⟨b, hb, h3, by omega⟩
  · rintro ⟨b, hb, h3, h4⟩
    exact ⟨b, hb, h3, by omega⟩
theorem thenTo_row {n : Nat} {E F : Edges} {x y a c : Nat} (hc : c < n) : thenTo n E F x y n a c = thenTo n E F x (y + 1) 0 a c := by
  rw [Bool.eq_iff_iff, thenTo_iff, thenTo_iff]
  constructor
  · rintro ⟨b, hb, h3, h4⟩; exact ⟨b, hb, h3, by omega⟩
  · rintro ⟨b, hb, h3, h4⟩; exact ⟨b, hb, h3, by omega⟩
theorem thenTo_no {n : Nat} {E F : Edges} {x y : Nat} (h : E x y = false) : thenTo n E F x (y + 1) 0 = thenTo n E F x y 0 := by
  funext a c
  rw [Bool.eq_iff_iff, thenTo_iff, thenTo_iff]
  constructor
  · rintro ⟨b, hb, h3, h4⟩
    by_cases e : a = x ∧ b = y
    · rw [e.1, e.2, h] at h3; cases h3.1
    · exact ⟨b, hb, h3, by omega⟩
  · rintro ⟨b, hb, h3, h4⟩; exact ⟨b, hb, h3, by omega⟩
theorem thenTo_next {n : Nat} {E F : Edges} {x a c : Nat} : thenTo n E F x n 0 a c = thenTo n E F (x + 1) 0 0 a c := by
  rw [Bool.eq_iff_iff, thenTo_iff, thenTo_iff]
  constructor
  · rintro ⟨b, hb, h3, h4⟩; exact ⟨b, hb, h3, by omega⟩
  · rintro ⟨b, hb, h3, h4⟩; exact ⟨b, hb, h3, by omega⟩
theorem thenTo_all {n : Nat} {E F : Edges} {a c : Nat} (ha : a < n) : thenTo n E F n 0 0 a c = thenE n E F a c := by
  rw [Bool.eq_iff_iff, thenTo_iff]
  unfold thenE
  rw [List.any_eq_true]
  constructor
  · rintro ⟨b, hb, h3, _⟩; exact ⟨b, List.mem_range.2 hb, by rw [h3.1, h3.2]; rfl⟩
  · rintro ⟨b, hb, h3⟩
    rw [Bool.and_eq_true] at h3
    exact ⟨b, List.mem_range.1 hb, h3, .inl ha⟩
set_option maxRecDepth 100000 in
theorem rcomp12_any (n : Nat) (A : Option Addr) (c : Nat) (E : Edges) (A2 : Option Addr) (c2 : Nat) (F : Edges) (K : Nat → Prop) (w : World) (h : GrS w K n A c E) (h2 : GrS w K n A2 c2 F) (hK : ∀ b, K b → b < w.heap.size) :
    Calls Tryz.prog 127 #[.agg #[.int .i64 n, .slice A n c], .agg #[.int .i64 n, .slice A2 n c2]] w (OutR w n (thenE n E F)) := by
  have hn64 := h.n64
  go_enter Tryz.func127, Tryz.ntmps127
  go_upto_region 1 with fail
  obtain ⟨W0, hW0⟩ : ∃ W0, ((w.alloc (.cells #[.int .i64 n, .slice A n c] 124)).alloc (.cells #[.int .i64 n, .slice A2 n c2] 124)).alloc (.cells #[.int .i64 0, .slice none 0 0] 124) = W0 := ⟨_, rfl⟩
  rw [hW0]
  have hb := below_three hW0
  have k1 := Blk.three1 hW0
  have k2 := Blk.three2 hW0
  have k3 := Blk.three3 hW0
  have s0 := size_three hW0
  have hg := hide (h.keep (Agree.below hb hK) (fun b hb => hb))
  have hg2 := hide (h2.keep (Agree.below hb hK) (fun b hb => hb))
  have hKW : Hid (∀ b, K b → b < W0.heap.size) := hide fun b hb => by have := hK b hb; omega
  clear hW0 h h2
  have c0 := k1.cell 0
  have c1 := k1.cell 1
  simp only [List.getElem?_toArray, List.getElem?_cons_zero, List.getElem?_cons_succ] at c0 c1
  replace s0 := hide s0
  go_wp2_with fail
  refine (rnew12_any n hn64 W0).mono ?_
  rintro e w1 ⟨v, rfl, hR, hb1⟩
  clear c0 c1
  obtain ⟨Av, cv, rfl, -⟩ := hR.gr hn64 (K := fun _ => True) (fun _ _ _ => trivial)
  go_upto_region 2 with fail
  obtain ⟨W5, hW5⟩ : ∃ W5, w1.alloc (.cells #[.int .i64 n, .slice Av n cv] 124) = W5 := ⟨_, rfl⟩
  rw [hW5]
  have hP := RGP.start hR hn64 hW5
  have hs1 := hb1.size
  have hb5 := below_allocEq hb1 hW5 hs1
  clear hW5 hR hb1
  go_wp2_with fail
  go_loopw [6] (fun s6 wr => ∃ x : Nat, x ≤ n ∧ s6 = .int .i64 x ∧ RGP wr W0.heap.size w1.heap.size n (thenTo n E F x 0 0) Av cv ∧ Below W0.heap.size W0 wr) (fun s6 _ => n - (intOf s6).toNat)
  case atStart => exact ⟨0, Nat.zero_le _, by go_num, by rw [thenTo_zero]; exact hP, hb5⟩
  case round =>
    obtain ⟨x, hx, rfl, hPr, hbr⟩ := hrel
    have hx1 : (0 : Int) ≤ (x : Int) := Int.natCast_nonneg _
    have c0 := hPr.c0
    have c1 := hPr.c1
    have k1r := k1.below hbr k1.lt
    have a0 := k1r.cell 0
    simp only [List.getElem?_toArray, List.getElem?_cons_zero, List.getElem?_cons_succ] at a0
    by_cases hlt : x < n
    · have hx2 : (x : Int) < (n : Int) := by omega
      go_wp2_with fail
      clear c0 c1 a0 k1r
      go_loopw [7] (fun s7 wq => ∃ y : Nat, y ≤ n ∧ s7 = .int .i64 y ∧ RGP wq W0.heap.size w1.heap.size n (thenTo n E F x y 0) Av cv ∧ Below W0.heap.size W0 wq) (fun s7 _ => n - (intOf s7).toNat)
      case atStart => exact ⟨0, Nat.zero_le _, by go_num, hPr, hbr⟩
      case round =>
        obtain ⟨y, hy, rfl, hPq, hbq⟩ := hrel
        have hy1 : (0 : Int) ≤ (y : Int) := Int.natCast_nonneg _
        have k1q := k1.below hbq k1.lt
        have a0 := k1q.cell 0
        have a1 := k1q.cell 1
        simp only [List.getElem?_toArray, List.getElem?_cons_zero, List.getElem?_cons_succ] at a0 a1
        by_cases hlq : y < n
        · have hy2 : (y : Int) < (n : Int) := by omega
          have hgq := hide (hg.out.keep (Agree.below hbq hKW.out) (fun b hb => hb))
          have hc1 := hide (rhas12_any n A c E x y K wr hgq.out (fun b hb => Nat.lt_of_lt_of_le (hKW.out b hb) hbq.size) hlt hlq)
          have hno := hide (thenTo_no (n := n) (E := E) (F := F) (x := x) (y := y))
          have hyes := hide (fun z (h1 : E x y = true) (h2 : F y z = true) => thenTo_step (n := n) hlq h1 h2)
          generalize E x y = e1 at *
          go_wp2_with fail
          clear a0 a1
          refine hc1.out.mono ?_
          rintro e w2 ⟨rfl, hb2⟩
          have hbz := hbq.trans (hb2.mono hbq.size)
          have hPz := hPq.below hb2 (Nat.le_refl _)
          clear hc1 hPq hPr k1q
          cases e1 with
          | false =>
            have hE2 := hide (hno.out rfl)
            clear hno hyes
            go_wp2
            go_roundw
            case rel => exact ⟨y + 1, by omega, by go_num, by rw [hE2.out]; exact hPz, hbz⟩
            case measure => simp [intOf]; omega
          | true =>
            clear hno
            go_wp2_with fail
            go_loopw [9] (fun s9 wq => ∃ z : Nat, z ≤ n ∧ s9 = .int .i64 z ∧ RGP wq W0.heap.size w1.heap.size n (thenTo n E F x y z) Av cv ∧ Below W0.heap.size W0 wq) (fun s9 _ => n - (intOf s9).toNat)
            case atStart => exact ⟨0, Nat.zero_le _, by go_num, hPz, hbz⟩
            case round =>
              obtain ⟨z, hz, rfl, hPz, hbz⟩ := hrel
              have hz1 : (0 : Int) ≤ (z : Int) := Int.natCast_nonneg _
              have k1z := k1.below hbz k1.lt
              have k2z := k2.below hbz k2.lt
              have a0 := k1z.cell 0
              have b0 := k2z.cell 0
              have b1 := k2z.cell 1
              simp only [List.getElem?_toArray, List.getElem?_cons_zero, List.getElem?_cons_succ] at a0 b0 b1
              by_cases hlz : z < n
              · have hz2 : (z : Int) < (n : Int) := by omega
                have hgz := hide (hg2.out.keep (Agree.below hbz hKW.out) (fun b hb => hb))
                have hc2 := hide (rhas12_any n A2 c2 F y z K wr hgz.out (fun b hb => Nat.lt_of_lt_of_le (hKW.out b hb) hbz.size) hlq hlz)
                have hst := hide (hyes.out z trivial)
                have hsk := hide (thenTo_skip (n := n) (E := E) (F := F) (x := x) (y := y) (z := z))
                generalize F y z = e2 at *
                go_wp2_with fail
                clear b0 b1 k2z a0 k1z
                refine hc2.out.mono ?_
                rintro e w3 ⟨rfl, hb3⟩
                have hb4 := hbz.trans (hb3.mono hbz.size)
                have hP4 := hPz.below hb3 (Nat.le_refl _)
                clear hc2 hbz hPz hgz hgq hbq hb3 hb2
                cases e2 with
                | false =>
                  have hE2 := hide (hsk.out rfl)
                  clear hst hsk
                  go_wp2
                  go_roundw
                  case rel => exact ⟨z + 1, by omega, by go_num, by rw [hE2.out]; exact hP4, hb4⟩
                  case measure => simp [intOf]; omega
                | true =>
                  have hE2 := hide (hst.out rfl)
                  obtain ⟨g, rfl, hX⟩ := hP4.at_ hlt
                  have hP5 := hide (hX.add (y := z) hlt hlz).drew
                  have hb5 := hide (below_drew (hb4.setCell (p := ⟨g, x, none⟩) hX.B (.int .u64 (withB (setB ((thenTo n E F x y z) x) n) (z : Int) : Nat))))
                  obtain ⟨-, c0, c1, d0, df, gp, gl, -, h64⟩ := hX
                  clear hst hsk hP4 hb4
                  generalize setB ((thenTo n E F x y z) x) n = s at *
                  go_upto_region 15 with fail
                  refine wp_region_still_tail 11 (by kernel_rfl) (by kernel_rfl) ?_
                  simp only [List.take_succ_cons, List.take_zero, List.drop_succ_cons, List.drop_zero]
                  repeat still_step
                  still_call ((rwith10_any _ h64 _ _).mono fun _ _ h => ⟨h.1, h.2.symm⟩)
                  repeat still_step
                  refine wpStill_nil ?_
                  change wpList _ _ _ _ _ (w3).drew
                  go_wp2
                  go_roundw
                  case rel => exact ⟨z + 1, by omega, by go_num, by rw [hE2.out]; exact hP5.out, hb5.out⟩
                  case measure => simp [intOf]; omega
              · obtain rfl : z = n := by omega
                have hP4 := hide (hPz.congr (F := thenTo z E F x (y + 1) 0) fun a b _ hb => thenTo_row hb)
                clear hPz
                go_wp2
                go_roundw
                case rel => exact ⟨y + 1, by omega, by go_num, hP4.out, hbz⟩
                case measure => simp [intOf]; omega
        · obtain rfl : y = n := by omega
          have hP4 := hide (hPq.congr (F := thenTo y E F (x + 1) 0 0) fun a b _ hb => thenTo_next)
          clear hPq hPr
          go_wp2
          go_roundw
          case rel => exact ⟨x + 1, by omega, by go_num, hP4.out, hbq⟩
          case measure => simp [intOf]; omega
    · obtain rfl : x = n := by omega
      have hP4 := hPr.congr (F := thenE x E F) fun a b ha _ => thenTo_all ha
      have k3r := k3.below hbr k3.lt
      have f0 := k3r.frozen 0
      have f1 := k3r.frozen 1
      have e0 := k3r.cell 0
      have e1 := k3r.cell 1
      have hs0 := s0.out
      have hs3 : w.heap.size + 1 + 1 < W0.heap.size := k3.lt
      have hR := hide (((hP4.rg.far (p := ⟨w.heap.size + 1 + 1, 0, none⟩) hs3 (.int .i64 x)).far (p := ⟨w.heap.size + 1 + 1, 1, none⟩) hs3 (.slice Av x cv)).base (B' := w.heap.size) (by omega))
      have hz := hide (((hb.trans (hbr.mono hb.size)).setCell (p := ⟨w.heap.size + 1 + 1, 0, none⟩) (by simp; try omega) (.int .i64 x)).setCell (p := ⟨w.heap.size + 1 + 1, 1, none⟩) (by simp; try omega) (.slice Av x cv))
      have hq := (k3r.set_ 0 (.int .i64 x)).set_ 1 (.slice Av x cv)
      simp only [List.setIfInBounds_toArray, List.set_cons_zero, List.set_cons_succ] at hq
      have y0 := hq.cell 0
      have y1 := hq.cell 1
      simp only [List.getElem?_toArray, List.getElem?_cons_zero, List.getElem?_cons_succ] at y0 y1 e0 e1
      clear hq hs0 hs3
      go_wp2_with fail
      exact bodyPost_ret (v := .agg #[.int .i64 x, .slice Av x cv]) (by simp [results, Tryz.results127, go_sem, y0, y1]) rfl ⟨_, rfl, hR.out, hz.out⟩
end Go.Proofs.YtjomijnbnbideaaGreatDoor

namespace Go.Proofs.YtjomijnbnbideaaGreatDoor
open Go.RowKit Go.Inq
set_option maxHeartbeats 4000000
attribute [local go_sem ↓] Go.wp_at_zero Go.wp_at_succ

/-- A reference's graph whose rows are the call's own. -/
def GVR (base n : Nat) (E : Edges) (v : Value) (W : World) : Prop := ∃ A c, v = .agg #[.int .i64 n, .slice A n c] ∧ RG W base n E (.slice A n c)
/-- A variable that is made and set: all else stays. -/
def VarStR (b : Nat) (W W' : World) : Prop :=
  (W'.os = W.os ∧ W'.tape = W.tape ∧ W'.output = W.output ∧ W.heap.size ≤ W'.heap.size) ∧ ∀ k, k < W.heap.size → W'.heap[k]? = W.heap[k]? ∨ (b ≤ k ∧ ∃ cs cs', W.heap[k]? = some (.cells cs 124 (0, 0)) ∧ W'.heap[k]? = some (.cells cs' 124 (0, 0)) ∧ cs'.size = 2)
theorem VarStR.of_below {b : Nat} {W W' : World} (h : Below W.heap.size W W') : VarStR b W W' := ⟨⟨h.os, h.tape, h.output, h.size⟩, fun k hk => .inl (h.block k hk)⟩
theorem VarStR.blk {b g : Nat} {t : TypeId} {cs : Array Value} {W W' : World} (h : VarStR b W W') (hk : Blk W g t cs) (ht : t ≠ 124) : Blk W' g t cs := by
  rcases h.2 g hk.lt with e | ⟨_, cs1, _, e, _⟩
  · exact e.trans hk
  · rw [show W.heap[g]? = _ from hk] at e
    injection e with e
    injection e with _ e
    exact absurd e ht
theorem GVR.var {base n b : Nat} {E : Edges} {v : Value} {W W' : World} (h : GVR base n E v W) (hb : VarStR b W W') : GVR base n E v W' := by
  obtain ⟨A, c, h1, h2⟩ := h
  refine ⟨A, c, h1, ?_⟩
  rcases h2 with h2 | ⟨g, cap, cur, h2, h3, h4, r⟩
  · exact .inl h2
  · exact .inr ⟨g, cap, cur, h2, h3, hb.blk h4 (by decide), r⟩
theorem GVR.of {W0 W : World} {base n : Nat} {E : Edges} {e : Ending} (hn : n ≤ 64) (hB : base ≤ W0.heap.size) (h : OutR W0 n E e W) : ∃ v, e = .returned v ∧ GVR base n E v W ∧ Below W0.heap.size W0 W := by
  obtain ⟨u, rfl, hR, hb⟩ := h
  obtain ⟨A, c, rfl, -⟩ := hR.gr hn (K := fun _ => True) (fun _ _ _ => trivial)
  exact ⟨_, rfl, ⟨A, c, rfl, hR.base hB⟩, hb⟩
theorem GVR.gr {W : World} {base n : Nat} {E : Edges} {v : Value} (hn : n ≤ 64) (h : GVR base n E v W) : ∃ A c, v = .agg #[.int .i64 n, .slice A n c] ∧ GrS W (Old W) n A c E ∧ RG W base n E (.slice A n c) := by
  obtain ⟨A, c, rfl, hR⟩ := h
  obtain ⟨A', c', e, hg⟩ := hR.gr hn (K := Old W) (fun g _ h => h)
  simp only [Value.slice.injEq, true_and] at e
  obtain ⟨rfl, rfl⟩ := e
  exact ⟨A, c, rfl, hg, hR⟩
def VarVR (b : Nat) (v : Value) (W : World) : Prop := ∃ g, b ≤ g ∧ v = .pointer (some ⟨g, 0, none⟩) ∧ ∃ x y, Blk W g 124 #[x, y]
theorem VarVR.var {b b' : Nat} {v : Value} {W W' : World} (h : VarVR b v W) (hs : VarStR b' W W') : VarVR b v W' := by
  obtain ⟨g, h1, h2, x, y, h3⟩ := h
  rcases hs.2 g h3.lt with e | ⟨_, cs, cs', _, e2, e3⟩
  · exact ⟨g, h1, h2, x, y, e.trans h3⟩
  · refine ⟨g, h1, h2, cs'[0]'(by omega), cs'[1]'(by omega), ?_⟩
    have : cs' = #[cs'[0]'(by omega), cs'[1]'(by omega)] := by
      refine Array.ext (by simp [e3]) fun i h1 h2 => ?_
      simp at h2
      match i, h2 with
      | 0, _ => rfl
      | 1, _ => rfl
    unfold Blk
    rw [← this]
    exact e2
def RPastW (H : List Txn) (A : Option Addr) (c base : Nat) : Nat → (Nat → Value) → World → Prop
  | 0, vs, _ => vs 0 = .agg #[.slice A H.length c]
  | 1, vs, W => GVR base H.length (soE H) (vs 1) W
  | 2, vs, _ => vs 2 = .agg #[.slice A H.length c]
  | 3, vs, W => GVR base H.length (wrE H) (vs 3) W
  | 4, vs, W => GVR base H.length (pastE H) (vs 4) W
  | 5, vs, W => VarVR base (vs 5) W
  | 6, vs, W => ∃ g x y, vs 5 = .pointer (some ⟨g, 0, none⟩) ∧ base ≤ g ∧ vs 4 = .agg #[x, y] ∧ Blk W g 124 #[x, y]
  | _, _, _ => True
def rpastD : Nat → List Nat
  | 1 => [0]
  | 3 => [2]
  | 4 => [1, 3]
  | 6 => [5, 4]
  | _ => []
theorem rpast_cg {H : List Txn} {A : Option Addr} {c base : Nat} : ∀ j (vs vs' : Nat → Value) w, (∀ k, k = j ∨ k ∈ rpastD j → vs k = vs' k) → RPastW H A c base j vs w → RPastW H A c base j vs' w := by
  intro j vs vs' w hk h
  match j, h with
  | 0, h | 1, h | 2, h | 3, h | 4, h | 5, h =>
    simp only [RPastW] at h ⊢
    rw [← hk _ (.inl rfl)]
    exact h
  | 6, h =>
    simp only [RPastW] at h ⊢
    rw [← hk 5 (.inr (by simp [rpastD])), ← hk 4 (.inr (by simp [rpastD]))]
    exact h
  | n + 7, _ => trivial
/-- What an operation leaves. -/
def RPastSt (s base : Nat) (i : Nat) (W W' : World) : Prop := if i = s then VarStR base W W' else Below W.heap.size W W'
theorem RPastSt.var {s base i : Nat} {W W' : World} (h : RPastSt s base i W W') : VarStR base W W' := by
  unfold RPastSt at h
  split at h
  · exact h
  · exact VarStR.of_below h
theorem rpast_keep {H : List Txn} {A : Option Addr} {c base : Nat} : ∀ i j (vs : Nat → Value) w w', j ≠ i → j ∉ (fun _ => [] : Nat → List Nat) i → RPastW H A c base j vs w → RPastSt 6 base i w w' → RPastW H A c base j vs w' := by
  intro i j vs w w' hne _ h hs
  have hv := hs.var
  match j, h with
  | 0, h | 2, h => exact h
  | 1, h | 3, h | 4, h =>
    simp only [RPastW] at h ⊢
    exact h.var hv
  | 5, h =>
    simp only [RPastW] at h ⊢
    exact VarVR.var h hv
  | 6, h =>
    unfold RPastSt at hs
    rw [if_neg (fun e => hne e.symm)] at hs
    simp only [RPastW] at h ⊢
    obtain ⟨g, x, y, h1, h2, h3, h4⟩ := h
    exact ⟨g, x, y, h1, h2, h3, h4.below hs h4.lt⟩
  | n + 7, _ => trivial
theorem rpastD_end : ∀ i, 7 ≤ i → rpastD i = [] := by
  intro i hi
  match i, hi with
  | n + 7, _ => rfl
set_option maxRecDepth 100000 in
theorem rpast17_any (A : Option Addr) (c : Nat) (H : List Txn) (w : World) (h : TxnS w (Old w) (.slice A H.length c) H) (hr : rightH H = true) (hn : SmallH H) :
    Calls Tryz.prog 124 #[.agg #[.slice A H.length c]] w (OutR w H.length (pastE H)) := by
  obtain ⟨W0, hW0⟩ : ∃ W0, (w.alloc (.cells #[.slice A H.length c] 24)).alloc (.cells #[.int .i64 0, .slice none 0 0] 124) = W0 := ⟨_, rfl⟩
  have hB := below_two hW0
  have k0 := Blk.two1 hW0
  have k1 := Blk.two2 hW0
  have h32 : H.length ≤ 64 := by have := ((rightH_iff H).1 hr).1; omega
  go_enter Tryz.func124, Tryz.ntmps124
  go_wp2_with fail
  clear hW0
  refine wp_region_rel (RPastW H A c (w.heap.size + 2)) (fun W => Below w.heap.size w W ∧ Blk W w.heap.size 24 #[.slice A H.length c] ∧ Blk W (w.heap.size + 1) 124 #[.int .i64 0, .slice none 0 0]) (RPastSt 6 (w.heap.size + 2)) rpastD (by kernel_rfl) (by kernel_rfl) (by kernel_rfl) rpastD_end (fun _ => []) (by kernel_rfl) rpast_cg rpast_keep ⟨hB.drew, k0, k1⟩ ?hstep ?hend
  case hstep =>
    intro i o ho vs W hS hd
    obtain ⟨hb, m0, m1⟩ := hS
    have hT := h.below hb
    have hsz : w.heap.size + 2 ≤ W.heap.size := m1.lt
    match i, ho with
    | 0, ho | 2, ho =>
      simp only [List.getElem?_cons_zero, List.getElem?_cons_succ, Option.some.injEq] at ho
      subst ho
      simp only [acV, List.getElem?_toArray, List.getElem?_cons_zero, List.getElem?_cons_succ, Act.put, List.setIfInBounds_toArray, List.set_cons_zero, List.set_cons_succ]
      have c0 := m0.cell 0
      simp only [List.getElem?_toArray, List.getElem?_cons_zero] at c0
      go_wp2
      exact ⟨rfl, .agg #[.slice A H.length c], rfl, rfl, ⟨hb, m0, m1⟩, Below.refl _ _⟩
    | 1, ho =>
      have d0 := hd 0 (by simp [rpastD])
      simp only [RPastW] at d0
      simp only [List.getElem?_cons_zero, List.getElem?_cons_succ, Option.some.injEq] at ho
      subst ho
      simp only [acV, List.getElem?_toArray, List.getElem?_cons_zero, List.getElem?_cons_succ, Act.put, List.setIfInBounds_toArray, List.set_cons_zero, List.set_cons_succ]
      rw [d0]
      go_wp2_with fail
      refine (rso17_any A c H _ hT hr).mono ?_
      intro e W2 hO
      obtain ⟨v, rfl, hG, hb2⟩ := GVR.of h32 hsz hO
      go_wp2
      exact ⟨rfl, _, rfl, hG, ⟨hb.trans (hb2.mono hb.size), m0.below hb2 m0.lt, m1.below hb2 m1.lt⟩, hb2⟩
    | 3, ho =>
      have d0 := hd 2 (by simp [rpastD])
      simp only [RPastW] at d0
      simp only [List.getElem?_cons_zero, List.getElem?_cons_succ, Option.some.injEq] at ho
      subst ho
      simp only [acV, List.getElem?_toArray, List.getElem?_cons_zero, List.getElem?_cons_succ, Act.put, List.setIfInBounds_toArray, List.set_cons_zero, List.set_cons_succ]
      rw [d0]
      go_wp2_with fail
      refine (rwr17_any A c H _ hT hr hn).mono ?_
      intro e W2 hO
      obtain ⟨v, rfl, hG, hb2⟩ := GVR.of h32 hsz hO
      go_wp2
      exact ⟨rfl, _, rfl, hG, ⟨hb.trans (hb2.mono hb.size), m0.below hb2 m0.lt, m1.below hb2 m1.lt⟩, hb2⟩
    | 4, ho =>
      have g1 := hd 1 (by simp [rpastD])
      have g3 := hd 3 (by simp [rpastD])
      simp only [RPastW] at g1 g3
      obtain ⟨A1, c1, d1, q1, -⟩ := g1.gr h32
      obtain ⟨A3, c3, d3, q3, -⟩ := g3.gr h32
      simp only [List.getElem?_cons_zero, List.getElem?_cons_succ, Option.some.injEq] at ho
      subst ho
      simp only [acV, List.getElem?_toArray, List.getElem?_cons_zero, List.getElem?_cons_succ, Act.put, List.setIfInBounds_toArray, List.set_cons_zero, List.set_cons_succ]
      rw [d1, d3]
      go_wp2_with fail
      refine (runion12_any H.length _ _ (soE H) _ _ (wrE H) (Old W) _ q1 q3 (fun b hb => hb)).mono ?_
      intro e W2 hO
      obtain ⟨v, rfl, hG, hb2⟩ := GVR.of h32 hsz hO
      go_wp2
      exact ⟨rfl, _, rfl, hG, ⟨hb.trans (hb2.mono hb.size), m0.below hb2 m0.lt, m1.below hb2 m1.lt⟩, hb2⟩
    | 5, ho =>
      simp only [List.getElem?_cons_zero, List.getElem?_cons_succ, Option.some.injEq] at ho
      subst ho
      simp only [acV, List.getElem?_toArray, List.getElem?_cons_zero, List.getElem?_cons_succ, Act.put, List.setIfInBounds_toArray, List.set_cons_zero, List.set_cons_succ]
      go_wp2
      exact ⟨rfl, _, rfl, ⟨W.heap.size, by omega, rfl, _, _, Blk.new _ _ _⟩, ⟨hb.alloc hb.size _, m0.alloc _, m1.alloc _⟩, (Below.refl _ _).alloc (Nat.le_refl _) _⟩
    | 6, ho =>
      obtain ⟨g, hg, d8, x, y, q8⟩ := hd 5 (by simp [rpastD])
      obtain ⟨A6, c6, d6, q6⟩ := hd 4 (by simp [rpastD])
      simp only [List.getElem?_cons_zero, List.getElem?_cons_succ, Option.some.injEq] at ho
      subst ho
      simp only [acV, List.getElem?_toArray, List.getElem?_cons_zero, List.getElem?_cons_succ, Act.put, List.setIfInBounds_toArray, List.set_cons_zero, List.set_cons_succ]
      rw [d8, d6]
      have c0 := q8.cell 0
      have c1 := q8.cell 1
      have f0 := q8.frozen 0
      have f1 := q8.frozen 1
      simp only [List.getElem?_toArray, List.getElem?_cons_zero, List.getElem?_cons_succ] at c0 c1
      go_wp2
      have hq := (q8.set_ 0 (.int .i64 H.length)).set_ 1 (.slice A6 H.length c6)
      have n1 : w.heap.size ≠ g := by omega
      have n2 : w.heap.size + 1 ≠ g := by omega
      refine ⟨rfl, undef, rfl, ⟨g, _, _, (show updV vs 6 undef 5 = _ from d8), hg, (show updV vs 6 undef 4 = _ from d6), by simpa using hq⟩, ⟨(hb.setCell (p := ⟨g, 0, none⟩) (by simp; omega) _).setCell (p := ⟨g, 1, none⟩) (by simp; omega) _, (m0.far n1 _).far n1 _, (m1.far n2 _).far n2 _⟩, ?_⟩
      unfold RPastSt
      rw [if_pos rfl]
      refine ⟨⟨rfl, rfl, rfl, by simp⟩, fun k hk => ?_⟩
      by_cases e : k = g
      · subst e
        exact .inr ⟨hg, _, _, q8, hq, by simp⟩
      · exact .inl ((Below.heap_setCell _ ⟨g, 1, none⟩ _ k e).trans (Below.heap_setCell _ ⟨g, 0, none⟩ _ k e))
    | n + 7, ho => simp at ho
  case hend =>
    rintro vs W ⟨hb, m0, m1⟩ hd
    obtain ⟨g, x, y, d8, hg, d6, q9⟩ := hd 6 (by simp) (by simp)
    obtain ⟨A6, c6, d6', q6⟩ := hd 4 (by simp) (by simp)
    rw [d6] at d6'
    injection d6' with d6'
    simp only [Array.mk.injEq, List.cons.injEq, and_true] at d6'
    obtain ⟨rfl, rfl⟩ := d6'
    clear hd
    simp only [acV, List.getElem?_toArray, List.getElem?_cons_zero, List.getElem?_cons_succ, Act.put, List.setIfInBounds_toArray, List.set_cons_zero, List.set_cons_succ, List.length_cons, List.length_nil, Nat.reduceAdd]
    rw [d8, d6]
    have c0 := q9.cell 0
    have c1 := q9.cell 1
    have j0 := m1.cell 0
    have j1 := m1.cell 1
    have jf := m1.frozen 0
    have jf1 := m1.frozen 1
    simp only [List.getElem?_toArray, List.getElem?_cons_zero, List.getElem?_cons_succ] at c0 c1 j0 j1
    go_wp2
    have kF0 := ((q6.far (p := ⟨w.heap.size + 1, 0, none⟩) (by simp) (.int .i64 H.length)).far (p := ⟨w.heap.size + 1, 1, none⟩) (by simp) (.slice A6 H.length c6)).base (B' := w.heap.size) (by omega)
    have hF := ((hb.setCell (p := ⟨w.heap.size + 1, 0, none⟩) (by simp) (.int .i64 H.length)).setCell (p := ⟨w.heap.size + 1, 1, none⟩) (by simp) (.slice A6 H.length c6))
    exact bodyPost_ret (v := .agg #[.int .i64 H.length, .slice A6 H.length c6]) (by simp [results, Tryz.results124, go_sem, j0, j1]) rfl ⟨_, rfl, kF0, hF⟩
end Go.Proofs.YtjomijnbnbideaaGreatDoor

namespace Go.Proofs.YtjomijnbnbideaaGreatDoor
open Go.RowKit Go.Inq
set_option maxHeartbeats 8000000
attribute [local go_sem ↓] Go.wp_at_zero Go.wp_at_succ

set_option maxRecDepth 100000 in
theorem rww18_any (A : Option Addr) (c : Nat) (H : List Txn) (Al : Option Addr) (cl : Nat) (l : List Cho) (w : World) (h : TxnS w (Old w) (.slice A H.length c) H) (hl : ChoS w (Old w) (.slice Al l.length cl) l) (hr : rightC H l = true) :
    Calls Tryz.prog 125 #[.agg #[.slice A H.length c], .slice Al l.length cl] w (OutR w H.length (wwE l)) := by
  have hn64 : H.length ≤ 64 := by have := ((rightH_iff H).1 (rightC_hist hr)).1; omega
  have hll := rightC_len hr
  have hcn := hide (fun x hx => choice_nat hr (x := x) hx)
  clear hr
  go_enter Tryz.func125, Tryz.ntmps125
  go_upto_region 1 with fail
  obtain ⟨W0, hW0⟩ : ∃ W0, (w.alloc (.cells #[.slice A H.length c] 24)).alloc (.cells #[.int .i64 0, .slice none 0 0] 124) = W0 := ⟨_, rfl⟩
  rw [hW0]
  have hb := below_two hW0
  have k1 := Blk.two1 hW0
  have k3 := Blk.two2 hW0
  have s0 := size_two hW0
  have hT := hide (h.below hb)
  clear hW0 h
  have c0 := k1.cell 0
  simp only [List.getElem?_toArray, List.getElem?_cons_zero, List.getElem?_cons_succ] at c0
  replace s0 := hide s0
  go_wp2_with fail
  refine (rnew12_any H.length hn64 W0).mono ?_
  rintro e w1 ⟨v, rfl, hR, hb1⟩
  clear c0
  obtain ⟨Av, cv, rfl, -⟩ := hR.gr hn64 (K := fun _ => True) (fun _ _ _ => trivial)
  go_upto_region 2 with fail
  obtain ⟨W5, hW5⟩ : ∃ W5, w1.alloc (.cells #[.int .i64 (H.length : Int), .slice Av H.length cv] 124) = W5 := ⟨_, rfl⟩
  rw [hW5]
  have hP := RGP.start hR hn64 hW5
  have hs1 := hb1.size
  have hb5 := below_allocEq hb1 hW5 hs1
  clear hW5 hR hb1
  go_wp2_with fail
  have hl0 := hide (hl.below hb)
  clear hl
  go_loopw [6] (fun s6 wr => ∃ k : Nat, k ≤ l.length ∧ s6 = .int .i64 k ∧ RGP wr W0.heap.size w1.heap.size H.length (wwE (l.take k)) Av cv ∧ Below W0.heap.size W0 wr) (fun s6 _ => l.length - (intOf s6).toNat)
  case atStart => exact ⟨0, Nat.zero_le _, by go_num, by rw [List.take_zero, wwE_nil]; exact hP, hb5⟩
  case round =>
    obtain ⟨k, hk, rfl, hP4, hb4⟩ := hrel
    have hk1 : (0 : Int) ≤ (k : Int) := Int.natCast_nonneg _
    by_cases hlt : k < l.length
    · have hk2 : (k : Int) < (l.length : Int) := by omega
      obtain ⟨b, off, rfl, _, -, y1, y2⟩ := (hl0.out.below hb4).at_ hlt
      obtain ⟨xa, xb, ha, hb', ha2, hb2⟩ := hcn.out _ (List.getElem_mem hlt)
      have hE2 := hide (wwE_step hlt ha hb')
      rw [ha] at y1
      rw [hb'] at y2
      have ha3 : (xa : Int) < (H.length : Int) := by omega
      have ha4 : (0 : Int) ≤ (xa : Int) := Int.natCast_nonneg _
      clear ha hb'
      go_wp2_with fail
      obtain ⟨g, rfl, hX⟩ := hP4.at_ ha2
      have hP5 := hide (hX.add (y := xb) ha2 hb2).drew
      have hb5 := hide (below_drew (hb4.setCell (p := ⟨g, xa, none⟩) hX.B (.int .u64 (withB (setB ((wwE (l.take k)) xa) H.length) (xb : Int) : Nat))))
      obtain ⟨-, c0, c1, d0, df, gp, gl, -, h64⟩ := hX
      clear hP hP4 hb4
      generalize setB ((wwE (l.take k)) xa) H.length = s at *
      go_upto_region 5 with fail
      refine wp_region_still_tail 23 (by kernel_rfl) (by kernel_rfl) ?_
      simp only [List.take_succ_cons, List.take_zero, List.drop_succ_cons, List.drop_zero]
      repeat still_step
      still_call ((rwith10_any _ h64 _ _).mono fun _ _ h => ⟨h.1, h.2.symm⟩)
      repeat still_step
      refine wpStill_nil ?_
      change wpList _ _ _ _ _ (wr).drew
      go_wp2
      go_roundw
      case rel => exact ⟨k + 1, by omega, by go_num, by rw [← hE2.out]; exact hP5.out, hb5.out⟩
      case measure => simp [intOf]; omega
    · obtain rfl : k = l.length := by omega
      rw [List.take_length] at hP4
      have hbr := hb4
      have c0 := hP4.c0
      have c1 := hP4.c1
      have k3r := k3.below hbr k3.lt
      have f0 := k3r.frozen 0
      have f1 := k3r.frozen 1
      have e0 := k3r.cell 0
      have e1 := k3r.cell 1
      have hs0 := s0.out
      have hs3 : w.heap.size + 1 < W0.heap.size := k3.lt
      have hR := hide (((hP4.rg.far (p := ⟨w.heap.size + 1, 0, none⟩) hs3 (.int .i64 H.length)).far (p := ⟨w.heap.size + 1, 1, none⟩) hs3 (.slice Av H.length cv)).base (B' := w.heap.size) (by omega))
      have hz := hide (((hb.trans (hbr.mono hb.size)).setCell (p := ⟨w.heap.size + 1, 0, none⟩) (by simp; try omega) (.int .i64 H.length)).setCell (p := ⟨w.heap.size + 1, 1, none⟩) (by simp; try omega) (.slice Av H.length cv))
      have hq := (k3r.set_ 0 (.int .i64 H.length)).set_ 1 (.slice Av H.length cv)
      simp only [List.setIfInBounds_toArray, List.set_cons_zero, List.set_cons_succ] at hq
      have y0 := hq.cell 0
      have y1 := hq.cell 1
      simp only [List.getElem?_toArray, List.getElem?_cons_zero, List.getElem?_cons_succ] at y0 y1 e0 e1
      clear hq hs0 hs3
      go_wp2_with fail
      exact bodyPost_ret (v := .agg #[.int .i64 H.length, .slice Av H.length cv]) (by simp [results, Tryz.results125, go_sem, y0, y1]) rfl ⟨_, rfl, hR.out, hz.out⟩
end Go.Proofs.YtjomijnbnbideaaGreatDoor

namespace Go.Proofs.YtjomijnbnbideaaGreatDoor
open Go.RowKit Go.Inq
set_option maxHeartbeats 4000000
attribute [local go_sem ↓] Go.wp_at_zero Go.wp_at_succ

theorem right_no {H : List Txn} {n : Nat} (h : n < H.length) (hb : (txF H n).all id = false) : rightH H = false := by
  rw [← Bool.not_eq_true, rightH_iff]
  rintro ⟨_, g⟩
  rw [(txF_iff h).2 (g n h)] at hb
  cases hb
theorem right_many {H : List Txn} (h : 32 < H.length) : rightH H = false := by
  rw [← Bool.not_eq_true, rightH_iff]
  rintro ⟨g, _⟩
  omega
theorem right_yes {H : List Txn} (h : ¬ 32 < H.length) (hall : ∀ n, n < H.length → (txF H n).all id = true) : rightH H = true :=
  (rightH_iff H).2 ⟨by omega, fun j hj => (txF_iff hj).1 (hall j hj)⟩
set_option maxRecDepth 100000 in
theorem right08_big (A : Option Addr) (c : Nat) (H : List Txn) (w : World) (h : TxnS w (Old w) (.slice A H.length c) H) (hs : LenH H) :
    Calls Tryz.prog 56 #[.agg #[.slice A H.length c]] w fun e w' => e = .returned (.bool (rightH H)) ∧ Below w.heap.size w w' := by
  have hH := hs.1
  have hA : Below w.heap.size w (w.alloc (.cells #[.slice A H.length c] 24)) := (Below.refl _ _).alloc (Nat.le_refl _) _
  have kH : Blk (w.alloc (.cells #[.slice A H.length c] 24)) w.heap.size 24 #[.slice A H.length c] := Blk.new _ _ _
  have y0 := kH.cell 0
  simp only [List.getElem?_toArray, List.getElem?_cons_zero] at y0
  by_cases h32 : 32 < H.length
  · have hb : decide ((H.length : Int) > 32) = true := by simp; omega
    have hr := hide (right_many h32)
    clear h32
    go_enter Tryz.func56, Tryz.ntmps56
    go_wp2
    go_ret
    exact ⟨by rw [hr.out]; rfl, hA⟩
  · have hb : decide ((H.length : Int) > 32) = false := by simp; omega
    have hno := hide (fun n hn g => right_no (H := H) (n := n) hn g)
    have hyes := hide (right_yes h32)
    clear h32
    go_enter Tryz.func56, Tryz.ntmps56
    go_wp2_with fail
    clear y0
    generalize w.alloc (.cells #[.slice A H.length c] 24) = W0 at *
    go_loopw [3, 4] (fun s3 _ wr => ∃ n : Nat, n ≤ H.length ∧ s3 = .int .i64 n ∧ Hid (∀ j, j < n → (txF H j).all id = true) ∧ Below w.heap.size w wr ∧ Blk wr w.heap.size 24 #[.slice A H.length c]) (fun s3 _ _ => H.length - (intOf s3).toNat)
    case atStart => exact ⟨0, Nat.zero_le _, by go_num, fun j h => absurd h (by omega), hA, kH⟩
    case round =>
      clear hA kH
      obtain ⟨n, hn, rfl, hall, hB, kH⟩ := hrel
      have hn1 : (0 : Int) ≤ (n : Int) := Int.natCast_nonneg _
      have y0 := kH.cell 0
      simp only [List.getElem?_toArray, List.getElem?_cons_zero] at y0
      by_cases hlt : n < H.length
      · have hn2 : (n : Int) < (H.length : Int) := by omega
        have hc := one08_any A c H n wr (TxnS.keep h (Agree.below hB fun b h => h) (fun b h => Nat.lt_of_lt_of_le h hB.size)) hlt hs
        have hno2 := hide (hno.out n hlt)
        have hst : Hid ((txF H n).all id = true → ∀ j, j < n + 1 → (txF H j).all id = true) := fun g j hj => by
          by_cases e : j = n
          · subst e; exact g
          · exact hall.out j (by omega)
        generalize (txF H n).all id = tb at *
        go_wp2_with fail
        refine hc.mono ?_
        clear hc
        rintro e w1 ⟨rfl, hb1⟩
        have kH1 := kH.below hb1 kH.lt
        have hB1 := hB.trans (hb1.mono hB.size)
        cases tb with
        | false =>
          have hr := hide (hno2.out rfl)
          go_wp2
          go_ret
          exact ⟨by rw [hr.out]; rfl, hB1⟩
        | true =>
          have hst2 := hide (hst.out rfl)
          go_wp2
          go_roundw
          case rel => exact ⟨n + 1, by omega, by go_num, hst2, hB1, kH1⟩
          case measure => simp [intOf]; omega
      · have hr := hide (hyes.out fun j hj => hall.out j (by omega))
        go_wp2
        go_ret
        exact ⟨by rw [hr.out]; rfl, hB⟩
theorem right08_any (A : Option Addr) (c : Nat) (H : List Txn) (w : World) (h : TxnS w (Old w) (.slice A H.length c) H) (hs : SmallH H) :
    Calls Tryz.prog 56 #[.agg #[.slice A H.length c]] w fun e w' => e = .returned (.bool (rightH H)) ∧ Below w.heap.size w w' := right08_big A c H w h hs.len
theorem rise_len {l : List Int} (h1 : l.Pairwise (· < ·)) (h2 : ∀ k ∈ l, 0 ≤ k ∧ k < 16) : l.length ≤ 16 := by
  have hb : ∀ i (hi : i < l.length), (i : Int) ≤ l[i] := by
    intro i
    induction i with
    | zero => intro hi; have := h2 _ (List.getElem_mem hi); omega
    | succ i ih =>
      intro hi
      have h3 := ih (by omega)
      have h4 := List.pairwise_iff_getElem.1 h1 i (i + 1) (by omega) hi (by omega)
      omega
  rcases Nat.lt_or_ge 16 l.length with h | h
  · have h3 := hb 16 h
    have h4 := h2 _ (List.getElem_mem h)
    omega
  · exact h
/-- A history that may be is small. -/
theorem right_small {H : List Txn} (h : rightH H = true) : SmallH H := by
  obtain ⟨h1, h2⟩ := (rightH_iff H).1 h
  refine ⟨by omega, fun t ht => ?_⟩
  obtain ⟨i, hi, rfl⟩ := List.getElem_of_mem ht
  have h3 := h2 i hi
  have h4 := rise_len h3.wrise h3.wkey
  have h5 := rise_len h3.rrise (fun k hk => by obtain ⟨x, hx, rfl⟩ := List.mem_map.1 hk; exact h3.rkey x hx)
  simp at h5
  omega
end Go.Proofs.YtjomijnbnbideaaGreatDoor

namespace Go.Proofs.YtjomijnbnbideaaGreatDoor
open Go.RowKit Go.Inq
set_option maxHeartbeats 8000000
attribute [local go_sem ↓] Go.wp_at_zero Go.wp_at_succ

/-- From whom t reads a key. -/
def fromL (R : List It) (key : Int) : Int × Bool := match R.find? (fun r => r.a == key) with
  | some r => (r.b, true)
  | none => (0, false)
theorem fromL_hit {R : List It} {key : Int} {i : Nat} (hi : i < R.length) (h0 : (R.take i).any (fun r => r.a == key) = false) (h : (R[i].a == key) = true) : fromL R key = (R[i].b, true) := by
  unfold fromL
  have : R.find? (fun r => r.a == key) = some R[i] := by
    rw [List.find?_eq_some_iff_getElem]
    refine ⟨h, i, hi, rfl, fun j hj => ?_⟩
    rw [List.any_eq_false] at h0
    exact Bool.not_eq_true' _ ▸ Bool.eq_false_iff.2 (h0 R[j] (List.mem_take_iff_getElem.2 ⟨j, by omega, rfl⟩))
  rw [this]
theorem fromL_miss {R : List It} {key : Int} (h : R.any (fun r => r.a == key) = false) : fromL R key = (0, false) := by
  unfold fromL
  have : R.find? (fun r => r.a == key) = none := by
    rw [List.find?_eq_none]
    intro r hr
    exact (List.any_eq_false.1 h) r hr
  rw [this]
set_option maxRecDepth 100000 in
theorem rfrom09_any (A : Option Addr) (c : Nat) (H : List Txn) (t : Nat) (key : Int) (w : World) (h : TxnS w (Old w) (.slice A H.length c) H) (hr : rightH H = true) (hn : SmallH H) (ht : t < H.length) :
    Calls Tryz.prog 219 #[.agg #[.slice A H.length c], .int .i64 (t : Int), .int .i64 key] w fun e w' => e = .returned (.tuple #[.int .i64 (fromL H[t].reads key).1, .bool (fromL H[t].reads key).2]) ∧ Below w.heap.size w w' := by
  obtain ⟨W0, hW0⟩ : ∃ W0, w.alloc (.cells #[.slice A H.length c] 24) = W0 := ⟨_, rfl⟩
  have hb := below_allocEq (Below.refl w.heap.size w) hW0 (Nat.le_refl _)
  have k1 := Blk.newEq hW0
  have h0 := h.below hb
  have c0 := k1.cell 0
  simp only [List.getElem?_toArray, List.getElem?_cons_zero, List.getElem?_cons_succ] at c0
  have hg1 : decide ((t : Int) < 0) = false := by simp
  have hg2 : decide ((t : Int) ≥ (H.length : Int)) = false := by simp; omega
  have ht1 : (0 : Int) ≤ (t : Int) := Int.natCast_nonneg _
  have ht2 : (t : Int) < (H.length : Int) := by omega
  have hR9 : H[t].reads.length ≤ 1000000 := (hn.2 _ (List.getElem_mem ht)).2
  have hrc := hide (right08_any A c H W0 h0 hn)
  rw [hr] at hrc
  clear h
  have hhit := hide (fun i => fromL_hit (R := H[t].reads) (key := key) (i := i))
  have hmis := hide (fromL_miss (R := H[t].reads) (key := key))
  generalize fromL H[t].reads key = F at *
  obtain ⟨F1, F2⟩ := F
  go_enter Tryz.func219, Tryz.ntmps219
  go_wp2_with fail
  refine hrc.out.mono ?_
  rintro e w1 ⟨rfl, hb1⟩
  have hb2 := hb.trans (hb1.mono hb.size)
  replace k1 := k1.below hb1 k1.lt
  obtain ⟨bt, ot, Aw, cw, Ar, cr, hA, hKb, -, -, d2, -, hrs⟩ := (h0.below hb1).at_ ht
  subst hA
  clear c0 hrc h0 hb1 hW0 hr
  have c0 := k1.cell 0
  simp only [List.getElem?_toArray, List.getElem?_cons_zero, List.getElem?_cons_succ] at c0
  generalize H[t].reads = R at *
  replace hb2 := hide hb2
  replace hrs := hide hrs
  go_wp2_with fail
  clear c0 d2 k1
  go_loop [10] (fun s10 => ∃ i : Nat, i ≤ R.length ∧ s10 = .int .i64 i ∧ Hid ((R.take i).any (fun r => r.a == key) = false)) (fun s10 => R.length - (intOf s10).toNat)
  case atStart => exact ⟨0, Nat.zero_le _, by go_num, hide (by simp)⟩
  case round =>
    obtain ⟨i, hi, rfl, hc⟩ := hrel
    have hi1 : (0 : Int) ≤ (i : Int) := Int.natCast_nonneg _
    by_cases hlt : i < R.length
    · have hi2 : (i : Int) < (R.length : Int) := by omega
      obtain ⟨br, orr, rfl, -, z0, z1⟩ := hrs.out.at_ hlt
      have hst : Hid ((R.take (i + 1)).any (fun r => r.a == key) = ((R.take i).any (fun r => r.a == key) || R[i].a == key)) := hide (by rw [take_snoc' hlt, List.any_append]; simp)
      have hh := hide (fun g => hhit.out i hlt hc.out g)
      generalize R[i] = r at *
      obtain ⟨ra, rb⟩ := r
      dsimp only at *
      cases hy : (ra == key) with
      | true =>
        have hr := hh.out hy
        simp only [Prod.mk.injEq] at hr
        obtain ⟨rfl, rfl⟩ := hr
        clear hh hst hmis hhit
        replace hc := hide hc
        go_wp2
        exact bodyPost_ret (v := .tuple #[.int .i64 F1, .bool true]) (by simp [results, Tryz.results219, go_sem]) rfl ⟨rfl, hb2.out⟩
      | false =>
        have hr : Hid ((R.take (i + 1)).any (fun r => r.a == key) = false) := hide (by rw [hst.out, hc.out, hy]; rfl)
        clear hh hst
        replace hc := hide hc
        go_wp2
        go_round
        case rel => exact ⟨i + 1, by omega, by go_num, hr⟩
        case measure => simp [intOf]; omega
    · obtain rfl : i = R.length := by omega
      have hr := hmis.out (by have := hc.out; rwa [List.take_length] at this)
      simp only [Prod.mk.injEq] at hr
      obtain ⟨rfl, rfl⟩ := hr
      clear hmis hhit
      replace hc := hide hc
      go_wp2
      exact bodyPost_ret (v := .tuple #[.int .i64 0, .bool false]) (by simp [results, Tryz.results219, go_sem]) rfl ⟨rfl, hb2.out⟩
/-- Who reads a key from somebody, among the first. -/
def rdrTo (H : List Txn) (key src : Int) (n : Nat) : List Nat := (List.range n).filter fun t => fromL (txnAt H t).reads key == (src, true)
def rdrL (H : List Txn) (key src : Int) : List Nat := rdrTo H key src H.length
theorem rdrTo_step (H : List Txn) (key src : Int) (n : Nat) : rdrTo H key src (n + 1) = rdrTo H key src n ++ (if fromL (txnAt H n).reads key == (src, true) then [n] else []) := by
  unfold rdrTo
  rw [List.range_succ, List.filter_append]
  congr 1
  rw [List.filter_cons, List.filter_nil]
theorem fromL_yes {R : List It} {key src : Int} (h : (R.map (·.a)).Pairwise (· < ·)) : fromL R key = (src, true) ↔ ∃ r ∈ R, r.a = key ∧ r.b = src := by
  unfold fromL
  cases hf : R.find? (fun r => r.a == key) with
  | none =>
    rw [List.find?_eq_none] at hf
    constructor
    · intro e; cases e
    · rintro ⟨r, h1, h2, _⟩; exact absurd (by simpa using h2) (hf r h1)
  | some r =>
    have h1 := List.find?_some hf
    have h2 := List.mem_of_find?_eq_some hf
    have h1 : r.a = key := by simpa using h1
    dsimp only
    rw [Prod.mk.injEq]
    constructor
    · rintro ⟨e, -⟩; exact ⟨r, h2, h1, e⟩
    · rintro ⟨q, h3, h4, h5⟩
      refine ⟨?_, rfl⟩
      obtain ⟨i, hi, e1⟩ := List.getElem_of_mem h2
      obtain ⟨j, hj, e2⟩ := List.getElem_of_mem h3
      rw [List.pairwise_iff_getElem] at h
      rcases Nat.lt_trichotomy i j with g | g | g
      · have := h i j (by simpa using hi) (by simpa using hj) g
        simp only [List.getElem_map, e1, e2] at this
        omega
      · subst g; rw [← e1, e2]; exact h5
      · have := h j i (by simpa using hj) (by simpa using hi) g
        simp only [List.getElem_map, e1, e2] at this
        omega
theorem rdrL_mem {H : List Txn} (hr : rightH H = true) {key src : Int} {t : Nat} : t ∈ rdrL H key src ↔ t < H.length ∧ ∃ r ∈ (txnAt H t).reads, r.a = key ∧ r.b = src := by
  unfold rdrL rdrTo
  rw [List.mem_filter, List.mem_range, beq_iff_eq]
  constructor
  · rintro ⟨h1, h2⟩; exact ⟨h1, (fromL_yes (by rw [txnAt_of h1]; exact (((rightH_iff H).1 hr).2 t h1).rrise)).1 h2⟩
  · rintro ⟨h1, h2⟩; exact ⟨h1, (fromL_yes (by rw [txnAt_of h1]; exact (((rightH_iff H).1 hr).2 t h1).rrise)).2 h2⟩
theorem rdrTo_len (H : List Txn) (key src : Int) (n : Nat) : (rdrTo H key src n).length ≤ n := Nat.le_trans (List.length_filter_le _ _) (by simp)
set_option maxRecDepth 100000 in
theorem rreaders09_any (A : Option Addr) (c : Nat) (H : List Txn) (key src : Int) (w : World) (h : TxnS w (Old w) (.slice A H.length c) H) (hr : rightH H = true) (hn : SmallH H) :
    Calls Tryz.prog 185 #[.agg #[.slice A H.length c], .int .i64 key, .int .i64 src] w (OutI w (intsN (rdrL H key src))) := by
  obtain ⟨ii, hii, hi1, hi2, hi3⟩ := info_parts infoI10
  have h32 : H.length ≤ 32 := ((rightH_iff H).1 hr).1
  obtain ⟨W0, hW0⟩ : ∃ W0, w.alloc (.cells #[.slice A H.length c] 24) = W0 := ⟨_, rfl⟩
  have hB := below_allocEq (Below.refl w.heap.size w) hW0 (Nat.le_refl _)
  have k0 := Blk.newEq hW0
  go_enter Tryz.func185, Tryz.ntmps185
  go_wp2_with fail
  clear hW0
  go_loopw [7, 8] (fun s7 s8 wr => ∃ k : Nat, k ≤ H.length ∧ s8 = .int .i64 k ∧ OwnI wr (w.heap.size + 1) s7 (intsN (rdrTo H key src k)) ∧ Below w.heap.size w wr ∧ Blk wr w.heap.size 24 #[.slice A H.length c]) (fun _ s8 _ => H.length - (intOf s8).toNat)
  case atStart => exact ⟨0, Nat.zero_le _, by go_num, OwnI.nil _ _, hB, k0⟩
  case round =>
    clear k0 hB
    obtain ⟨k, hk, rfl, hown, hb, k0⟩ := hrel
    have hk1 : (0 : Int) ≤ (k : Int) := Int.natCast_nonneg _
    have c0 := k0.cell 0
    simp only [List.getElem?_toArray, List.getElem?_cons_zero, List.getElem?_cons_succ] at c0
    by_cases hlt : k < H.length
    · have hk2 : (k : Int) < (H.length : Int) := by omega
      have hst := hide (rdrTo_step H key src k)
      rw [txnAt_of hlt] at hst
      have hcnt := rdrTo_len H key src k
      have hsn := hide (intsN_snoc (rdrTo H key src k) k)
      have hlq := hide (intsN_len (rdrTo H key src k))
      have hcall := hide (rfrom09_any A c H k key wr (h.below hb) hr hn hlt)
      generalize fromL H[k].reads key = F at *
      obtain ⟨F1, F2⟩ := F
      obtain ⟨Av, cv, rfl⟩ := hown.form
      replace hown := hide hown
      replace hr := hide hr
      go_wp2_with fail
      clear c0
      refine hcall.out.mono ?_
      rintro e w2 ⟨rfl, hb2⟩
      have hb3 := hb.trans (hb2.mono hb.size)
      have k3 := k0.below hb2 k0.lt
      have hown3 := hide (own_below hown.out hb2 (Nat.le_refl _))
      have hsz2 := hb3.size
      clear hcall hown hb2
      by_cases hyes : F2 = true ∧ F1 = src
      · obtain ⟨rfl, rfl⟩ := hyes
        have hst2 : Hid (rdrTo H key F1 (k + 1) = rdrTo H key F1 k ++ [k]) := hide (by rw [hst.out]; simp)
        clear hst
        generalize rdrTo H key F1 k = L at *
        have hkL : (intsN L).length + 1 ≤ maxLen := by rw [hlq.out]; unfold maxLen; omega
        have hkb : ((intsN L).length + 1) * 8 ≤ 140737488355328 := by rw [hlq.out]; omega
        generalize intsN L = D at *
        go_wp2_with (at_builtin; go_loud (refine wpList_push (enc := Go.Inq.encI) rfl (.tmp 31) (.tmp 33) 27 rfl (w.heap.size + 1) 3 ii _ 1 8 Tryz.underlying27 hii hi1 hi2 hi3 rfl (by decide) (.slice Av D.length cv) D rfl hown3.out (fun _ => rfl) (k : Int) _ rfl rfl Go.Inq.encI_one hkL hkb k3.lt w w.heap.size (by omega) hb3 ?_); intro v1 w6 hown1 hg1 hb1 hat1)
        have k6 := (k3.alloc (.cells #[.int .i64 (k : Int)] 3)).grown hg1 (fun e => by have := (hown3.out.lt _ e.symm).1; omega)
        go_roundw
        case rel => exact ⟨k + 1, by omega, by go_num, by rw [hst2.out, hsn.out]; exact hown1, hb1, k6⟩
        case measure => simp [intOf]; omega
      · have hst2 : Hid (rdrTo H key src (k + 1) = rdrTo H key src k) := hide (by rw [hst.out, if_neg (by simp only [beq_iff_eq, Prod.mk.injEq]; exact fun g => hyes ⟨g.2, g.1⟩)]; simp)
        clear hst
        cases F2 with
        | false =>
          go_wp2
          go_roundw
          case rel => exact ⟨k + 1, by omega, by go_num, by rw [hst2.out]; exact hown3.out, hb3, k3⟩
          case measure => simp [intOf]; omega
        | true =>
          have hne : (F1 == src) = false := by simpa using hyes
          clear hyes
          go_wp2
          go_roundw
          case rel => exact ⟨k + 1, by omega, by go_num, by rw [hst2.out]; exact hown3.out, hb3, k3⟩
          case measure => simp [intOf]; omega
    · obtain rfl : k = H.length := by omega
      go_wp2
      go_ret
      exact ⟨_, rfl, own_base' hown (by omega), hb⟩
end Go.Proofs.YtjomijnbnbideaaGreatDoor

namespace Go.Proofs.YtjomijnbnbideaaGreatDoor
open Go.RowKit Go.Inq
set_option maxHeartbeats 8000000
attribute [local go_sem ↓] Go.wp_at_zero Go.wp_at_succ

/-- What the first readers of a choice make. -/
def rdE (D : List Nat) (b : Nat) : Edges := fun x y => decide (y = b) && decide (x ≠ y) && D.contains x
theorem rdE_nil (E : Edges) (b : Nat) : orE E (rdE [] b) = E := by funext x y; simp [orE, rdE]
theorem rdE_yes {E : Edges} {D : List Nat} {b t : Nat} (h : t ≠ b) : orE E (rdE (D ++ [t]) b) = orE (orE E (rdE D b)) (oneE t b) := by
  funext x y
  unfold orE rdE oneE
  rw [Bool.or_assoc]
  congr 1
  by_cases e1 : y = b
  · subst e1
    by_cases e2 : x = t
    · subst e2; simp [h]
    · simp [e2]
  · simp [e1]
theorem rdE_no {E : Edges} {D : List Nat} {b t : Nat} (h : t = b) : orE E (rdE (D ++ [t]) b) = orE E (rdE D b) := by
  funext x y
  unfold orE rdE
  congr 1
  by_cases e1 : y = b
  · subst e1
    by_cases e2 : x = t
    · subst e2; simp [h]
    · simp [e2]
  · simp [e1]
theorem rdE_end {H : List Txn} (hr : rightH H = true) {l : List Cho} {k : Nat} (hk : k < l.length) {b : Nat} (hb : l[k].b = (b : Int)) {x y : Nat} (hx : x < H.length) :
    orE (rwE H (l.take k)) (rdE (rdrL H l[k].key l[k].a) b) x y = rwE H (l.take (k + 1)) x y := by
  rw [← rwMid_end H hk hx]
  unfold orE rwMid seesB rdE
  rw [decide_eq_true hx, Bool.true_and, hb]
  congr 1
  rw [Bool.eq_iff_iff]
  simp only [Bool.and_eq_true, decide_eq_true_eq, List.contains_iff_mem, rdrL_mem hr, List.any_eq_true]
  constructor
  · rintro ⟨⟨h1, h2⟩, _, r, h3, h4, h5⟩
    exact ⟨⟨by omega, h2⟩, r, h3, h4, h5⟩
  · rintro ⟨⟨h1, h2⟩, r, h3, h4, h5⟩
    exact ⟨⟨by omega, h2⟩, hx, r, h3, h4, h5⟩
set_option maxRecDepth 100000 in
theorem rrw18_any (A : Option Addr) (c : Nat) (H : List Txn) (Al : Option Addr) (cl : Nat) (l : List Cho) (w : World) (h : TxnS w (Old w) (.slice A H.length c) H) (hl : ChoS w (Old w) (.slice Al l.length cl) l) (hr : rightC H l = true) (hn : SmallH H) :
    Calls Tryz.prog 126 #[.agg #[.slice A H.length c], .slice Al l.length cl] w (OutR w H.length (rwE H l)) := by
  have hrh := rightC_hist hr
  have hn64 : H.length ≤ 64 := by have := ((rightH_iff H).1 hrh).1; omega
  have hll := rightC_len hr
  have hcn := hide (fun x hx => choice_nat hr (x := x) hx)
  replace hrh := hide hrh
  clear hr
  go_enter Tryz.func126, Tryz.ntmps126
  go_upto_region 1 with fail
  obtain ⟨W0, hW0⟩ : ∃ W0, (w.alloc (.cells #[.slice A H.length c] 24)).alloc (.cells #[.int .i64 0, .slice none 0 0] 124) = W0 := ⟨_, rfl⟩
  rw [hW0]
  have hb := below_two hW0
  have k1 := Blk.two1 hW0
  have k3 := Blk.two2 hW0
  have s0 := size_two hW0
  have hT := hide (h.below hb)
  have hl0 := hide (hl.below hb)
  clear hW0 h hl
  have c0 := k1.cell 0
  simp only [List.getElem?_toArray, List.getElem?_cons_zero, List.getElem?_cons_succ] at c0
  replace s0 := hide s0
  go_wp2_with fail
  refine (rinit17_any A c H W0 hT.out hrh.out hn).mono ?_
  rintro e w1 ⟨v, rfl, hR, hb1⟩
  clear c0
  obtain ⟨Av, cv, rfl, -⟩ := hR.gr hn64 (K := fun _ => True) (fun _ _ _ => trivial)
  go_upto_region 2 with fail
  obtain ⟨W5, hW5⟩ : ∃ W5, w1.alloc (.cells #[.int .i64 (H.length : Int), .slice Av H.length cv] 124) = W5 := ⟨_, rfl⟩
  rw [hW5]
  have hP := RGP.start hR hn64 hW5
  have hs1 := hb1.size
  have hb5 := below_allocEq hb1 hW5 hs1
  clear hW5 hR hb1
  go_wp2_with fail
  go_loopw [6] (fun s6 wr => ∃ k : Nat, k ≤ l.length ∧ s6 = .int .i64 k ∧ RGP wr W0.heap.size w1.heap.size H.length (rwE H (l.take k)) Av cv ∧ Below W0.heap.size W0 wr) (fun s6 _ => l.length - (intOf s6).toNat)
  case atStart => exact ⟨0, Nat.zero_le _, by go_num, hP.congr fun a b _ _ => rwE_nil H a b, hb5⟩
  case round =>
    obtain ⟨k, hk, rfl, hPk, hbk⟩ := hrel
    have hk1 : (0 : Int) ≤ (k : Int) := Int.natCast_nonneg _
    by_cases hlt : k < l.length
    · have hk2 : (k : Int) < (l.length : Int) := by omega
      obtain ⟨b, off, rfl, _, y0, y1, y2⟩ := (hl0.out.below hbk).at_ hlt
      obtain ⟨xa, xb, ha, hb', ha2, hb2⟩ := hcn.out _ (List.getElem_mem hlt)
      have hend := hide (fun x y (hx : x < H.length) => rdE_end hrh.out hlt hb' (y := y) hx)
      have hD32 : Hid (∀ x ∈ rdrL H l[k].key l[k].a, x < H.length) := hide (fun x hx => ((rdrL_mem hrh.out).1 hx).1)
      rw [ha] at hend hD32 y1
      rw [hb'] at y2
      have k1k := k1.below hbk k1.lt
      have c0 := k1k.cell 0
      simp only [List.getElem?_toArray, List.getElem?_cons_zero, List.getElem?_cons_succ] at c0
      have hcall := hide (rreaders09_any A c H l[k].key (xa : Int) wr.drew ((hT.out.below hbk).keep (Agree.drew _ _) (fun _ h => h)) hrh.out hn)
      have hDl := rdrTo_len H l[k].key (xa : Int) H.length
      have hly : Hid (∀ wq, Below W0.heap.size W0 wq → wq.cell? ⟨b, off + k * 3 + 2, none⟩ = some (.int .i64 (xb : Int))) := hide fun wq hq => by
        obtain ⟨b', off', e, -, -, -, e2⟩ := (hl0.out.below hq).at_ hlt
        injection e with e
        injection e with e3 e4
        subst e3 e4
        rw [hb'] at e2
        exact e2
      clear ha hb'
      generalize l[k].key = key at *
      change (rdrL H key xa).length ≤ _ at hDl
      generalize rdrL H key xa = D at *
      go_wp2_with fail
      refine wp_region_still_tail 11 (by kernel_rfl) (by kernel_rfl) ?_
      simp only [List.take_succ_cons, List.take_zero, List.drop_succ_cons, List.drop_zero]
      repeat still_step
      refine wpStill_nil ?_
      go_wp2_with fail
      refine hcall.out.mono ?_
      rintro e w3 ⟨v, rfl, hown, hb3⟩
      have hb4 := (below_drew hbk).trans (hb3.mono hbk.size)
      have hP4 := hPk.drew.below hb3 (Nat.le_refl _)
      have hsz3 : W0.heap.size ≤ wr.heap.size := hbk.size
      have hsl := hown.sl (K := fun g => wr.heap.size ≤ g ∧ g < w3.heap.size) (fun g h1 h2 => ⟨h1, h2⟩)
      obtain ⟨Ad, cd, rfl⟩ := hown.form
      have hpw : w1.heap.size < wr.heap.size := hPk.plt
      have hq1 := hide (intsN_len D)
      have hat := hide (fun j (hj : j < D.length) => intsN_at (l := D) hj)
      clear hcall hown hb3 hPk hbk c0 k1k y0 y1 y2
      rw [hq1.out] at hsl ⊢
      have hst := hide (fun j (hj : j < D.length) (h : D[j] ≠ xb) => by have := rdE_yes (E := rwE H (l.take k)) (D := D.take j) h; rwa [← take_snoc' hj] at this)
      have hsk := hide (fun j (hj : j < D.length) (h : D[j] = xb) => by have := rdE_no (E := rwE H (l.take k)) (D := D.take j) h; rwa [← take_snoc' hj] at this)
      go_wp2_with fail
      go_loopw [8] (fun s8 wq => ∃ j : Nat, j ≤ D.length ∧ s8 = .int .i64 j ∧ RGP wq W0.heap.size w1.heap.size H.length (orE (rwE H (l.take k)) (rdE (D.take j) xb)) Av cv ∧ Below W0.heap.size W0 wq ∧ IntS wq (fun g => wr.heap.size ≤ g ∧ g < w3.heap.size) (.slice Ad D.length cd) (intsN D)) (fun s8 _ => D.length - (intOf s8).toNat)
      case atStart => exact ⟨0, Nat.zero_le _, by go_num, by rw [List.take_zero, rdE_nil]; exact hP4, hb4, hsl⟩
      case round =>
        clear hP4 hb4 hsl
        obtain ⟨Wo, rfl⟩ : ∃ Wo, Wo = wr := ⟨_, rfl⟩
        obtain ⟨j, hj, rfl, hP4, hb4, hsl⟩ := hrel
        have hj1 : (0 : Int) ≤ (j : Int) := Int.natCast_nonneg _
        by_cases hlj : j < D.length
        · have hj2 : (j : Int) < (D.length : Int) := by omega
          obtain ⟨bd, od, rfl, hbd, z0⟩ := hsl.at_ (i := j) (by rw [hq1.out]; exact hlj)
          rw [hat.out j hlj] at z0
          have y2 := hly.out _ hb4
          have hst1 := hide (hst.out j hlj)
          have hsk1 := hide (hsk.out j hlj)
          have htn := hD32.out _ (List.getElem_mem hlj)
          have ht1 : (0 : Int) ≤ (D[j] : Int) := Int.natCast_nonneg _
          have ht2 : ((D[j] : Nat) : Int) < (H.length : Int) := by omega
          generalize D[j] = t at *
          by_cases htx : t = xb
          · have hnb : ((t : Int) != (xb : Int)) = false := by rw [htx]; simp
            have hE2 := hide (hsk1.out htx)
            clear hst1 hsk1 htx
            go_wp2_with fail
            go_region
            go_wp2
            go_roundw
            case rel => exact ⟨j + 1, by omega, by go_num, by rw [hE2.out]; exact hP4.drew, below_drew hb4, hsl.keep (Agree.drew _ _) (fun _ h => h)⟩
            case measure => simp [intOf]; omega
          · have hnb : ((t : Int) != (xb : Int)) = true := by simp; omega
            have hE2 := hide (hst1.out htx)
            clear hst1 hsk1 htx
            go_wp2_with fail
            go_region
            replace hP4 := hP4.drew
            replace hb4 := below_drew hb4
            replace hsl := hide (hsl.keep (Agree.drew _ _) (fun _ h => h))
            have z0' : Wo.drew.cell? ⟨bd, od + j, none⟩ = some (.int .i64 (t : Int)) := z0
            have y2' : Wo.drew.cell? ⟨b, off + k * 3 + 2, none⟩ = some (.int .i64 (xb : Int)) := y2
            clear z0 y2
            generalize Wo.drew = w9 at *
            obtain ⟨g, rfl, hX⟩ := hP4.at_ htn
            have hP5 := hide (hX.add (y := xb) htn hb2).drew
            have hb5 := hide (below_drew (hb4.setCell (p := ⟨g, t, none⟩) hX.B (.int .u64 (withB (setB ((orE (rwE H (l.take k)) (rdE (D.take j) xb)) t) H.length) (xb : Int) : Nat))))
            obtain ⟨-, c0, c1, d0, df, gp, gl, -, h64⟩ := hX
            clear hnb hP4 hb4
            generalize setB ((orE (rwE H (l.take k)) (rdE (D.take j) xb)) t) H.length = s at *
            go_upto_region 10 with fail
            refine wp_region_still_tail 21 (by kernel_rfl) (by kernel_rfl) ?_
            simp only [List.take_succ_cons, List.take_zero, List.drop_succ_cons, List.drop_zero]
            repeat still_step
            still_call ((rwith10_any _ h64 _ _).mono fun _ _ h => ⟨h.1, h.2.symm⟩)
            repeat still_step
            refine wpStill_nil ?_
            change wpList _ _ _ _ _ (w9).drew
            go_wp2
            go_roundw
            case rel => exact ⟨j + 1, by omega, by go_num, by rw [hE2.out]; exact hP5.out, hb5.out, hsl.out.keep ((Agree.setCell ⟨g, t, none⟩ (fun h => by have h1 := h.1; dsimp only at h1; omega) _).trans (Agree.drew _ _)) (fun _ h => h)⟩
            case measure => simp [intOf]; omega
        · obtain rfl : j = D.length := by omega
          rw [List.take_length] at hP4
          have hP5 := hide (hP4.congr (F := rwE H (l.take (k + 1))) fun x y hx _ => hend.out x y hx)
          go_wp2
          go_roundw
          case rel => exact ⟨k + 1, by omega, by go_num, hP5.out, hb4⟩
          case measure => simp [intOf]; omega
    · obtain rfl : k = l.length := by omega
      rw [List.take_length] at hPk
      have hP4 := hPk
      have hbr := hbk
      have c0 := hP4.c0
      have c1 := hP4.c1
      have k3r := k3.below hbr k3.lt
      have f0 := k3r.frozen 0
      have f1 := k3r.frozen 1
      have e0 := k3r.cell 0
      have e1 := k3r.cell 1
      have hs0 := s0.out
      have hs3 : w.heap.size + 1 < W0.heap.size := k3.lt
      have hR := hide (((hP4.rg.far (p := ⟨w.heap.size + 1, 0, none⟩) hs3 (.int .i64 H.length)).far (p := ⟨w.heap.size + 1, 1, none⟩) hs3 (.slice Av H.length cv)).base (B' := w.heap.size) (by omega))
      have hz := hide (((hb.trans (hbr.mono hb.size)).setCell (p := ⟨w.heap.size + 1, 0, none⟩) (by simp; try omega) (.int .i64 H.length)).setCell (p := ⟨w.heap.size + 1, 1, none⟩) (by simp; try omega) (.slice Av H.length cv))
      have hq := (k3r.set_ 0 (.int .i64 H.length)).set_ 1 (.slice Av H.length cv)
      simp only [List.setIfInBounds_toArray, List.set_cons_zero, List.set_cons_succ] at hq
      have y0 := hq.cell 0
      have y1 := hq.cell 1
      simp only [List.getElem?_toArray, List.getElem?_cons_zero, List.getElem?_cons_succ] at y0 y1 e0 e1
      clear hq hs0 hs3
      go_wp2_with fail
      exact bodyPost_ret (v := .agg #[.int .i64 H.length, .slice Av H.length cv]) (by simp [results, Tryz.results126, go_sem, y0, y1]) rfl ⟨_, rfl, hR.out, hz.out⟩
end Go.Proofs.YtjomijnbnbideaaGreatDoor

namespace Go.Proofs.YtjomijnbnbideaaGreatDoor
open Go.RowKit Go.Inq
set_option maxHeartbeats 8000000
attribute [local go_sem ↓] Go.wp_at_zero Go.wp_at_succ

def RFullW (H : List Txn) (A : Option Addr) (c : Nat) (Al : Option Addr) (cl : Nat) (l : List Cho) (base : Nat) : Nat → (Nat → Value) → World → Prop
  | 0, vs, _ => vs 0 = .agg #[.slice A H.length c]
  | 1, vs, W => GVR base H.length (pastE H) (vs 1) W
  | 2, vs, _ => vs 2 = .agg #[.slice A H.length c]
  | 3, vs, _ => vs 3 = .slice Al l.length cl
  | 4, vs, W => GVR base H.length (wwE l) (vs 4) W
  | 5, vs, W => GVR base H.length (orE (pastE H) (wwE l)) (vs 5) W
  | 6, vs, W => VarVR base (vs 6) W
  | 7, vs, W => ∃ g x y, vs 6 = .pointer (some ⟨g, 0, none⟩) ∧ base ≤ g ∧ vs 5 = .agg #[x, y] ∧ Blk W g 124 #[x, y]
  | _, _, _ => True
def rfullD : Nat → List Nat
  | 1 => [0]
  | 4 => [2, 3]
  | 5 => [1, 4]
  | 7 => [6, 5]
  | _ => []
theorem rfull_cg {H : List Txn} {A : Option Addr} {c : Nat} {Al : Option Addr} {cl : Nat} {l : List Cho} {base : Nat} : ∀ j (vs vs' : Nat → Value) w, (∀ k, k = j ∨ k ∈ rfullD j → vs k = vs' k) → RFullW H A c Al cl l base j vs w → RFullW H A c Al cl l base j vs' w := by
  intro j vs vs' w hk h
  match j, h with
  | 0, h | 1, h | 2, h | 3, h | 4, h | 5, h | 6, h =>
    simp only [RFullW] at h ⊢
    rw [← hk _ (.inl rfl)]
    exact h
  | 7, h =>
    simp only [RFullW] at h ⊢
    rw [← hk 6 (.inr (by simp [rfullD])), ← hk 5 (.inr (by simp [rfullD]))]
    exact h
  | n + 8, _ => trivial
theorem rfull_keep {H : List Txn} {A : Option Addr} {c : Nat} {Al : Option Addr} {cl : Nat} {l : List Cho} {base : Nat} : ∀ i j (vs : Nat → Value) w w', j ≠ i → j ∉ (fun _ => [] : Nat → List Nat) i → RFullW H A c Al cl l base j vs w → RPastSt 7 base i w w' → RFullW H A c Al cl l base j vs w' := by
  intro i j vs w w' hne _ h hs
  have hv := hs.var
  match j, h with
  | 0, h | 2, h | 3, h => exact h
  | 1, h | 4, h | 5, h =>
    simp only [RFullW] at h ⊢
    exact h.var hv
  | 6, h =>
    simp only [RFullW] at h ⊢
    exact VarVR.var h hv
  | 7, h =>
    unfold RPastSt at hs
    rw [if_neg (fun e => hne e.symm)] at hs
    simp only [RFullW] at h ⊢
    obtain ⟨g, x, y, h1, h2, h3, h4⟩ := h
    exact ⟨g, x, y, h1, h2, h3, h4.below hs h4.lt⟩
  | n + 8, _ => trivial
theorem rfullD_end : ∀ i, 8 ≤ i → rfullD i = [] := by
  intro i hi
  match i, hi with
  | n + 8, _ => rfl
set_option maxRecDepth 100000 in
theorem rfull18_any (A : Option Addr) (c : Nat) (H : List Txn) (level : Int) (Al : Option Addr) (cl : Nat) (l : List Cho) (w : World) (h : TxnS w (Old w) (.slice A H.length c) H) (hl : ChoS w (Old w) (.slice Al l.length cl) l) (hr : rightC H l = true) (hn : SmallH H) :
    Calls Tryz.prog 70 #[.agg #[.slice A H.length c], .int .i64 level, .slice Al l.length cl] w (OutR w H.length (fullE H level l)) := by
  obtain ⟨W0, hW0⟩ : ∃ W0, (w.alloc (.cells #[.slice A H.length c] 24)).alloc (.cells #[.int .i64 0, .slice none 0 0] 124) = W0 := ⟨_, rfl⟩
  have hB := below_two hW0
  have k0 := Blk.two1 hW0
  have k1 := Blk.two2 hW0
  have hrh := rightC_hist hr
  have h64 : H.length ≤ 64 := by have := ((rightH_iff H).1 hrh).1; omega
  replace hr := hide hr
  replace hn := hide hn
  replace hl := hide hl
  replace h := hide h
  replace hrh := hide hrh
  go_enter Tryz.func70, Tryz.ntmps70
  go_wp2_with fail
  clear hW0
  refine wp_region_rel (RFullW H A c Al cl l (w.heap.size + 2)) (fun W => Below w.heap.size w W ∧ Blk W w.heap.size 24 #[.slice A H.length c] ∧ Blk W (w.heap.size + 1) 124 #[.int .i64 0, .slice none 0 0]) (RPastSt 7 (w.heap.size + 2)) rfullD (by kernel_rfl) (by kernel_rfl) (by kernel_rfl) rfullD_end (fun _ => []) (by kernel_rfl) rfull_cg rfull_keep ⟨hB.drew, k0, k1⟩ ?hstep ?hend
  case hstep =>
    intro i o ho vs W hS hd
    obtain ⟨hb, m0, m1⟩ := hS
    have hT := h.out.below hb
    have hC := hl.out.below hb
    have hsz : w.heap.size + 2 ≤ W.heap.size := m1.lt
    match i, ho with
    | 0, ho | 2, ho =>
      simp only [List.getElem?_cons_zero, List.getElem?_cons_succ, Option.some.injEq] at ho
      subst ho
      simp only [acV, List.getElem?_toArray, List.getElem?_cons_zero, List.getElem?_cons_succ, Act.put, List.setIfInBounds_toArray, List.set_cons_zero, List.set_cons_succ]
      have c0 := m0.cell 0
      simp only [List.getElem?_toArray, List.getElem?_cons_zero] at c0
      go_wp2
      exact ⟨rfl, .agg #[.slice A H.length c], rfl, rfl, ⟨hb, m0, m1⟩, Below.refl _ _⟩
    | 3, ho =>
      simp only [List.getElem?_cons_zero, List.getElem?_cons_succ, Option.some.injEq] at ho
      subst ho
      simp only [acV, List.getElem?_toArray, List.getElem?_cons_zero, List.getElem?_cons_succ, Act.put, List.setIfInBounds_toArray, List.set_cons_zero, List.set_cons_succ]
      go_wp2
      exact ⟨rfl, .slice Al l.length cl, rfl, rfl, ⟨hb, m0, m1⟩, Below.refl _ _⟩
    | 1, ho =>
      have d0 := hd 0 (by simp [rfullD])
      simp only [RFullW] at d0
      simp only [List.getElem?_cons_zero, List.getElem?_cons_succ, Option.some.injEq] at ho
      subst ho
      simp only [acV, List.getElem?_toArray, List.getElem?_cons_zero, List.getElem?_cons_succ, Act.put, List.setIfInBounds_toArray, List.set_cons_zero, List.set_cons_succ]
      rw [d0]
      go_wp2_with fail
      refine (rpast17_any A c H _ hT hrh.out hn.out).mono ?_
      intro e W2 hO
      obtain ⟨v, rfl, hG, hb2⟩ := GVR.of h64 hsz hO
      go_wp2
      exact ⟨rfl, _, rfl, hG, ⟨hb.trans (hb2.mono hb.size), m0.below hb2 m0.lt, m1.below hb2 m1.lt⟩, hb2⟩
    | 4, ho =>
      have d2 := hd 2 (by simp [rfullD])
      have d3 := hd 3 (by simp [rfullD])
      simp only [RFullW] at d2 d3
      simp only [List.getElem?_cons_zero, List.getElem?_cons_succ, Option.some.injEq] at ho
      subst ho
      simp only [acV, List.getElem?_toArray, List.getElem?_cons_zero, List.getElem?_cons_succ, Act.put, List.setIfInBounds_toArray, List.set_cons_zero, List.set_cons_succ]
      rw [d2, d3]
      go_wp2_with fail
      refine (rww18_any A c H Al cl l _ hT hC hr.out).mono ?_
      intro e W2 hO
      obtain ⟨v, rfl, hG, hb2⟩ := GVR.of h64 hsz hO
      go_wp2
      exact ⟨rfl, _, rfl, hG, ⟨hb.trans (hb2.mono hb.size), m0.below hb2 m0.lt, m1.below hb2 m1.lt⟩, hb2⟩
    | 5, ho =>
      have g1 := hd 1 (by simp [rfullD])
      have g3 := hd 4 (by simp [rfullD])
      simp only [RFullW] at g1 g3
      obtain ⟨A1, c1, d1, q1, -⟩ := g1.gr h64
      obtain ⟨A3, c3, d3, q3, -⟩ := g3.gr h64
      simp only [List.getElem?_cons_zero, List.getElem?_cons_succ, Option.some.injEq] at ho
      subst ho
      simp only [acV, List.getElem?_toArray, List.getElem?_cons_zero, List.getElem?_cons_succ, Act.put, List.setIfInBounds_toArray, List.set_cons_zero, List.set_cons_succ]
      rw [d1, d3]
      go_wp2_with fail
      refine (runion12_any H.length _ _ (pastE H) _ _ (wwE l) (Old W) _ q1 q3 (fun b hb => hb)).mono ?_
      intro e W2 hO
      obtain ⟨v, rfl, hG, hb2⟩ := GVR.of h64 hsz hO
      go_wp2
      exact ⟨rfl, _, rfl, hG, ⟨hb.trans (hb2.mono hb.size), m0.below hb2 m0.lt, m1.below hb2 m1.lt⟩, hb2⟩
    | 6, ho =>
      simp only [List.getElem?_cons_zero, List.getElem?_cons_succ, Option.some.injEq] at ho
      subst ho
      simp only [acV, List.getElem?_toArray, List.getElem?_cons_zero, List.getElem?_cons_succ, Act.put, List.setIfInBounds_toArray, List.set_cons_zero, List.set_cons_succ]
      go_wp2
      exact ⟨rfl, _, rfl, ⟨W.heap.size, by omega, rfl, _, _, Blk.new _ _ _⟩, ⟨hb.alloc hb.size _, m0.alloc _, m1.alloc _⟩, (Below.refl _ _).alloc (Nat.le_refl _) _⟩
    | 7, ho =>
      obtain ⟨g, hg, d8, x, y, q8⟩ := hd 6 (by simp [rfullD])
      obtain ⟨A6, c6, d6, q6⟩ := hd 5 (by simp [rfullD])
      simp only [List.getElem?_cons_zero, List.getElem?_cons_succ, Option.some.injEq] at ho
      subst ho
      simp only [acV, List.getElem?_toArray, List.getElem?_cons_zero, List.getElem?_cons_succ, Act.put, List.setIfInBounds_toArray, List.set_cons_zero, List.set_cons_succ]
      rw [d8, d6]
      have c0 := q8.cell 0
      have c1 := q8.cell 1
      have f0 := q8.frozen 0
      have f1 := q8.frozen 1
      simp only [List.getElem?_toArray, List.getElem?_cons_zero, List.getElem?_cons_succ] at c0 c1
      go_wp2
      have hq := (q8.set_ 0 (.int .i64 H.length)).set_ 1 (.slice A6 H.length c6)
      have n1 : w.heap.size ≠ g := by omega
      have n2 : w.heap.size + 1 ≠ g := by omega
      refine ⟨rfl, undef, rfl, ⟨g, _, _, (show updV vs 7 undef 6 = _ from d8), hg, (show updV vs 7 undef 5 = _ from d6), by simpa using hq⟩, ⟨(hb.setCell (p := ⟨g, 0, none⟩) (by simp; omega) _).setCell (p := ⟨g, 1, none⟩) (by simp; omega) _, (m0.far n1 _).far n1 _, (m1.far n2 _).far n2 _⟩, ?_⟩
      unfold RPastSt
      rw [if_pos rfl]
      refine ⟨⟨rfl, rfl, rfl, by simp⟩, fun k hk => ?_⟩
      by_cases e : k = g
      · subst e
        exact .inr ⟨hg, _, _, q8, hq, by simp⟩
      · exact .inl ((Below.heap_setCell _ ⟨g, 1, none⟩ _ k e).trans (Below.heap_setCell _ ⟨g, 0, none⟩ _ k e))
    | n + 8, ho => simp at ho
  case hend =>
    rintro vs W ⟨hb, m0, m1⟩ hd
    obtain ⟨g, x, y, d8, hg, d6, q9⟩ := hd 7 (by simp) (by simp)
    have hG5 := hd 5 (by simp) (by simp)
    simp only [RFullW] at hG5
    obtain ⟨A6, c6, d6', hgr, q6⟩ := hG5.gr h64
    rw [d6] at d6'
    injection d6' with d6'
    simp only [Array.mk.injEq, List.cons.injEq, and_true] at d6'
    obtain ⟨rfl, rfl⟩ := d6'
    clear hd hG5
    simp only [acV, List.getElem?_toArray, List.getElem?_cons_zero, List.getElem?_cons_succ, Act.put, List.setIfInBounds_toArray, List.set_cons_zero, List.set_cons_succ, List.length_cons, List.length_nil, Nat.reduceAdd]
    rw [d8, d6]
    have hT := hide (h.out.below hb)
    have hC := hide (hl.out.below hb)
    have c0 := m0.cell 0
    simp only [List.getElem?_toArray, List.getElem?_cons_zero, List.getElem?_cons_succ] at c0
    clear k0 k1 d6 d8
    go_wp2_with fail
    refine (rrw18_any A c H Al cl l _ hT.out hC.out hr.out hn.out).mono ?_
    intro e W2 hO
    obtain ⟨v, rfl, hGr, hb2⟩ := GVR.of h64 (Nat.le_refl _) hO
    obtain ⟨Ar, cr, rfl, hgr2, -⟩ := hGr.gr h64
    clear c0 hT hC hO hGr
    obtain ⟨W3, hW3⟩ : ∃ W3, W2.alloc (.cells #[.int .i64 H.length, .slice Ar H.length cr] 124) = W3 := ⟨_, rfl⟩
    have hB3 := below_allocEq (Below.refl W2.heap.size W2) hW3 (Nat.le_refl _)
    have k9 := Blk.newEq hW3
    have hBW := hb2.trans (hB3.mono hb2.size)
    have m1c := m1.below hBW m1.lt
    have q9c := q9.below hBW q9.lt
    have hGd := hide (hgr.keep (Agree.below hBW (fun b h => h)) (fun b (h : b < W.heap.size) => (Nat.lt_of_lt_of_le h hBW.size : b < W3.heap.size)))
    have hGd2 := hide (hgr.keep (Agree.below hBW (fun b h => h)) (fun b (h : b < W.heap.size) => h))
    have hGo := hide (hgr2.keep (Agree.below hB3 (fun b h => h)) (fun b (h : b < W2.heap.size) => (Nat.lt_of_lt_of_le h hB3.size : b < W3.heap.size)))
    have hbc := hb.trans (hBW.mono hb.size)
    have hsz := m1.lt
    have hgl := q9.lt
    have hw2 := hb2.size
    have hw3 := hB3.size
    clear hBW hB3 hb2 hb m0 m1 q9 q6 hgr hgr2
    by_cases h1 : level = 1
    · have q3 : (level == 1) = true := by simpa using h1
      have hfe : Hid (fullE H level l = orE (orE (pastE H) (wwE l)) (thenE H.length (orE (pastE H) (wwE l)) (rwE H l))) := hide (by rw [fullE_eq, if_pos h1])
      clear h1
      have a0 := q9c.cell 0
      have a1 := q9c.cell 1
      have b0 := k9.cell 0
      have b1 := k9.cell 1
      simp only [List.getElem?_toArray, List.getElem?_cons_zero, List.getElem?_cons_succ] at a0 a1 b0 b1
      have hcp := hide (rcomp12_any H.length A6 c6 (orE (pastE H) (wwE l)) Ar cr (rwE H l) (Old W3) W3 hGd.out hGo.out (fun b h => h))
      go_wp2_with fail
      clear a0 a1 b0 b1 hW3
      refine hcp.out.mono ?_
      rintro e W4 ⟨u, rfl, hR4, hb4⟩
      obtain ⟨Ac, cc, rfl, hG4⟩ := hR4.gr h64 (K := fun b => W3.heap.size ≤ b ∧ b < W4.heap.size) (fun g h1 h2 => ⟨h1, h2⟩)
      have k94 := k9.below hb4 k9.lt
      have c0 := k94.cell 0
      have c1 := k94.cell 1
      have f0 := k94.frozen 0
      have f1 := k94.frozen 1
      simp only [List.getElem?_toArray, List.getElem?_cons_zero, List.getElem?_cons_succ] at c0 c1
      have hk9l := k9.lt
      have ng : g ≠ W2.heap.size := by omega
      have nr : w.heap.size + 1 ≠ W2.heap.size := by omega
      have m1d := ((m1c.below hb4 m1c.lt).far (p := ⟨W2.heap.size, 0, none⟩) nr (.int .i64 H.length)).far (p := ⟨W2.heap.size, 1, none⟩) nr (.slice Ac H.length cc)
      have q9d := ((q9c.below hb4 q9c.lt).far (p := ⟨W2.heap.size, 0, none⟩) ng (.int .i64 H.length)).far (p := ⟨W2.heap.size, 1, none⟩) ng (.slice Ac H.length cc)
      have k9d := (k94.set_ 0 (.int .i64 H.length)).set_ 1 (.slice Ac H.length cc)
      simp only [List.setIfInBounds_toArray, List.set_cons_zero, List.set_cons_succ] at k9d
      have hbd := ((hbc.trans (hb4.mono hbc.size)).setCell (p := ⟨W2.heap.size, 0, none⟩) (by simp; omega) (.int .i64 H.length)).setCell (p := ⟨W2.heap.size, 1, none⟩) (by simp; omega) (.slice Ac H.length cc)
      have hGd3 := hide (hGd2.out.keep (K' := Old W4) (((Agree.below hb4 (fun b h => Nat.lt_of_lt_of_le h (Nat.le_trans hw2 hw3))).trans (Agree.setCell ⟨W2.heap.size, 0, none⟩ (fun h => by have h2 : W2.heap.size < W.heap.size := h; omega) (.int .i64 H.length))).trans (Agree.setCell ⟨W2.heap.size, 1, none⟩ (fun h => by have h2 : W2.heap.size < W.heap.size := h; omega) (.slice Ac H.length cc))) (fun b h => Nat.lt_of_lt_of_le h (Nat.le_trans (Nat.le_trans hw2 hw3) hb4.size)))
      have hGo3 := hide (hG4.keep (K' := Old W4) ((Agree.setCell ⟨W2.heap.size, 0, none⟩ (fun h => by have h2 := h.1; dsimp only at h2; omega) (.int .i64 H.length)).trans (Agree.setCell ⟨W2.heap.size, 1, none⟩ (fun h => by have h2 := h.1; dsimp only at h2; omega) (.slice Ac H.length cc))) (fun b h => h.2))
      clear m1c q9c k9 k94 hcp hb4 hGd hGo hGd2 hG4 hR4 hbc
      obtain ⟨Wd, hWd⟩ : ∃ Wd, (W4.setCell ⟨W2.heap.size, 0, none⟩ (.int .i64 H.length)).setCell ⟨W2.heap.size, 1, none⟩ (.slice Ac H.length cc) = Wd := ⟨_, rfl⟩
      have hsd : Wd.heap.size = W4.heap.size := by rw [← hWd]; simp
      rw [hWd] at m1d q9d k9d hbd hGd3 hGo3
      have m1c := m1d
      have q9c := q9d
      have k9c := k9d
      have hbc := hbd
      have hGd := hGd3
      have hGo := hGo3
      have hKK := hide (fun b (h : Old W4 b) => (by have h2 : b < W4.heap.size := h; omega : b < Wd.heap.size))
      clear m1d q9d k9d hbd hGd3 hGo3
      have a0 := q9c.cell 0
      have a1 := q9c.cell 1
      have b0 := k9c.cell 0
      have b1 := k9c.cell 1
      simp only [List.getElem?_toArray, List.getElem?_cons_zero, List.getElem?_cons_succ] at a0 a1 b0 b1
      have hcall := hide (runion12_any H.length A6 c6 (orE (pastE H) (wwE l)) Ac cc (thenE H.length (orE (pastE H) (wwE l)) (rwE H l)) (Old W4) Wd hGd.out hGo.out hKK.out)
      go_wp2_with fail
      clear a0 a1 b0 b1
      refine hcall.out.mono ?_
      rintro e W6 ⟨uz, rfl, hRz, hb6⟩
      obtain ⟨Az, cz, rfl, -⟩ := hRz.gr h64 (K := fun _ => True) (fun _ _ _ => trivial)
      have m16 := m1c.below hb6 m1c.lt
      have hb7 := hbc.trans (hb6.mono hbc.size)
      have j0 := m16.cell 0
      have j1 := m16.cell 1
      have jf := m16.frozen 0
      have jf1 := m16.frozen 1
      simp only [List.getElem?_toArray, List.getElem?_cons_zero, List.getElem?_cons_succ] at j0 j1
      have hml := m1c.lt
      clear hcall
      go_wp2
      exact bodyPost_ret (v := .agg #[.int .i64 H.length, .slice Az H.length cz]) (by simp [results, Tryz.results70, go_sem, j0, j1]) rfl ⟨_, rfl, by rw [hfe.out]; exact ((hRz.far (p := ⟨w.heap.size + 1, 0, none⟩) hml _).far (p := ⟨w.heap.size + 1, 1, none⟩) hml _).base (by omega), (hb7.setCell (p := ⟨w.heap.size + 1, 0, none⟩) (by simp) _).setCell (p := ⟨w.heap.size + 1, 1, none⟩) (by simp) _⟩
    · have q3 : (level == 1) = false := by simpa using h1
      have hfe : Hid (fullE H level l = orE (orE (pastE H) (wwE l)) (rwE H l)) := hide (by rw [fullE_eq, if_neg h1])
      have k9c := k9
      have hKK := hide (fun b (h : Old W3 b) => h)
      clear h1 k9
      have a0 := q9c.cell 0
      have a1 := q9c.cell 1
      have b0 := k9c.cell 0
      have b1 := k9c.cell 1
      simp only [List.getElem?_toArray, List.getElem?_cons_zero, List.getElem?_cons_succ] at a0 a1 b0 b1
      have hcall := hide (runion12_any H.length A6 c6 (orE (pastE H) (wwE l)) Ar cr (rwE H l) (Old W3) W3 hGd.out hGo.out hKK.out)
      go_wp2_with fail
      clear a0 a1 b0 b1
      refine hcall.out.mono ?_
      rintro e W6 ⟨uz, rfl, hRz, hb6⟩
      obtain ⟨Az, cz, rfl, -⟩ := hRz.gr h64 (K := fun _ => True) (fun _ _ _ => trivial)
      have m16 := m1c.below hb6 m1c.lt
      have hb7 := hbc.trans (hb6.mono hbc.size)
      have j0 := m16.cell 0
      have j1 := m16.cell 1
      have jf := m16.frozen 0
      have jf1 := m16.frozen 1
      simp only [List.getElem?_toArray, List.getElem?_cons_zero, List.getElem?_cons_succ] at j0 j1
      have hml := m1c.lt
      clear hcall
      go_wp2
      exact bodyPost_ret (v := .agg #[.int .i64 H.length, .slice Az H.length cz]) (by simp [results, Tryz.results70, go_sem, j0, j1]) rfl ⟨_, rfl, by rw [hfe.out]; exact ((hRz.far (p := ⟨w.heap.size + 1, 0, none⟩) hml _).far (p := ⟨w.heap.size + 1, 1, none⟩) hml _).base (by omega), (hb7.setCell (p := ⟨w.heap.size + 1, 0, none⟩) (by simp) _).setCell (p := ⟨w.heap.size + 1, 1, none⟩) (by simp) _⟩
end Go.Proofs.YtjomijnbnbideaaGreatDoor
