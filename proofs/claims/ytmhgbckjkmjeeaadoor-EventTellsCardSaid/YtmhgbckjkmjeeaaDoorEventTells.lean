/-
  Walks: EventTells.
-/
import Derived.Test.YtmhgbckjkmjeeaaDoorLaw3
import Derived.Test.YtmhgbckjkmjeeaaDoorFloat
set_option linter.unusedVariables false
set_option linter.unusedSimpArgs false
namespace Go.Proofs.YtmhgbckjkmjeeaaDoor
open Go.RowKit Go.Inq
set_option maxHeartbeats 4000000
attribute [local go_sem ↓] Go.wp_at_zero Go.wp_at_succ

set_option maxRecDepth 100000 in
theorem eventTells_any (e : Ev) (s : ByteArray) (w : World) (hs : s.size ≤ maxLen) (henv : Env w) : Calls Tryd.prog 3 #[.agg #[.int .i64 e.kind, .int .i64 e.sess, .int .i64 e.key, .int .i64 e.val], .string s] w fun x w' => x = .returned (.bool true) ∧ Below w.heap.size w w' := by
  have hs2 : s.size ≤ 9223372036854775807 := hs
  have hA : Below w.heap.size w (w.alloc (.cells #[.int .i64 e.kind, .int .i64 e.sess, .int .i64 e.key, .int .i64 e.val] 23)) := (Below.refl _ _).alloc (Nat.le_refl _) _
  have kA : Blk (w.alloc (.cells #[.int .i64 e.kind, .int .i64 e.sess, .int .i64 e.key, .int .i64 e.val] 23)) w.heap.size 23 _ := Blk.new _ _ _
  have hE := henv.below hA
  have hr := right_any e
  have hrr := rright_any e
  have hsh := eshow_any e
  have hrs := rshow03_any e
  generalize e.right = rb at *
  generalize showR e = sr at *
  obtain ⟨l, f0⟩ := sr
  obtain ⟨x0, x1, x2, x3⟩ := e
  dsimp only at *
  go_enter Tryd.func3, Tryd.ntmps3
  go_wp2_with fail
  refine (awake03_any _ hE).mono ?_
  rintro e w1 ⟨rfl, hb1⟩
  have k1 := kA.below hb1 kA.lt
  have B1 := hA.trans (hb1.mono hA.size)
  have e1 := hE.below hb1
  clear hb1 hE kA hA
  by_cases d0q : 1000 < s.size
  · have d0 : decide ((1000 : Int) < (s.size : Int)) = true := by simp; omega
    go_wp2
    go_ret
    exact ⟨by simp, B1⟩
  have d0 : decide ((1000 : Int) < (s.size : Int)) = false := by simp; omega
  have c0 := k1.cell 0
  have c1 := k1.cell 1
  have c2 := k1.cell 2
  have c3 := k1.cell 3
  simp at c0 c1 c2 c3
  go_wp2_with fail
  refine (hsh _ e1).mono ?_
  rintro e w2 ⟨rfl, hb2⟩
  have k2 := k1.below hb2 k1.lt
  have B2 := B1.trans (hb2.mono B1.size)
  have e2 := e1.below hb2
  clear hb2 e1 k1 B1 c0 c1 c2 c3 hsh
  have c0 := k2.cell 0
  have c1 := k2.cell 1
  have c2 := k2.cell 2
  have c3 := k2.cell 3
  simp at c0 c1 c2 c3
  go_wp2_with fail
  refine (hrs _).mono ?_
  rintro e w3 ⟨rfl, hb3⟩
  have k3 := k2.below hb3 k2.lt
  have B3 := B2.trans (hb3.mono B2.size)
  have e3 := e2.below hb3
  clear hb3 e2 k2 B2 c0 c1 c2 c3 hrs
  have q3 : s.size ≤ 1000000 := by omega
  have hpa := fun w e => eparse_any s w q3 e
  have hra := fun w => rparse03_any s w q3
  generalize parseR s.data.toList = r at *
  obtain ⟨⟨y0, y1, y2, y3⟩, f1⟩ := r
  go_wp2_with fail
  refine (hpa _ e3).mono ?_
  rintro e w4 ⟨rfl, hb4⟩
  have k4 := k3.below hb4 k3.lt
  have B4 := B3.trans (hb4.mono B3.size)
  have hA4 : Below w4.heap.size w4 (w4.alloc (.cells #[.int .i64 y0, .int .i64 y1, .int .i64 y2, .int .i64 y3] 23)) := (Below.refl _ _).alloc (Nat.le_refl _) _
  have j4 : Blk (w4.alloc (.cells #[.int .i64 y0, .int .i64 y1, .int .i64 y2, .int .i64 y3] 23)) w4.heap.size 23 _ := Blk.new _ _ _
  have k5 := k4.below hA4 k4.lt
  have B5 := B4.trans (hA4.mono B4.size)
  clear hA4 hb4 k4 k3 B3 B4 e3 hpa
  go_wp2_with fail
  generalize w4.alloc (.cells #[.int .i64 y0, .int .i64 y1, .int .i64 y2, .int .i64 y3] 23) = W4 at *
  refine (hra _).mono ?_
  rintro e w5 ⟨rfl, hb5⟩
  have k6 := k5.below hb5 k5.lt
  have j6 := j4.below hb5 j4.lt
  have B6 := B5.trans (hb5.mono B5.size)
  have hA5 : Below w5.heap.size w5 (w5.alloc (.cells #[.int .i64 y0, .int .i64 y1, .int .i64 y2, .int .i64 y3] 23)) := (Below.refl _ _).alloc (Nat.le_refl _) _
  have i5 : Blk (w5.alloc (.cells #[.int .i64 y0, .int .i64 y1, .int .i64 y2, .int .i64 y3] 23)) w5.heap.size 23 _ := Blk.new _ _ _
  have k7 := k6.below hA5 k6.lt
  have j7 := j6.below hA5 j6.lt
  have B7 := B6.trans (hA5.mono B6.size)
  clear hA5 hb5 k6 k5 j6 j4 B5 B6 hra
  go_wp2_with fail
  generalize w5.alloc (.cells #[.int .i64 y0, .int .i64 y1, .int .i64 y2, .int .i64 y3] 23) = W5 at *
  have k0 : ∀ W, Below W5.heap.size W5 W → W.cell? ⟨w.heap.size, 0, none⟩ = some (.int .i64 x0) := fun W hW => (k7.below hW k7.lt).cell 0
  have k1 : ∀ W, Below W5.heap.size W5 W → W.cell? ⟨w.heap.size, 1, none⟩ = some (.int .i64 x1) := fun W hW => (k7.below hW k7.lt).cell 1
  have k2 : ∀ W, Below W5.heap.size W5 W → W.cell? ⟨w.heap.size, 2, none⟩ = some (.int .i64 x2) := fun W hW => (k7.below hW k7.lt).cell 2
  have k3 : ∀ W, Below W5.heap.size W5 W → W.cell? ⟨w.heap.size, 3, none⟩ = some (.int .i64 x3) := fun W hW => (k7.below hW k7.lt).cell 3
  have j0 : ∀ W, Below W5.heap.size W5 W → W.cell? ⟨w4.heap.size, 0, none⟩ = some (.int .i64 y0) := fun W hW => (j7.below hW j7.lt).cell 0
  have j1 : ∀ W, Below W5.heap.size W5 W → W.cell? ⟨w4.heap.size, 1, none⟩ = some (.int .i64 y1) := fun W hW => (j7.below hW j7.lt).cell 1
  have j2 : ∀ W, Below W5.heap.size W5 W → W.cell? ⟨w4.heap.size, 2, none⟩ = some (.int .i64 y2) := fun W hW => (j7.below hW j7.lt).cell 2
  have j3 : ∀ W, Below W5.heap.size W5 W → W.cell? ⟨w4.heap.size, 3, none⟩ = some (.int .i64 y3) := fun W hW => (j7.below hW j7.lt).cell 3
  have i0 : ∀ W, Below W5.heap.size W5 W → W.cell? ⟨w5.heap.size, 0, none⟩ = some (.int .i64 y0) := fun W hW => (i5.below hW i5.lt).cell 0
  have i1 : ∀ W, Below W5.heap.size W5 W → W.cell? ⟨w5.heap.size, 1, none⟩ = some (.int .i64 y1) := fun W hW => (i5.below hW i5.lt).cell 1
  have i2 : ∀ W, Below W5.heap.size W5 W → W.cell? ⟨w5.heap.size, 2, none⟩ = some (.int .i64 y2) := fun W hW => (i5.below hW i5.lt).cell 2
  have i3 : ∀ W, Below W5.heap.size W5 W → W.cell? ⟨w5.heap.size, 3, none⟩ = some (.int .i64 y3) := fun W hW => (i5.below hW i5.lt).cell 3
  have b0 : (rb == rb) = true := by simp
  clear k7 j7 i5
  refine wp_region_float (fun W => Below W5.heap.size W5 W) (by kernel_rfl) (by kernel_rfl) (Below.refl _ _).drew ?_
  refine ⟨.agg #[.int .i64 x0, .int .i64 x1, .int .i64 x2, .int .i64 x3], fun W hW => (by have c0 := k0 W hW; have c1 := k1 W hW; have c2 := k2 W hW; have c3 := k3 W hW; go_wp2), ?_⟩
  refine ⟨.bool rb, fun W hW => (by go_wp2_with (go_at_call 16; refine (hr _).mono ?_; rintro e w' ⟨rfl, hb⟩; replace hW := hW.trans (hb.mono hW.size))), ?_⟩
  refine ⟨.agg #[.int .i64 x0, .int .i64 x1, .int .i64 x2, .int .i64 x3], fun W hW => (by have c0 := k0 W hW; have c1 := k1 W hW; have c2 := k2 W hW; have c3 := k3 W hW; go_wp2), ?_⟩
  refine ⟨.bool rb, fun W hW => (by go_wp2_with (go_at_call 17; refine (hrr _).mono ?_; rintro e w' ⟨rfl, hb⟩; replace hW := hW.trans (hb.mono hW.size))), ?_⟩
  refine ⟨.bool true, fun W hW => (by go_wp2), ?_⟩
  refine ⟨.bool true, fun W hW => (by go_wp2), ?_⟩
  refine ⟨.string (mk l), fun W hW => (by go_wp2), ?_⟩
  refine ⟨.string (mk l), fun W hW => (by go_wp2), ?_⟩
  refine ⟨.bool true, fun W hW => (by go_wp2), ?_⟩
  refine ⟨.bool true, fun W hW => (by go_wp2), ?_⟩
  refine ⟨.bool true, fun W hW => (by go_wp2), ?_⟩
  refine ⟨.int .i64 f0, fun W hW => (by go_wp2), ?_⟩
  refine ⟨.int .i64 f0, fun W hW => (by go_wp2), ?_⟩
  refine ⟨.bool true, fun W hW => (by go_wp2), ?_⟩
  refine ⟨.bool true, fun W hW => (by go_wp2), ?_⟩
  refine ⟨.bool true, fun W hW => (by go_wp2), ?_⟩
  refine ⟨.agg #[.int .i64 y0, .int .i64 y1, .int .i64 y2, .int .i64 y3], fun W hW => (by have c0 := j0 W hW; have c1 := j1 W hW; have c2 := j2 W hW; have c3 := j3 W hW; go_wp2), ?_⟩
  refine ⟨.agg #[.int .i64 y0, .int .i64 y1, .int .i64 y2, .int .i64 y3], fun W hW => (by have c0 := i0 W hW; have c1 := i1 W hW; have c2 := i2 W hW; have c3 := i3 W hW; go_wp2), ?_⟩
  refine ⟨.bool true, fun W hW => (by go_wp2), ?_⟩
  refine ⟨.bool true, fun W hW => (by go_wp2), ?_⟩
  refine ⟨.bool true, fun W hW => (by go_wp2), ?_⟩
  refine ⟨.int .i64 f1, fun W hW => (by go_wp2), ?_⟩
  refine ⟨.int .i64 f1, fun W hW => (by go_wp2), ?_⟩
  refine ⟨.bool true, fun W hW => (by go_wp2), ?_⟩
  refine ⟨.bool true, fun W hW => (by go_wp2), ?_⟩
  refine ⟨.bool true, fun W hW => (by go_wp2), ?_⟩
  intro w6 hw6
  simp only [Act.put]
  go_wp2
  go_ret
  exact ⟨by simp, B7.trans (hw6.mono B7.size)⟩
end Go.Proofs.YtmhgbckjkmjeeaaDoor
