/-
  Walks: the examples of layer 3.
-/
import Derived.Test.YtmhgbckjkmjeeaaDoorEvent03P
import Derived.Test.YtmhgbckjkmjeeaaDoorEvent1P
import Derived.Test.YtmhgbckjkmjeeaaDoorEventL
set_option linter.unusedVariables false
set_option linter.unusedSimpArgs false
namespace Go.Proofs.YtmhgbckjkmjeeaaDoor
open Go.RowKit Go.Inq
set_option maxHeartbeats 2000000
attribute [local go_sem ↓] Go.wp_at_zero Go.wp_at_succ

set_option maxRecDepth 100000 in
theorem awake03_any (w : World) (henv : Env w) : Calls Tryd.prog 11 #[] w fun e w' => e = .returned (.bool true) ∧ Below w.heap.size w w' := by
  have f1 : parseR (({ data := #[114, 101, 97, 100, 32, 49, 32, 50, 32, 48] } : ByteArray)).data.toList = (⟨1, 1, 2, 0⟩, 0) := by rfl
  have f2 : parseR (({ data := #[114, 101, 97, 100, 32, 49, 32, 50] } : ByteArray)).data.toList = (⟨0, 0, 0, 0⟩, 2) := by rfl
  have f3 : parseR (({ data := #[98, 101, 103, 105, 110, 32, 56] } : ByteArray)).data.toList = (⟨0, 0, 0, 0⟩, 4) := by rfl
  have f4 : showR ⟨1, 1, 2, 0⟩ = ([114, 101, 97, 100, 32, 49, 32, 50, 32, 48], 0) := by rfl
  have f5 : (Ev.mk 1 1 2 0).right = true := by rfl
  have f6 : (Ev.mk 5 0 0 0).right = false := by rfl
  have r1 := fun w => right_any ⟨1, 1, 2, 0⟩ w
  have r2 := fun w => right_any ⟨5, 0, 0, 0⟩ w
  rw [f5] at r1
  rw [f6] at r2
  clear f5 f6
  replace f1 := hide f1
  replace f2 := hide f2
  replace f3 := hide f3
  replace f4 := hide f4
  go_enter Tryd.func11, Tryd.ntmps11
  go_wp2_with fail
  refine (eparse_any { data := #[114, 101, 97, 100, 32, 49, 32, 50, 32, 48] } _ (by decide) henv).mono ?_
  rw [f1.out]
  rintro e w1 ⟨rfl, hb1⟩
  have e1 := henv.below hb1
  have hA1 : Below w1.heap.size w1 (w1.alloc (.cells #[.int .i64 1, .int .i64 1, .int .i64 2, .int .i64 0] 23)) := (Below.refl _ _).alloc (Nat.le_refl _) _
  have k1 : Blk (w1.alloc (.cells #[.int .i64 1, .int .i64 1, .int .i64 2, .int .i64 0] 23)) w1.heap.size 23 _ := Blk.new _ _ _
  have B2 := hb1.trans (hA1.mono hb1.size)
  have e2 := e1.below hA1
  clear hA1 hb1 e1
  go_wp2_with fail
  generalize w1.alloc (.cells #[.int .i64 1, .int .i64 1, .int .i64 2, .int .i64 0] 23) = W1 at *
  refine (eparse_any { data := #[114, 101, 97, 100, 32, 49, 32, 50] } _ (by decide) e2).mono ?_
  rw [f2.out]
  rintro e w2 ⟨rfl, hb2⟩
  have k2 := k1.below hb2 k1.lt
  have e3 := e2.below hb2
  have hA2 : Below w2.heap.size w2 (w2.alloc (.cells #[.int .i64 0, .int .i64 0, .int .i64 0, .int .i64 0] 23)) := (Below.refl _ _).alloc (Nat.le_refl _) _
  have B4 := (B2.trans (hb2.mono B2.size)).trans (hA2.mono (B2.trans (hb2.mono B2.size)).size)
  have k3 := k2.below hA2 k2.lt
  have e4 := e3.below hA2
  clear hA2 hb2 e3 k2 k1 B2 e2
  go_wp2_with fail
  generalize w2.alloc (.cells #[.int .i64 0, .int .i64 0, .int .i64 0, .int .i64 0] 23) = W2 at *
  refine (eparse_any { data := #[98, 101, 103, 105, 110, 32, 56] } _ (by decide) e4).mono ?_
  rw [f3.out]
  rintro e w3 ⟨rfl, hb3⟩
  have k4 := k3.below hb3 k3.lt
  have e5 := e4.below hb3
  have hA3 : Below w3.heap.size w3 (w3.alloc (.cells #[.int .i64 0, .int .i64 0, .int .i64 0, .int .i64 0] 23)) := (Below.refl _ _).alloc (Nat.le_refl _) _
  have B6 := (B4.trans (hb3.mono B4.size)).trans (hA3.mono (B4.trans (hb3.mono B4.size)).size)
  have k5 := k4.below hA3 k4.lt
  have e6 := e5.below hA3
  clear hA3 hb3 e5 k4 k3 B4 e4
  have c0 := k5.cell 0
  have c1 := k5.cell 1
  have c2 := k5.cell 2
  have c3 := k5.cell 3
  simp at c0 c1 c2 c3
  go_wp2_with fail
  generalize w3.alloc (.cells #[.int .i64 0, .int .i64 0, .int .i64 0, .int .i64 0] 23) = W3 at *
  refine (eshow_any ⟨1, 1, 2, 0⟩ _ e6).mono ?_
  rw [f4.out]
  rintro e w4 ⟨rfl, hb4⟩
  have k6 := k5.below hb4 k5.lt
  have B7 := B6.trans (hb4.mono B6.size)
  clear hb4 k5 B6 e6 c0 c1 c2 c3
  have d0 := k6.cell 0
  have d1 := k6.cell 1
  have d2 := k6.cell 2
  have d3 := k6.cell 3
  simp at d0 d1 d2 d3
  have hcmp : (mk [114, 101, 97, 100, 32, 49, 32, 50, 32, 48]).toList = [114, 101, 97, 100, 32, 49, 32, 50, 32, 48] := by rw [Lib.toList_data]; rfl
  go_wp2_with fail
  refine (r1 _).mono ?_
  rintro e w5 ⟨rfl, hb5⟩
  have B8 := B7.trans (hb5.mono B7.size)
  clear hb5 k6 B7 d0 d1 d2 d3
  go_wp2_with fail
  refine (r2 _).mono ?_
  rintro e w6 ⟨rfl, hb6⟩
  go_wp2
  go_ret
  exact ⟨by simp, B8.trans (hb6.mono B8.size)⟩
end Go.Proofs.YtmhgbckjkmjeeaaDoor
