/-
  Walks: EventBack.
-/
import Derived.Test.YtmhgbckjkmjeeaaDoorLaw3
set_option linter.unusedVariables false
set_option linter.unusedSimpArgs false
namespace Go.Proofs.YtmhgbckjkmjeeaaDoor
open Go.RowKit Go.Inq
set_option maxHeartbeats 2000000
attribute [local go_sem ↓] Go.wp_at_zero Go.wp_at_succ

set_option maxRecDepth 100000 in
theorem eventBack_any (e : Ev) (w : World) (henv : Env w) : Calls Tryd.prog 4 #[.agg #[.int .i64 e.kind, .int .i64 e.sess, .int .i64 e.key, .int .i64 e.val]] w fun x w' => x = .returned (.bool true) ∧ Below w.heap.size w w' := by
  have hA : Below w.heap.size w (w.alloc (.cells #[.int .i64 e.kind, .int .i64 e.sess, .int .i64 e.key, .int .i64 e.val] 23)) := (Below.refl _ _).alloc (Nat.le_refl _) _
  have kA : Blk (w.alloc (.cells #[.int .i64 e.kind, .int .i64 e.sess, .int .i64 e.key, .int .i64 e.val] 23)) w.heap.size 23 _ := Blk.new _ _ _
  have hE := henv.below hA
  have hr := right_any e
  have hsh := eshow_any e
  obtain ⟨x0, x1, x2, x3⟩ := e
  dsimp only at *
  go_enter Tryd.func4, Tryd.ntmps4
  go_wp2_with fail
  refine (awake03_any _ hE).mono ?_
  rintro e w1 ⟨rfl, hb1⟩
  have k1 := kA.below hb1 kA.lt
  have B1 := hA.trans (hb1.mono hA.size)
  have e1 := hE.below hb1
  have c0 := k1.cell 0
  have c1 := k1.cell 1
  have c2 := k1.cell 2
  have c3 := k1.cell 3
  simp at c0 c1 c2 c3
  clear hb1 hE kA hA
  go_wp2_with fail
  refine (hsh _ e1).mono ?_
  rintro e w2 ⟨rfl, hb2⟩
  have k2 := k1.below hb2 k1.lt
  have B2 := B1.trans (hb2.mono B1.size)
  have e2 := e1.below hb2
  clear hb2 e1 k1 B1 c0 c1 c2 c3
  have c0 := k2.cell 0
  have c1 := k2.cell 1
  have c2 := k2.cell 2
  have c3 := k2.cell 3
  simp at c0 c1 c2 c3
  go_wp2_with fail
  refine (hr _).mono ?_
  rintro e w3 ⟨rfl, hb3⟩
  have k3 := k2.below hb3 k2.lt
  have B3 := B2.trans (hb3.mono B2.size)
  have e3 := e2.below hb3
  clear hb3 e2 k2 B2 c0 c1 c2 c3
  cases h : (Ev.mk x0 x1 x2 x3).right with
  | false =>
    rw [showR_bad h]
    have hcmp : (mk []).toList = [] := by rw [Lib.toList_data]; rfl
    go_wp2
    go_ret
    exact ⟨by simp, B3⟩
  | true =>
    have hp := parse_show h
    have hl := showR_len ⟨x0, x1, x2, x3⟩
    rw [showR_err h]
    generalize (showR ⟨x0, x1, x2, x3⟩).1 = l at *
    clear hsh hr h
    go_wp2_with fail
    refine (eparse_any (mk l) _ (by rw [mk_size]; omega) e3).mono ?_
    rw [mk_bytes, hp]
    rintro e w4 ⟨rfl, hb4⟩
    have k4 := k3.below hb4 k3.lt
    have B4 := B3.trans (hb4.mono B3.size)
    have hA4 : Below w4.heap.size w4 (w4.alloc (.cells #[.int .i64 x0, .int .i64 x1, .int .i64 x2, .int .i64 x3] 23)) := (Below.refl _ _).alloc (Nat.le_refl _) _
    have k5 := k4.below hA4 k4.lt
    have B5 := B4.trans (hA4.mono B4.size)
    clear hA4 hb4 k4 k3 B3 e3 hp hl
    have c0 := k5.cell 0
    have c1 := k5.cell 1
    have c2 := k5.cell 2
    have c3 := k5.cell 3
    simp at c0 c1 c2 c3
    go_wp2
    go_ret
    exact ⟨by simp, B5⟩
end Go.Proofs.YtmhgbckjkmjeeaaDoor
