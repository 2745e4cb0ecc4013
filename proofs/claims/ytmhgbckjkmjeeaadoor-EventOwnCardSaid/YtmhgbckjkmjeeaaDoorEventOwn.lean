/-
  Walks: EventOwn.
-/
import Derived.Test.YtmhgbckjkmjeeaaDoorLaw3
set_option linter.unusedVariables false
set_option linter.unusedSimpArgs false
namespace Go.Proofs.YtmhgbckjkmjeeaaDoor
open Go.RowKit Go.Inq
set_option maxHeartbeats 2000000
attribute [local go_sem ↓] Go.wp_at_zero Go.wp_at_succ

set_option maxRecDepth 100000 in
theorem eventOwn_any (s : ByteArray) (w : World) (hs : s.size ≤ maxLen) (henv : Env w) : Calls Tryd.prog 5 #[.string s] w fun x w' => x = .returned (.bool true) ∧ Below w.heap.size w w' := by
  have hs2 : s.size ≤ 9223372036854775807 := hs
  go_enter Tryd.func5, Tryd.ntmps5
  go_wp2_with fail
  refine (awake03_any _ henv).mono ?_
  rintro e w1 ⟨rfl, B1⟩
  have e1 := henv.below B1
  by_cases d0q : 1000 < s.size
  · have d0 : decide ((1000 : Int) < (s.size : Int)) = true := by simp; omega
    go_wp2
    go_ret
    exact ⟨by simp, B1⟩
  have d0 : decide ((1000 : Int) < (s.size : Int)) = false := by simp; omega
  go_wp2_with fail
  refine (eparse_any s _ (by omega) e1).mono ?_
  have hz := parseR_err (l := s.data.toList)
  have hg := show_parse (l := s.data.toList)
  generalize parseR s.data.toList = r at *
  obtain ⟨⟨x0, x1, x2, x3⟩, f⟩ := r
  dsimp only at hz hg
  rintro e w2 ⟨rfl, hb2⟩
  have hA : Below w2.heap.size w2 (w2.alloc (.cells #[.int .i64 x0, .int .i64 x1, .int .i64 x2, .int .i64 x3] 23)) := (Below.refl _ _).alloc (Nat.le_refl _) _
  have kA : Blk (w2.alloc (.cells #[.int .i64 x0, .int .i64 x1, .int .i64 x2, .int .i64 x3] 23)) w2.heap.size 23 _ := Blk.new _ _ _
  have B2 := B1.trans (hb2.mono B1.size)
  have e2 := e1.below hb2
  have B3 := B2.trans (hA.mono B2.size)
  have e3 := e2.below hA
  clear B1 e1 hb2 B2 e2 hA
  by_cases hf : f = 0
  · subst hf
    obtain ⟨hr, hsh⟩ := hg rfl
    have hsw := eshow_any ⟨x0, x1, x2, x3⟩
    have hrw := right_any ⟨x0, x1, x2, x3⟩
    rw [hsh] at hsw
    rw [hr] at hrw
    clear hg hz hsh hr
    have c0 := kA.cell 0
    have c1 := kA.cell 1
    have c2 := kA.cell 2
    have c3 := kA.cell 3
    simp at c0 c1 c2 c3
    go_wp2_with fail
    generalize w2.alloc (.cells #[.int .i64 x0, .int .i64 x1, .int .i64 x2, .int .i64 x3] 23) = W2 at *
    refine (hsw _ e3).mono ?_
    rintro e w4 ⟨rfl, hb4⟩
    have k4 := kA.below hb4 kA.lt
    have B4 := B3.trans (hb4.mono B3.size)
    clear hb4 kA B3 e3 c0 c1 c2 c3
    have c0 := k4.cell 0
    have c1 := k4.cell 1
    have c2 := k4.cell 2
    have c3 := k4.cell 3
    simp at c0 c1 c2 c3
    go_wp2_with fail
    refine (hrw _).mono ?_
    rintro e w5 ⟨rfl, hb5⟩
    have hcmp : (mk s.data.toList).toList = s.toList := by rw [mk_of]
    go_wp2
    go_ret
    exact ⟨by simp, B4.trans (hb5.mono B4.size)⟩
  · have hz2 := hz hf
    unfold Ev.zero at hz2
    injection hz2 with y0 y1 y2 y3
    subst y0 y1 y2 y3
    clear hz hg
    have hfb : (f != 0) = true := by simpa using hf
    go_wp2
    go_ret
    exact ⟨by simp, B3⟩
end Go.Proofs.YtmhgbckjkmjeeaaDoor
