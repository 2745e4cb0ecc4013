/-
  Walks: EventWords.
-/
import Derived.Test.YtmhgbckjkmjeeaaDoorLaw3
set_option linter.unusedVariables false
set_option linter.unusedSimpArgs false
namespace Go.Proofs.YtmhgbckjkmjeeaaDoor
open Go.RowKit Go.Inq
set_option maxHeartbeats 4000000
attribute [local go_sem ↓] Go.wp_at_zero Go.wp_at_succ

set_option maxRecDepth 100000 in
theorem eventWords_any (x y z : Int) (w : World) (henv : Env w) : Calls Tryd.prog 6 #[.int .i64 x, .int .i64 y, .int .i64 z] w fun e w' => e = .returned (.bool true) ∧ Below w.heap.size w w' := by
  have hx := fun w (h : Env w) => nshow_any x w h.tab
  have hy := fun w (h : Env w) => nshow_any y w h.tab
  have hz := fun w (h : Env w) => nshow_any z w h.tab
  have hrw := right_any ⟨2, x, y, z⟩
  by_cases hall : (showN x).2 = 0 ∧ (showN y).2 = 0 ∧ (showN z).2 = 0
  · obtain ⟨g1, g2, g3⟩ := hall
    obtain ⟨a, ha, rfl, e1⟩ := showN_ok g1
    obtain ⟨b, hb, rfl, e2⟩ := showN_ok g2
    obtain ⟨c, hc, rfl, e3⟩ := showN_ok g3
    rw [e1] at hx
    rw [e2] at hy
    rw [e3] at hz
    clear g1 g2 g3 e1 e2 e3 hrw
    have hF : ({ data := #[119, 114, 105, 116, 101, 32] } : ByteArray) ++ mk (numR a) ++ { data := #[32] } ++ mk (numR b) ++ { data := #[32] } ++ mk (numR c) = mk (writeL (numR a) (numR b) (numR c)) := by
      rw [show ({ data := #[119, 114, 105, 116, 101, 32] } : ByteArray) = mk [119, 114, 105, 116, 101, 32] from rfl, show ({ data := #[32] } : ByteArray) = mk [32] from rfl, ← mk_append, ← mk_append, ← mk_append, ← mk_append, ← mk_append]
      rfl
    have hG : ({ data := #[119, 114, 105, 116, 101, 32] } : ByteArray) ++ mk (numR a) ++ { data := #[32, 48] } ++ mk (numR b) ++ { data := #[32] } ++ mk (numR c) = mk (writeL (numR a) (48 :: numR b) (numR c)) := by
      rw [show ({ data := #[119, 114, 105, 116, 101, 32] } : ByteArray) = mk [119, 114, 105, 116, 101, 32] from rfl, show ({ data := #[32, 48] } : ByteArray) = mk [32, 48] from rfl, show ({ data := #[32] } : ByteArray) = mk [32] from rfl, ← mk_append, ← mk_append, ← mk_append, ← mk_append, ← mk_append]
      unfold writeL
      simp
    obtain ⟨l1, l2⟩ := writeL_len ha hb hc
    have z0 : (mk (numR a)).size ≤ 10 := by rw [mk_size]; exact numR_ten ha
    have z1 : (mk (numR b)).size ≤ 10 := by rw [mk_size]; exact numR_ten hb
    have z2 : (mk (numR c)).size ≤ 10 := by rw [mk_size]; exact numR_ten hc
    have p1 := fun w (h : Env w) => eparse_any (mk (writeL (numR a) (numR b) (numR c))) w (by rw [mk_size]; omega) h
    have p2 := fun w (h : Env w) => eparse_any (mk (writeL (numR a) (48 :: numR b) (numR c))) w (by rw [mk_size]; omega) h
    have hn := write_nought (k := b) (v := c) ha
    have hnz := parseR_err (l := writeL (numR a) (48 :: numR b) (numR c)) (by rw [hn]; simp)
    rw [mk_bytes, write_parse ha hb hc] at p1
    rw [mk_bytes] at p2
    rw [← hF] at p1
    rw [← hG] at p2
    clear hF hG l1 l2
    generalize hP : parseR (writeL (numR a) (48 :: numR b) (numR c)) = P at *
    obtain ⟨P1, P2⟩ := P
    dsimp only at hn hnz
    subst hn hnz
    clear hP
    have hP2 : ∀ w, Env w → Calls Tryd.prog 14 #[.string (({ data := #[119, 114, 105, 116, 101, 32] } : ByteArray) ++ mk (numR a) ++ { data := #[32, 48] } ++ mk (numR b) ++ { data := #[32] } ++ mk (numR c))] w fun e w' => e = .returned (.tuple #[.agg #[.int .i64 0, .int .i64 0, .int .i64 0, .int .i64 0], .int .i64 2]) ∧ Below w.heap.size w w' := p2
    clear p2
    generalize mk (numR a) = A at *
    generalize mk (numR b) = B at *
    generalize mk (numR c) = C at *
    go_enter Tryd.func6, Tryd.ntmps6
    go_wp2_with fail
    refine (awake03_any _ henv).mono ?_
    rintro e w1 ⟨rfl, B1⟩
    have e1 := henv.below B1
    go_wp2_with fail
    refine (hx _ e1).mono ?_
    rintro e w2 ⟨rfl, hb2⟩
    have B2 := B1.trans (hb2.mono B1.size)
    have e2 := e1.below hb2
    clear hb2 e1 B1
    go_wp2_with fail
    refine (hy _ e2).mono ?_
    rintro e w3 ⟨rfl, hb3⟩
    have B3 := B2.trans (hb3.mono B2.size)
    have e3 := e2.below hb3
    clear hb3 e2 B2
    go_wp2_with fail
    refine (hz _ e3).mono ?_
    rintro e w4 ⟨rfl, hb4⟩
    have B4 := B3.trans (hb4.mono B3.size)
    have e4 := e3.below hb4
    clear hb4 e3 B3 hx hy hz
    have s1 : (({ data := #[119, 114, 105, 116, 101, 32] } : ByteArray) ++ A).size ≤ 20 := by rw [ByteArray.size_append, show ({ data := #[119, 114, 105, 116, 101, 32] } : ByteArray).size = 6 from rfl]; omega
    have s2 : (({ data := #[119, 114, 105, 116, 101, 32] } : ByteArray) ++ A ++ { data := #[32] }).size ≤ 30 := by rw [ByteArray.size_append, show ({ data := #[32] } : ByteArray).size = 1 from rfl]; omega
    have s3 : (({ data := #[119, 114, 105, 116, 101, 32] } : ByteArray) ++ A ++ { data := #[32] } ++ B).size ≤ 40 := by rw [ByteArray.size_append]; omega
    have s4 : (({ data := #[119, 114, 105, 116, 101, 32] } : ByteArray) ++ A ++ { data := #[32] } ++ B ++ { data := #[32] }).size ≤ 50 := by rw [ByteArray.size_append, show ({ data := #[32] } : ByteArray).size = 1 from rfl]; omega
    have t2 : (({ data := #[119, 114, 105, 116, 101, 32] } : ByteArray) ++ A ++ { data := #[32, 48] }).size ≤ 30 := by rw [ByteArray.size_append, show ({ data := #[32, 48] } : ByteArray).size = 2 from rfl]; omega
    have t3 : (({ data := #[119, 114, 105, 116, 101, 32] } : ByteArray) ++ A ++ { data := #[32, 48] } ++ B).size ≤ 40 := by rw [ByteArray.size_append]; omega
    have t4 : (({ data := #[119, 114, 105, 116, 101, 32] } : ByteArray) ++ A ++ { data := #[32, 48] } ++ B ++ { data := #[32] }).size ≤ 50 := by rw [ByteArray.size_append, show ({ data := #[32] } : ByteArray).size = 1 from rfl]; omega
    go_wp2_with fail
    by_cases hmany : (7 : Int) < a ∨ (15 : Int) < b
    · rw [if_pos hmany, show Ev.zero = ⟨0, 0, 0, 0⟩ from rfl] at p1
      refine (p1 _ e4).mono ?_
      replace p1 := ()
      rintro e w5 ⟨rfl, hb5⟩
      have B5 := B4.trans (hb5.mono B4.size)
      have e5 := e4.below hb5
      have hA : Below w5.heap.size w5 (w5.alloc (.cells #[.int .i64 0, .int .i64 0, .int .i64 0, .int .i64 0] 23)) := (Below.refl _ _).alloc (Nat.le_refl _) _
      have kA : Blk (w5.alloc (.cells #[.int .i64 0, .int .i64 0, .int .i64 0, .int .i64 0] 23)) w5.heap.size 23 _ := Blk.new _ _ _
      have B6 := B5.trans (hA.mono B5.size)
      have e6 := e5.below hA
      clear hA hb5 e5 B5 B4 e4
      go_wp2_with fail
      generalize w5.alloc (.cells #[.int .i64 0, .int .i64 0, .int .i64 0, .int .i64 0] 23) = W5 at *
      refine (hP2 _ e6).mono ?_
      rintro e w6 ⟨rfl, hb6⟩
      have hA2 : Below w6.heap.size w6 (w6.alloc (.cells #[.int .i64 0, .int .i64 0, .int .i64 0, .int .i64 0] 23)) := (Below.refl _ _).alloc (Nat.le_refl _) _
      have B7 := B6.trans (hb6.mono B6.size)
      have B8 := B7.trans (hA2.mono B7.size)
      have k6 := kA.below hb6 kA.lt
      have k7 := k6.below hA2 k6.lt
      clear hA2 hb6 B7 k6 kA e6 B6
      have c0 := k7.cell 0
      have c1 := k7.cell 1
      have c2 := k7.cell 2
      have c3 := k7.cell 3
      simp at c0 c1 c2 c3
      by_cases q1 : 8 ≤ a
      · go_wp2
        go_ret
        exact ⟨by simp, B8⟩
      · have q2 : 16 ≤ b := by omega
        go_wp2
        go_ret
        exact ⟨by simp, B8⟩
    · rw [if_neg hmany] at p1
      refine (p1 _ e4).mono ?_
      replace p1 := ()
      have q1 : ¬ (8 : Int) ≤ (a : Int) := by omega
      have q2 : ¬ (16 : Int) ≤ (b : Int) := by omega
      have q3 : decide ((8 : Int) ≤ (a : Int)) = false := by simpa using q1
      have q4 : decide ((16 : Int) ≤ (b : Int)) = false := by simpa using q2
      rintro e w5 ⟨rfl, hb5⟩
      have B5 := B4.trans (hb5.mono B4.size)
      have e5 := e4.below hb5
      have hA : Below w5.heap.size w5 (w5.alloc (.cells #[.int .i64 2, .int .i64 a, .int .i64 b, .int .i64 c] 23)) := (Below.refl _ _).alloc (Nat.le_refl _) _
      have kA : Blk (w5.alloc (.cells #[.int .i64 2, .int .i64 a, .int .i64 b, .int .i64 c] 23)) w5.heap.size 23 _ := Blk.new _ _ _
      have B6 := B5.trans (hA.mono B5.size)
      have e6 := e5.below hA
      clear hA hb5 e5 B5 B4 e4
      go_wp2_with fail
      generalize w5.alloc (.cells #[.int .i64 2, .int .i64 a, .int .i64 b, .int .i64 c] 23) = W5 at *
      refine (hP2 _ e6).mono ?_
      rintro e w6 ⟨rfl, hb6⟩
      have hA2 : Below w6.heap.size w6 (w6.alloc (.cells #[.int .i64 0, .int .i64 0, .int .i64 0, .int .i64 0] 23)) := (Below.refl _ _).alloc (Nat.le_refl _) _
      have B7 := B6.trans (hb6.mono B6.size)
      have B8 := B7.trans (hA2.mono B7.size)
      have k6 := kA.below hb6 kA.lt
      have k7 := k6.below hA2 k6.lt
      clear hA2 hb6 B7 k6 kA e6 B6
      have c0 := k7.cell 0
      have c1 := k7.cell 1
      have c2 := k7.cell 2
      have c3 := k7.cell 3
      simp at c0 c1 c2 c3
      go_wp2
      go_ret
      exact ⟨by simp, B8⟩
  · rw [right_write (by omega)] at hrw
    generalize showN x = X at *
    generalize showN y = Y at *
    generalize showN z = Z at *
    obtain ⟨l1, f1⟩ := X
    obtain ⟨l2, f2⟩ := Y
    obtain ⟨l3, f3⟩ := Z
    dsimp only at *
    have hways : (f1 != 0) = true ∨ ((f1 != 0) = false ∧ (f2 != 0) = true) ∨ ((f1 != 0) = false ∧ (f2 != 0) = false ∧ (f3 != 0) = true) := by
      simp only [bne_iff_ne, bne_eq_false_iff_eq]
      omega
    go_enter Tryd.func6, Tryd.ntmps6
    go_wp2_with fail
    refine (awake03_any _ henv).mono ?_
    rintro e w1 ⟨rfl, B1⟩
    have e1 := henv.below B1
    go_wp2_with fail
    refine (hx _ e1).mono ?_
    rintro e w2 ⟨rfl, hb2⟩
    have B2 := B1.trans (hb2.mono B1.size)
    have e2 := e1.below hb2
    clear hb2 e1 B1
    go_wp2_with fail
    refine (hy _ e2).mono ?_
    rintro e w3 ⟨rfl, hb3⟩
    have B3 := B2.trans (hb3.mono B2.size)
    have e3 := e2.below hb3
    clear hb3 e2 B2
    go_wp2_with fail
    refine (hz _ e3).mono ?_
    rintro e w4 ⟨rfl, hb4⟩
    have B4 := B3.trans (hb4.mono B3.size)
    clear hb4 e3 B3 hx hy hz hall
    rcases hways with q1 | ⟨q1, q2⟩ | ⟨q1, q2, q3⟩
    all_goals (
      go_wp2_with fail
      refine (hrw _).mono ?_
      rintro e w5 ⟨rfl, hb5⟩
      go_wp2
      go_ret
      exact ⟨by simp, B4.trans (hb5.mono B4.size)⟩)
end Go.Proofs.YtmhgbckjkmjeeaaDoor
