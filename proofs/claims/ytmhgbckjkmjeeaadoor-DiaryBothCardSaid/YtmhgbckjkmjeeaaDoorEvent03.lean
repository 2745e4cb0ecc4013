/-
  Walks: the reference of layer 3: word, digits, Show.
-/
import Derived.Test.YtmhgbckjkmjeeaaDoorNum01T
import Derived.Test.YtmhgbckjkmjeeaaDoorEventP
import Derived.Test.YtmhgbckjkmjeeaaDoorFloat
set_option linter.unusedVariables false
set_option linter.unusedSimpArgs false
namespace Go.Proofs.YtmhgbckjkmjeeaaDoor
open Go.RowKit Go.Inq
set_option maxHeartbeats 1000000
attribute [local go_sem ↓] Go.wp_at_zero Go.wp_at_succ

theorem word_len (k : Nat) : (wordK k).length ≤ 10 := by
  unfold wordK
  split <;> simp
theorem rword_any (k : Nat) (w : World) : Calls Tryd.prog 28 #[.int .i64 k] w fun e w' => e = .returned (.string (mk (wordK k))) ∧ w = w' := by
  have h : k = 0 ∨ k = 1 ∨ k = 2 ∨ k = 3 ∨ 4 ≤ k := by omega
  rcases h with rfl | rfl | rfl | rfl | h
  iterate 4
    · go_enter Tryd.func28, Tryd.ntmps28
      go_wp2
      go_ret
      exact ⟨rfl, rfl⟩
  · have e0 : ((k : Int) == 0) = false := by simp; omega
    have e1 : ((k : Int) == 1) = false := by simp; omega
    have e2 : ((k : Int) == 2) = false := by simp; omega
    have e3 : ((k : Int) == 3) = false := by simp; omega
    have ew : Hid (wordK k = [97, 98, 111, 114, 116]) := by unfold Hid wordK; split <;> first | rfl | omega
    go_enter Tryd.func28, Tryd.ntmps28
    go_wp2
    go_ret
    exact ⟨by rw [ew.out]; rfl, rfl⟩
theorem rdigits03_any (n : Nat) (w : World) (hn : n ≤ 2147483647) : Calls Tryd.prog 29 #[.int .i64 n] w fun e w' => e = .returned (.string (mk (numR n))) ∧ Below w.heap.size w w' := by
  have hs := rshow01_any n w
  have e : showN (n : Int) = (numR n, 0) := by unfold showN; rw [if_pos (by omega)]; rfl
  rw [e] at hs
  go_enter Tryd.func29, Tryd.ntmps29
  go_wp2_with (go_at_call 46; refine hs.mono ?_; rintro e w' ⟨rfl, hb⟩)
  go_ret
  exact ⟨rfl, hb⟩

theorem rshow03_any (e : Ev) (w : World) : Calls Tryd.prog 13 #[.agg #[.int .i64 e.kind, .int .i64 e.sess, .int .i64 e.key, .int .i64 e.val]] w fun x w' => x = .returned (.tuple #[.string (mk (showR e).1), .int .i64 (showR e).2]) ∧ Below w.heap.size w w' := by
  have hr := rright_any e
  by_cases h : e.right = true
  · obtain ⟨⟨k, hk, ek⟩, ⟨s, hs, es⟩, hc⟩ := right_facts h
    obtain ⟨kind, sess, key, val⟩ := e
    simp only at ek es
    subst ek es
    rw [h] at hr
    go_enter Tryd.func13, Tryd.ntmps13
    go_wp2_with (go_at_call 17; refine (hr _).mono ?_; rintro e w1 ⟨rfl, hb⟩)
    have kA : Blk (w.alloc (.cells #[.int .i64 k, .int .i64 s, .int .i64 key, .int .i64 val] 23)) w.heap.size 23 _ := Blk.new _ _ _
    have hA : Below w.heap.size w (w.alloc (.cells #[.int .i64 k, .int .i64 s, .int .i64 key, .int .i64 val] 23)) := (Below.refl _ _).alloc (Nat.le_refl _) _
    have hB1 : Below w.heap.size w w1 := hA.trans (hb.mono hA.size)
    have kB : Blk w1 w.heap.size 23 #[.int .i64 k, .int .i64 s, .int .i64 key, .int .i64 val] := kA.below hb kA.lt
    clear hb hA kA
    have hc0 : ∀ W, Below w1.heap.size w1 W → W.cell? ⟨w.heap.size, 0, none⟩ = some (.int .i64 k) := fun W hW => (kB.below hW kB.lt).cell 0
    have hc1 : ∀ W, Below w1.heap.size w1 W → W.cell? ⟨w.heap.size, 1, none⟩ = some (.int .i64 s) := fun W hW => (kB.below hW kB.lt).cell 1
    have hc2 : ∀ W, Below w1.heap.size w1 W → W.cell? ⟨w.heap.size, 2, none⟩ = some (.int .i64 key) := fun W hW => (kB.below hW kB.lt).cell 2
    have hc3 : ∀ W, Below w1.heap.size w1 W → W.cell? ⟨w.heap.size, 3, none⟩ = some (.int .i64 val) := fun W hW => (kB.below hW kB.lt).cell 3
    refine wp_region_float (fun W => Below w1.heap.size w1 W) (by kernel_rfl) (by kernel_rfl) (Below.refl _ _).drew ?_
    have z0 : (mk (wordK k)).size ≤ 10 := by rw [mk_size]; exact word_len k
    have z1 : (mk (numR s)).size ≤ 10 := by rw [mk_size]; exact numR_ten (by omega)
    have z2 : (mk (wordK k) ++ { data := #[32] }).size ≤ 11 := by rw [ByteArray.size_append]; exact Nat.add_le_add z0 (Nat.le_refl _)
    have z3 : (mk (wordK k) ++ { data := #[32] } ++ mk (numR s)).size ≤ 21 := by rw [ByteArray.size_append]; omega
    refine ⟨.pointer (some ⟨w.heap.size, 0, none⟩), fun W hW => (by go_wp2), ?_⟩
    refine ⟨.int .i64 k, fun W hW => (by have c0 := hc0 W hW; go_wp2), ?_⟩
    refine ⟨.string (mk (wordK k)), fun W hW => (by go_wp2_with (go_at_call 28; refine (rword_any k _).mono ?_; rintro e w' ⟨rfl, rfl⟩)), ?_⟩
    refine ⟨.string (mk (wordK k) ++ { data := #[32] }), fun W hW => (by go_wp2), ?_⟩
    refine ⟨.pointer (some ⟨w.heap.size, 1, none⟩), fun W hW => (by go_wp2), ?_⟩
    refine ⟨.int .i64 s, fun W hW => (by have c1 := hc1 W hW; go_wp2), ?_⟩
    refine ⟨.string (mk (numR s)), fun W hW => (by go_wp2_with (go_at_call 29; refine (rdigits03_any s _ (by omega)).mono ?_; rintro e w' ⟨rfl, hb⟩; replace hW := hW.trans (hb.mono hW.size))), ?_⟩
    refine ⟨.string (mk (wordK k) ++ { data := #[32] } ++ mk (numR s)), fun W hW => (by go_wp2), ?_⟩
    refine ⟨.string (mk (wordK k) ++ { data := #[32] } ++ mk (numR s)), fun W hW => (by go_wp2), ?_⟩
    intro w2 hw2
    simp only [Act.put]
    have kC := kB.below hw2 kB.lt
    have hB2 := hB1.trans (hw2.mono hB1.size)
    have g0 := hc0 w2 hw2
    have hF : Hid (mk (wordK k) ++ { data := #[32] } ++ mk (numR s) = mk (wordK k ++ 32 :: numR s)) := by
      unfold Hid
      rw [show ({ data := #[32] } : ByteArray) = mk [32] from rfl, ← mk_append, ← mk_append, List.append_assoc, List.singleton_append]
    clear hc0 hc1 hc2 hc3 hw2 kB hB1 hr z0 z1 z2
    generalize mk (wordK k) ++ { data := #[32] } ++ mk (numR s) = F at *
    rcases hc with ⟨hi, ⟨y, hy, ey⟩, v, hv, ev⟩ | ⟨hi, ey, ev⟩
    · have hsh : Hid (showR { kind := k, sess := s, key := key, val := val } = (wordK k ++ 32 :: numR s ++ (32 :: numR y ++ 32 :: numR v), 0)) := by
        unfold Hid showR
        rw [if_neg (by rw [h]; simp)]
        dsimp only
        rw [hi, if_pos rfl, ey, ev]
        simp only [Int.toNat_natCast]
      subst ey ev
      have hk12 : ((k : Int) == 1) = true ∨ (((k : Int) == 1) = false ∧ ((k : Int) == 2) = true) := by
        unfold itemB at hi
        rw [Bool.or_eq_true] at hi
        rcases hi with h1 | h1
        · exact .inl h1
        · refine .inr ⟨?_, h1⟩
          simp at h1 ⊢
          omega
      have z0 : F.size + 1 ≤ 22 := by omega
      have z1 : (mk (numR y)).size ≤ 10 := by rw [mk_size]; exact numR_ten (by omega)
      have z2 : (mk (numR v)).size ≤ 10 := by rw [mk_size]; exact numR_ten (by omega)
      have z4 : (F ++ { data := #[32] }).size ≤ 22 := by rw [ByteArray.size_append]; exact z0
      have z5 : (F ++ { data := #[32] } ++ mk (numR y)).size ≤ 32 := by rw [ByteArray.size_append]; omega
      have z6 : (F ++ { data := #[32] } ++ mk (numR y) ++ { data := #[32] }).size ≤ 33 := by rw [ByteArray.size_append]; exact Nat.succ_le_succ z5
      have hG : Hid (F ++ { data := #[32] } ++ mk (numR y) ++ { data := #[32] } ++ mk (numR v) = mk (wordK k ++ 32 :: numR s ++ (32 :: numR y ++ 32 :: numR v))) := by
        unfold Hid
        rw [hF.out, show ({ data := #[32] } : ByteArray) = mk [32] from rfl, ← mk_append, ← mk_append, ← mk_append, ← mk_append]
        simp only [List.append_assoc, List.cons_append, List.nil_append]
      have hy2 : y ≤ 2147483647 := by omega
      clear h hi hy
      have hd2 : ∀ W, Below w2.heap.size w2 W → W.cell? ⟨w.heap.size, 2, none⟩ = some (.int .i64 y) := fun W hW => (kC.below hW kC.lt).cell 2
      have hd3 : ∀ W, Below w2.heap.size w2 W → W.cell? ⟨w.heap.size, 3, none⟩ = some (.int .i64 v) := fun W hW => (kC.below hW kC.lt).cell 3
      rcases hk12 with e1 | ⟨e1, e2⟩
      all_goals (
        go_wp2
        refine wp_region_float (fun W => Below w2.heap.size w2 W) (by kernel_rfl) (by kernel_rfl) (Below.refl _ _).drew ?_
        refine ⟨.string F, fun W hW => (by go_wp2), ?_⟩
        refine ⟨.string (F ++ { data := #[32] }), fun W hW => (by go_wp2), ?_⟩
        refine ⟨.pointer (some ⟨w.heap.size, 2, none⟩), fun W hW => (by go_wp2), ?_⟩
        refine ⟨.int .i64 y, fun W hW => (by have c2 := hd2 W hW; go_wp2), ?_⟩
        refine ⟨.string (mk (numR y)), fun W hW => (by go_wp2_with (go_at_call 29; refine (rdigits03_any y _ (by omega)).mono ?_; rintro e w' ⟨rfl, hb⟩; replace hW := hW.trans (hb.mono hW.size))), ?_⟩
        refine ⟨.string (F ++ { data := #[32] } ++ mk (numR y)), fun W hW => (by go_wp2), ?_⟩
        refine ⟨.string (F ++ { data := #[32] } ++ mk (numR y) ++ { data := #[32] }), fun W hW => (by go_wp2), ?_⟩
        refine ⟨.pointer (some ⟨w.heap.size, 3, none⟩), fun W hW => (by go_wp2), ?_⟩
        refine ⟨.int .i64 v, fun W hW => (by have c3 := hd3 W hW; go_wp2), ?_⟩
        refine ⟨.string (mk (numR v)), fun W hW => (by go_wp2_with (go_at_call 29; refine (rdigits03_any v _ (by omega)).mono ?_; rintro e w' ⟨rfl, hb⟩; replace hW := hW.trans (hb.mono hW.size))), ?_⟩
        refine ⟨.string (F ++ { data := #[32] } ++ mk (numR y) ++ { data := #[32] } ++ mk (numR v)), fun W hW => (by go_wp2), ?_⟩
        refine ⟨.string (F ++ { data := #[32] } ++ mk (numR y) ++ { data := #[32] } ++ mk (numR v)), fun W hW => (by go_wp2), ?_⟩
        intro w3 hw3
        have hB3 := hB2.trans (hw3.mono hB2.size)
        simp only [Act.put]
        clear hd2 hd3 hw3
        generalize F ++ { data := #[32] } ++ mk (numR y) ++ { data := #[32] } ++ mk (numR v) = G at *
        go_wp2
        go_ret2
        exact ⟨by rw [hsh.out, ← hG.out]; rfl, hB3⟩)
    · have hsh : Hid (showR { kind := k, sess := s, key := key, val := val } = (wordK k ++ 32 :: numR s, 0)) := by
        unfold Hid showR
        rw [if_neg (by rw [h]; simp)]
        dsimp only
        rw [hi, if_neg (by simp)]
        simp only [Int.toNat_natCast, List.append_nil]
      have e1 : ((k : Int) == 1) = false ∧ ((k : Int) == 2) = false := by unfold itemB at hi; rw [Bool.or_eq_false_iff] at hi; exact hi
      obtain ⟨e1, e2⟩ := e1
      clear h hi
      go_wp2
      go_ret2
      exact ⟨by rw [hsh.out, ← hF.out]; rfl, hB2⟩
  · have h' : e.right = false := by simpa using h
    have hsh : Hid (showR e = ([], 1)) := by unfold Hid showR; rw [if_pos h']
    rw [h'] at hr
    obtain ⟨kind, sess, key, val⟩ := e
    clear h h'
    go_enter Tryd.func13, Tryd.ntmps13
    go_wp2_with (go_at_call 17; refine (hr _).mono ?_; rintro e w1 ⟨rfl, hb⟩)
    go_ret2
    have hA : Below w.heap.size w (w.alloc (.cells #[.int .i64 kind, .int .i64 sess, .int .i64 key, .int .i64 val] 23)) := (Below.refl _ _).alloc (Nat.le_refl _) _
    exact ⟨by rw [hsh.out]; rfl, hA.trans (hb.mono hA.size)⟩
end Go.Proofs.YtmhgbckjkmjeeaaDoor
