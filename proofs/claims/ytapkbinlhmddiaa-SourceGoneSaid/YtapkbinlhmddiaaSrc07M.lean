/-
  Walks: the reference of layer 7: may, writes, Number.
-/
import Derived.Test.YtapkbinlhmddiaaEvW
import Derived.Test.YtapkbinlhmddiaaSrc0
import Derived.Test.YtapkbinlhmddiaaSrcL
set_option linter.unusedVariables false
set_option linter.unusedSimpArgs false
namespace Go.Proofs.Ytapkbinlhmddiaa
open Go.RowKit Go.Inq
set_option maxHeartbeats 1000000
attribute [local go_sem ↓] Go.wp_at_zero Go.wp_at_succ

theorem mayT_bad {t : Tx} {i : Nat} (hi : i < t.ops.length) (h : mayE t.ops[i] = false) : mayT t = false := by
  unfold mayT
  rw [Bool.and_eq_false_iff]
  left
  rw [← Bool.not_eq_true, List.all_eq_true]
  intro hall
  rw [hall _ (List.getElem_mem hi)] at h
  cases h
theorem mayT_all {t : Tx} (h : ∀ i (hi : i < t.ops.length), mayE t.ops[i] = true) : mayT t = belowB t.sess 8 := by
  unfold mayT
  rw [List.all_eq_true.2 fun e he => by
    obtain ⟨j, hj, rfl⟩ := List.getElem_of_mem he
    exact h j hj]
  rfl

set_option maxRecDepth 100000 in
theorem rmay7_any (t : Tx) (A : Option Addr) (c : Nat) (w : World) (h : EvS w (Old w) (.slice A t.ops.length c) t.ops) (hn : t.ops.length ≤ 1000000) :
    Calls Try.prog 18 #[.agg #[.int .i64 t.sess, .bool t.done, .int .i64 t.first, .slice A t.ops.length c]] w fun e w' => e = .returned (.bool (mayT t)) ∧ Below w.heap.size w w' := by
  have hbad := hide (fun i hi => mayT_bad (t := t) (i := i) hi)
  have hgood := hide (mayT_all (t := t))
  obtain ⟨ts, td, tf, l⟩ := t
  dsimp only at *
  have hA : Below w.heap.size w (w.alloc (.cells #[.int .i64 ts, .bool td, .int .i64 tf, .slice A l.length c] 65)) := (Below.refl _ _).alloc (Nat.le_refl _) _
  have kA : Blk (w.alloc (.cells #[.int .i64 ts, .bool td, .int .i64 tf, .slice A l.length c] 65)) w.heap.size 65 _ := Blk.new _ _ _
  go_enter Try.func18, Try.ntmps18
  go_wp2_with fail
  generalize w.alloc (.cells #[.int .i64 ts, .bool td, .int .i64 tf, .slice A l.length c] 65) = W at *
  go_loopw [3, 4] (fun s3 _ wr => ∃ i : Nat, i ≤ l.length ∧ s3 = .int .i64 i ∧ Blk wr w.heap.size 65 #[.int .i64 ts, .bool td, .int .i64 tf, .slice A l.length c] ∧ Hid (∀ j (hj : j < l.length), j < i → mayE l[j] = true) ∧ Below w.heap.size w wr) (fun s3 _ _ => l.length - (intOf s3).toNat)
  case atStart => exact ⟨0, Nat.zero_le _, by go_num, kA, fun j _ h => absurd h (by omega), hA⟩
  case round =>
    obtain ⟨i, hi, rfl, kB, hall, hb⟩ := hrel
    clear kA hA
    have e3 := kB.cell 3
    simp only [List.getElem?_toArray, List.getElem?_cons_zero, List.getElem?_cons_succ] at e3
    have hi1 : (0 : Int) ≤ (i : Int) := Int.natCast_nonneg _
    by_cases hlt : i < l.length
    · have hw := EvS.below h hb
      obtain ⟨b, off, rfl, hbK, c0, c1, c2, c3⟩ := EvS.at_ hw hlt
      have hi2 : (i : Int) < (l.length : Int) := by omega
      have hbd := hide (hbad.out i hlt)
      have hok : mayE l[i] = true → ∀ j (hj : j < l.length), j < i + 1 → mayE l[j] = true := fun g j hj hji => by
        by_cases hje : j = i
        · subst hje; exact g
        · exact hall.out j hj (by omega)
      generalize l[i] = x at *
      have hr := rright_any x wr
      have hmay : mayE x = (x.right && itemB x.kind) := rfl
      rw [hmay] at hbd hok
      clear hmay hall
      go_wp2_with fail
      refine hr.mono ?_
      rintro e w2 ⟨rfl, hb2⟩
      have kC := kB.below hb2 kB.lt
      have hb3 := hb.trans (hb2.mono hb.size)
      have d0 := (hb2.cell (p := ⟨b, off + i * 4, none⟩) hbK).trans c0
      clear hb2 kB c0 c1 c2 c3 e3 hw
      have e3 := kC.cell 3
      simp only [List.getElem?_toArray, List.getElem?_cons_zero, List.getElem?_cons_succ] at e3
      cases hxr : x.right with
      | false =>
        have hb4 := hide (hbd.out (by rw [hxr]; rfl))
        clear hbd hok
        go_wp2
        go_ret
        exact ⟨by rw [hb4.out]; rfl, hb3⟩
      | true =>
        rw [hxr, Bool.true_and] at hbd hok
        by_cases h1 : x.kind = 1
        · have hx1 : (x.kind != 1) = false := by simpa using h1
          have hok2 := hide (hok (by rw [h1]; rfl))
          clear hbd hok h1
          go_wp2
          go_roundw
          case rel => exact ⟨i + 1, by omega, by go_num, kC, hok2, hb3⟩
          case measure => simp [intOf]; omega
        · have hx1 : (x.kind != 1) = true := by simpa using h1
          by_cases h2 : x.kind = 2
          · have hx2 : (x.kind != 2) = false := by simpa using h2
            have hok2 := hide (hok (by rw [h2]; rfl))
            clear hbd hok h1 h2
            go_wp2
            go_roundw
            case rel => exact ⟨i + 1, by omega, by go_num, kC, hok2, hb3⟩
            case measure => simp [intOf]; omega
          · have hx2 : (x.kind != 2) = true := by simpa using h2
            have hb4 := hide (hbd.out (by unfold itemB; simp [h1, h2]))
            clear hbd hok h1 h2
            go_wp2
            go_ret
            exact ⟨by rw [hb4.out]; rfl, hb3⟩
    · have : i = l.length := by omega
      subst this
      have hg := hide (hgood.out fun j hj => hall.out j hj hj)
      have e0 := kB.cell 0
      simp only [List.getElem?_toArray, List.getElem?_cons_zero, List.getElem?_cons_succ] at e0
      clear hgood hbad
      by_cases h0 : 0 ≤ ts
      · have g0 : decide (0 ≤ ts) = true := by simpa using h0
        go_wp2
        go_ret
        exact ⟨by rw [hg.out]; unfold belowB; rw [g0, Bool.true_and]; congr 3; simp; omega, hb⟩
      · have g0 : decide (0 ≤ ts) = false := by simpa using h0
        go_wp2
        go_ret
        exact ⟨by rw [hg.out]; unfold belowB; rw [g0, Bool.false_and]; rfl, hb⟩

theorem wr_hit {l : List Ev} {i : Nat} (hi : i < l.length) {x : It} (h : isW x l[i] = true) : wr l (i + 1) x = wr l i x + 1 := by rw [wr_step hi, if_pos h]
theorem wr_miss {l : List Ev} {i : Nat} (hi : i < l.length) {x : It} (h : isW x l[i] = false) : wr l (i + 1) x = wr l i x := by rw [wr_step hi, if_neg (by simp [h])]; rfl
set_option maxRecDepth 100000 in
theorem writes7_any (t : Tx) (A : Option Addr) (c : Nat) (m : Nat) (x : It) (w : World) (h : EvS w (Old w) (.slice A t.ops.length c) t.ops) (hm : m ≤ t.ops.length) (hn : t.ops.length ≤ 1000000) :
    Calls Try.prog 29 #[.agg #[.int .i64 t.sess, .bool t.done, .int .i64 t.first, .slice A t.ops.length c], .int .i64 m, .int .i64 x.a, .int .i64 x.b] w fun e w' => e = .returned (.int .i64 (wr t.ops m x)) ∧ Below w.heap.size w w' := by
  obtain ⟨ts, td, tf, l⟩ := t
  dsimp only at *
  have hA : Below w.heap.size w (w.alloc (.cells #[.int .i64 ts, .bool td, .int .i64 tf, .slice A l.length c] 65)) := (Below.refl _ _).alloc (Nat.le_refl _) _
  have kA : Blk (w.alloc (.cells #[.int .i64 ts, .bool td, .int .i64 tf, .slice A l.length c] 65)) w.heap.size 65 _ := Blk.new _ _ _
  have hle := hide (wr_le l · x)
  go_enter Try.func29, Try.ntmps29
  go_wp2_with fail
  generalize w.alloc (.cells #[.int .i64 ts, .bool td, .int .i64 tf, .slice A l.length c] 65) = W at *
  go_loopw [9, 10] (fun s9 s10 wr' => ∃ i : Nat, i ≤ m ∧ s10 = .int .i64 i ∧ s9 = .int .i64 (wr l i x) ∧ Blk wr' w.heap.size 65 #[.int .i64 ts, .bool td, .int .i64 tf, .slice A l.length c] ∧ Below w.heap.size w wr') (fun _ s10 _ => m - (intOf s10).toNat)
  case atStart => exact ⟨0, Nat.zero_le _, by go_num, by rw [wr_zero]; go_num, kA, hA⟩
  case round =>
    obtain ⟨i, hi, rfl, rfl, kB, hb⟩ := hrel
    clear kA hA
    have e3 := kB.cell 3
    simp only [List.getElem?_toArray, List.getElem?_cons_zero, List.getElem?_cons_succ] at e3
    have hi1 : (0 : Int) ≤ (i : Int) := Int.natCast_nonneg _
    by_cases hlt : i < m
    · have hw := EvS.below h hb
      have hlt2 : i < l.length := by omega
      obtain ⟨b, off, rfl, hbK, c0, c1, c2, c3⟩ := EvS.at_ hw hlt2
      have hi2 : (i : Int) < (l.length : Int) := by omega
      have hi3 : (i : Int) < (m : Int) := by omega
      have hq : Go.Inq.wr l i x ≤ 1000000 := by have := hle.out i; omega
      have hh := hide (wr_hit (x := x) hlt2)
      have hms := hide (wr_miss (x := x) hlt2)
      have hisw : isW x l[i] = (l[i].kind == 2 && l[i].key == x.a && l[i].val == x.b) := rfl
      rw [hisw] at hh hms
      clear hisw hw
      generalize l[i] = y at *
      generalize hwi : Go.Inq.wr l i x = n at *
      cases g1 : (y.kind == 2) with
      | false =>
        rw [g1] at hms
        have hs := hide (hms.out rfl)
        clear hh hms
        go_wp2
        go_roundw
        case rel => exact ⟨i + 1, by omega, by go_num, by rw [hs.out], kB, hb⟩
        case measure => simp [intOf]; omega
      | true =>
        rw [g1] at hms hh
        cases g2 : (y.key == x.a) with
        | false =>
          rw [g2] at hms
          have hs := hide (hms.out rfl)
          clear hh hms
          go_wp2
          go_roundw
          case rel => exact ⟨i + 1, by omega, by go_num, by rw [hs.out], kB, hb⟩
          case measure => simp [intOf]; omega
        | true =>
          rw [g2] at hms hh
          cases g3 : (y.val == x.b) with
          | false =>
            rw [g3] at hms
            have hs := hide (hms.out rfl)
            clear hh hms
            go_wp2
            go_roundw
            case rel => exact ⟨i + 1, by omega, by go_num, by rw [hs.out], kB, hb⟩
            case measure => simp [intOf]; omega
          | true =>
            rw [g3] at hh
            have hs := hide (hh.out rfl)
            clear hh hms
            go_wp2
            go_roundw
            case rel => exact ⟨i + 1, by omega, by go_num, by rw [hs.out]; go_num, kB, hb⟩
            case measure => simp [intOf]; omega
    · have : i = m := by omega
      subst this
      go_wp2
      go_ret
      exact ⟨rfl, hb⟩

set_option maxRecDepth 100000 in
theorem number7_any (l : List Tx) (A : Option Addr) (c : Nat) (n : Nat) (w : World) (h : TxS w (Old w) (.slice A l.length c) l) (hm : n ≤ l.length) (hn : l.length ≤ 1000000) :
    Calls Try.prog 43 #[.slice A l.length c, .int .i64 n] w fun e w' => e = .returned (.int .i64 (numR7 l n)) ∧ w = w' := by
  have hle := hide (num7_le l ·)
  go_enter Try.func43, Try.ntmps43
  go_wp2_with fail
  go_loop [5, 6] (fun s5 s6 => ∃ i : Nat, i ≤ n ∧ s6 = .int .i64 i ∧ s5 = .int .i64 (numR7 l i)) (fun _ s6 => n - (intOf s6).toNat)
  case atStart => exact ⟨0, Nat.zero_le _, by go_num, by go_num⟩
  case round =>
    obtain ⟨i, hi, rfl, rfl⟩ := hrel
    have hi1 : (0 : Int) ≤ (i : Int) := Int.natCast_nonneg _
    by_cases hlt : i < n
    · have hlt2 : i < l.length := by omega
      obtain ⟨b, off, A', c', rfl, hbK, c0, c1, c2, c3, -⟩ := TxS.at_ h hlt2
      have hi2 : (i : Int) < (l.length : Int) := by omega
      have hi3 : (i : Int) < (n : Int) := by omega
      have hq : numR7 l i ≤ 1000000 := by have := hle.out i; omega
      have hst := num7_step hlt2
      generalize l[i] = y at *
      generalize hwi : numR7 l i = k at *
      cases hd : y.done with
      | false =>
        rw [hd] at c1 hst
        replace hst := hide hst
        go_wp2
        go_round
        case rel => exact ⟨i + 1, by omega, by go_num, by rw [hst.out]; rfl⟩
        case measure => simp [intOf]; omega
      | true =>
        rw [hd] at c1 hst
        replace hst := hide hst
        go_wp2
        go_round
        case rel => exact ⟨i + 1, by omega, by go_num, by rw [hst.out]; go_num⟩
        case measure => simp [intOf]; omega
    · have : i = n := by omega
      subst this
      go_wp2
      go_ret
      exact ⟨rfl, rfl⟩
end Go.Proofs.Ytapkbinlhmddiaa
