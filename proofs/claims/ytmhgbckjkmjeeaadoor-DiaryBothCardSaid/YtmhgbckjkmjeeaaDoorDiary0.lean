/-
  What the walks over events share: what is handed back; events compared.
-/
import Derived.Test.YtmhgbckjkmjeeaaDoorEvent03P
import Derived.Test.YtmhgbckjkmjeeaaDoorDiaryP
import Derived.Test.YtmhgbckjkmjeeaaDoorLine02S
set_option linter.unusedVariables false
set_option linter.unusedSimpArgs false
namespace Go.Proofs.YtmhgbckjkmjeeaaDoor
open Go.RowKit Go.Inq
set_option maxHeartbeats 1000000
attribute [local go_sem ↓] Go.wp_at_zero Go.wp_at_succ
theorem infoE : (Tryd.prog.info? 23).map (fun i => (i.zero, i.size, i.bytes)) = some (some (.agg #[.int .i64 0, .int .i64 0, .int .i64 0, .int .i64 0]), 4, 32) := by kernel_rfl
theorem encE_one : ∀ (x : Ev), ∀ u ∈ x.enc, u.oneCell' = true := by
  intro x u hu
  unfold Ev.enc at hu
  simp at hu
  rcases hu with rfl | rfl | rfl | rfl <;> rfl
theorem EvS.form {w : World} {K : Nat → Prop} {v : Value} {l : List Ev} (h : EvS w K v l) : ∃ A c, v = .slice A l.length c := by
  obtain ⟨A, c, hv, _⟩ := SlR.len h
  exact ⟨A, c, hv⟩
theorem EvS.nil (w : World) (K : Nat → Prop) (A : Option Addr) (c : Nat) : EvS w K (.slice A 0 c) [] := SlR.nil _ _ _ _ _ _

/-- What a Parse of layer 4 hands back: a row of events, of its own, a place, and an error. -/
def EvOut (r : List Ev × Int × Int) (w : World) (e : Ending) (w' : World) : Prop :=
  ∃ v, e = .returned (.tuple #[v, .int .i64 r.2.1, .int .i64 r.2.2]) ∧ EvS w' (fun b => w.heap.size ≤ b ∧ b < w'.heap.size) v r.1 ∧ Below w.heap.size w w'
theorem EvOut.open {r : List Ev × Int × Int} {w : World} {e : Ending} {w' : World} (h : EvOut r w e w') :
    ∃ A c, e = .returned (.tuple #[.slice A r.1.length c, .int .i64 r.2.1, .int .i64 r.2.2]) ∧ EvS w' (Old w') (.slice A r.1.length c) r.1 ∧ Below w.heap.size w w' := by
  obtain ⟨v, he, hv, hb⟩ := h
  obtain ⟨A, c, rfl⟩ := EvS.form hv
  exact ⟨A, c, he, EvS.fit hv (fun b hb => hb.2), hb⟩

theorem same03_any (A A' : Option Addr) (c c' : Nat) (l l' : List Ev) (w : World) (h : EvS w (Old w) (.slice A l.length c) l) (h' : EvS w (Old w) (.slice A' l'.length c') l') (hn : l.length ≤ 1000000) (hn' : l'.length ≤ 1000000) :
    Calls Tryd.prog 24 #[.slice A l.length c, .slice A' l'.length c'] w fun e w' => e = .returned (.bool (decide (l = l'))) ∧ Below w.heap.size w w' := by
  rcases Nat.decEq l.length l'.length with hlen | hlen
  rotate_left
  · rw [← hlen] at h' ⊢
    have hlen2 := hide hlen
    clear hn' hlen
    go_enter Tryd.func24, Tryd.ntmps24
    go_wp2
    go_loopw [5] (fun s5 wr => ∃ i : Nat, i ≤ l.length ∧ s5 = .int .i64 i ∧ Hid (∀ j (hj : j < l.length) (hj' : j < l'.length), j < i → l[j] = l'[j]) ∧ Below w.heap.size w wr) (fun s5 _ => l.length - (intOf s5).toNat)
    case atStart => exact ⟨0, Nat.zero_le _, by go_num, fun j _ _ h => absurd h (by omega), Below.refl _ _⟩
    case round =>
      obtain ⟨i, hi, rfl, hall, hb⟩ := hrel
      by_cases hlt : i < l.length
      · have hlt' : i < l'.length := by have := hlen2.out; omega
        have hw := EvS.below h hb
        have hw' := EvS.below h' hb
        obtain ⟨b, off, rfl, hbK, c0, c1, c2, c3⟩ := EvS.at_ hw hlt
        obtain ⟨b', off', rfl, hbK', d0, d1, d2, d3⟩ := EvS.at_ hw' hlt'
        have hi1 : (0 : Int) ≤ (i : Int) := Int.natCast_nonneg _
        have hi2 : (i : Int) < (l.length : Int) := by omega
        by_cases he : l[i] = l'[i]
        · have hstep : Hid (∀ j (hj : j < l.length) (hj' : j < l'.length), j < i + 1 → l[j] = l'[j]) := fun j hj hj' hji => by
            by_cases hje : j = i
            · subst hje; exact he
            · exact hall.out j hj hj' (by omega)
          rw [← he] at d0 d1 d2 d3
          clear he
          generalize l[i] = x at *
          go_wp2
          go_quiet (fail)
          go_wp2
          go_roundw
          case rel => exact ⟨i + 1, by omega, by go_num, hstep, ⟨hb.os, hb.tape, hb.output, hb.size, hb.block⟩⟩
          case measure => simp [intOf]; omega
        · have hf : l ≠ l' := fun e => he (by subst e; rfl)
          replace hf := hide hf
          generalize l[i] = x at *
          generalize l'[i] = x' at *
          have hways : (x.kind == x'.kind) = false ∨ ((x.kind == x'.kind) = true ∧ (x.sess == x'.sess) = false) ∨ ((x.kind == x'.kind) = true ∧ (x.sess == x'.sess) = true ∧ (x.key == x'.key) = false) ∨
              ((x.kind == x'.kind) = true ∧ (x.sess == x'.sess) = true ∧ (x.key == x'.key) = true ∧ (x.val == x'.val) = false) := by
            obtain ⟨a0, a1, a2, a3⟩ := x
            obtain ⟨b0, b1, b2, b3⟩ := x'
            simp only [Ev.mk.injEq] at he
            simp only [beq_iff_eq, beq_eq_false_iff_ne]
            omega
          clear he
          rcases hways with q1 | ⟨q1, q2⟩ | ⟨q1, q2, q3⟩ | ⟨q1, q2, q3, q4⟩
          all_goals (
            go_wp2
            go_quiet (fail)
            go_wp2
            go_ret
            exact ⟨by simp [hf.out], ⟨hb.os, hb.tape, hb.output, hb.size, hb.block⟩⟩)
      · have he : l = l' := List.ext_getElem hlen2.out (fun j h1 h2 => hall.out j h1 h2 (by omega))
        have : i = l.length := by omega
        subst this
        go_wp2
        go_ret
        exact ⟨by simp [he], hb⟩
  · have hf : l ≠ l' := fun e => hlen (by rw [e])
    go_enter Tryd.func24, Tryd.ntmps24
    go_wp2
    go_ret
    exact ⟨by simp [hf], Below.refl _ _⟩
end Go.Proofs.YtmhgbckjkmjeeaaDoor
