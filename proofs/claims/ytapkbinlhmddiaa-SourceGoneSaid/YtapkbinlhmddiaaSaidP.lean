/-
  Plain laws of InnerSaid: the first place of a key, step by step; an item's place in the rows. No program in sight.
-/
import Derived.Test.YtapkbinlhmddiaaLookP
set_option linter.unusedVariables false
set_option linter.unusedSimpArgs false
namespace Go.Proofs.Ytapkbinlhmddiaa
open Go.RowKit Go.Inq

/-- The first place with a key among the first i. -/
def firstA (l : List Ev) (k : Int) : Nat → Int
  | 0 => -1
  | i + 1 => match l[i]? with
    | some e => if firstA l k i < 0 ∧ e.key = k then i else firstA l k i
    | none => firstA l k i
theorem firstA_succ {l : List Ev} {k : Int} {i : Nat} {e : Ev} (h : l[i]? = some e) : firstA l k (i + 1) = if firstA l k i < 0 ∧ e.key = k then (i : Int) else firstA l k i := by
  rw [firstA, h]
theorem first_spec (l : List Ev) (k : Int) : ∀ j : Nat, j ≤ l.length → (∀ m (hm : m < l.length), m < j → l[m].key ≠ k) ∨ ∃ i, ∃ hi : i < l.length, i < j ∧ l[i].key = k ∧ ∀ m (hm : m < l.length), m < i → l[m].key ≠ k
  | 0, _ => .inl fun m hm h => absurd h (by omega)
  | j + 1, hj => by
    rcases first_spec l k j (by omega) with h | ⟨i, hi, hij, h1, h2⟩
    · by_cases hk : (l[j]'(by omega)).key = k
      · exact .inr ⟨j, by omega, by omega, hk, fun m hm hmj => h m hm hmj⟩
      · refine .inl fun m hm hmj => ?_
        by_cases hmj2 : m = j
        · subst hmj2; exact hk
        · exact h m hm (by omega)
    · exact .inr ⟨i, hi, by omega, h1, h2⟩
theorem firstA_eq (l : List Ev) (k : Int) : ∀ i : Nat, i ≤ l.length → ((∀ m (hm : m < l.length), m < i → l[m].key ≠ k) ∧ firstA l k i = -1) ∨ ∃ j, ∃ hj : j < l.length, j < i ∧ firstA l k i = j ∧ l[j].key = k ∧ ∀ m (hm : m < l.length), m < j → l[m].key ≠ k
  | 0, _ => .inl ⟨fun m hm h => absurd h (by omega), rfl⟩
  | i + 1, hi => by
    have hil : i < l.length := by omega
    rw [firstA_succ (List.getElem?_eq_getElem hil)]
    rcases firstA_eq l k i (by omega) with ⟨h1, h2⟩ | ⟨j, hj, hji, h1, h2, h3⟩
    · rw [h2]
      by_cases hk : l[i].key = k
      · exact .inr ⟨i, hil, by omega, by rw [if_pos ⟨by omega, hk⟩], hk, fun m hm hmi => h1 m hm hmi⟩
      · refine .inl ⟨fun m hm hmi => ?_, by rw [if_neg (fun e => hk e.2)]⟩
        by_cases hmi2 : m = i
        · subst hmi2; exact hk
        · exact h1 m hm (by omega)
    · exact .inr ⟨j, hj, by omega, by rw [h1, if_neg (fun e => by have := e.1; omega)], h2, h3⟩
theorem firstA_all (l : List Ev) (k : Int) : firstA l k l.length = firstD l k 0 := by
  rcases firstA_eq l k l.length (Nat.le_refl _) with ⟨h1, h2⟩ | ⟨j, hj, _, h1, h2, h3⟩
  · rw [h2, firstD_to (Nat.le_refl _) h1, firstD_end]
  · rw [h1, firstD_to (by omega) h3, firstD_step (List.getElem?_eq_getElem hj), if_pos h2]

theorem fm_at {f : Nat → Option It} {n : Nat} (hn : n < 16) : (List.range 16).filterMap f = (List.range n).filterMap f ++ (f n).toList ++ (List.range' (n + 1) (15 - n)).filterMap f := by
  have e : List.range 16 = List.range n ++ [n] ++ List.range' (n + 1) (15 - n) := by
    rw [List.range_eq_range', List.range_eq_range', show (16 : Nat) = n + (1 + (15 - n)) by omega, ← List.range'_append_1, ← List.range'_append_1]
    simp
  rw [e, List.filterMap_append, List.filterMap_append]
  congr 2
theorem readsTo_at {l : List Ev} {n : Nat} (hn : n < 16) {x : It} (h : readOf l n = some x) : (readsTo l 16)[(readsTo l n).length]? = some x := by
  unfold readsTo
  rw [fm_at hn, h, List.append_assoc, List.getElem?_append_right (Nat.le_refl _)]
  simp
theorem writesTo_at {l : List Ev} {n : Nat} (hn : n < 16) {x : It} (h : writeOf l n = some x) : (writesTo l 16)[(writesTo l n).length]? = some x := by
  unfold writesTo
  rw [fm_at hn, h, List.append_assoc, List.getElem?_append_right (Nat.le_refl _)]
  simp
theorem firstBad_lt {l : List Ev} {i : Nat} (h : firstBad l = some i) : i < l.length ∧ wrongAt l i ≠ 0 := by
  unfold firstBad at h
  rw [List.find?_range_eq_some] at h
  exact ⟨by simpa using h.2.1, by simpa using h.1⟩
/-- The two ways of a look. -/
theorem lookR_two (l : List Ev) : (∃ i : Nat, i < l.length ∧ ∃ x : Int, x ≠ 0 ∧ lookR l = ⟨[], [], i, x⟩) ∨ ((∀ j, j < l.length → wrongAt l j = 0) ∧ lookR l = ⟨readsTo l 16, writesTo l 16, 0, 0⟩) := by
  cases hb : firstBad l with
  | some i =>
    obtain ⟨h1, h2⟩ := firstBad_lt hb
    exact .inl ⟨i, h1, wrongAt l i, h2, by unfold lookR; rw [hb]⟩
  | none =>
    refine .inr ⟨fun j hj => ?_, by unfold lookR; rw [hb]⟩
    unfold firstBad at hb
    rw [List.find?_eq_none] at hb
    simpa using hb j (by simpa using hj)
end Go.Proofs.Ytapkbinlhmddiaa
