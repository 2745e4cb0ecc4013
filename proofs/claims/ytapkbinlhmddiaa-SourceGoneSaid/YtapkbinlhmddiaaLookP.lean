/-
  Plain laws: rows of keys as functions; what a look at ops keeps, step by step. No program in sight.
-/
import Derived.Test.YtapkbinlhmddiaaPut
set_option linter.unusedVariables false
set_option linter.unusedSimpArgs false
namespace Go.Proofs.Ytapkbinlhmddiaa
open Go.RowKit Go.Inq

theorem fm_congr {α β : Type} {f g : α → Option β} : ∀ {l : List α}, (∀ x, x ∈ l → f x = g x) → l.filterMap f = l.filterMap g
  | [], _ => rfl
  | x :: r, h => by rw [List.filterMap_cons, List.filterMap_cons, h x (by simp), fm_congr (l := r) (fun y hy => h y (by simp [hy]))]

def upd (f : Int → Option Int) (k v : Int) : Int → Option Int := fun j => if j = k then some v else f j
/-- The items of a function on the keys. -/
def rngOf (f : Int → Option Int) (r : List Nat) : List It := r.filterMap fun (n : Nat) => (f (n : Int)).map (It.mk (n : Int))
def rng (f : Int → Option Int) : List It := rngOf f (List.range 16)

theorem rng_split (f : Int → Option Int) {k : Nat} (hk : k < 16) : rng f = rngOf f (List.range k) ++ ((f k).map (It.mk (k : Int))).toList ++ rngOf f (List.range' (k + 1) (15 - k)) := by
  have e : List.range 16 = List.range k ++ [k] ++ List.range' (k + 1) (15 - k) := by
    rw [List.range_eq_range', List.range_eq_range', show (16 : Nat) = k + (1 + (15 - k)) by omega, ← List.range'_append_1, ← List.range'_append_1]
    simp
  unfold rng
  rw [e]
  unfold rngOf
  rw [List.filterMap_append, List.filterMap_append]
  congr 2

theorem rngOf_mem {f : Int → Option Int} {r : List Nat} {x : It} (h : x ∈ rngOf f r) : ∃ n : Nat, n ∈ r ∧ x.a = n ∧ f n = some x.b := by
  unfold rngOf at h
  rw [List.mem_filterMap] at h
  obtain ⟨n, hn, h⟩ := h
  cases hf : f n with
  | none => rw [hf] at h; cases h
  | some v =>
    rw [hf] at h
    injection h with h
    subst h
    exact ⟨n, hn, rfl, hf⟩

theorem rng_len (f : Int → Option Int) : (rng f).length ≤ 16 := by
  unfold rng rngOf
  exact Nat.le_trans (List.length_filterMap_le _ _) (by simp)

theorem rngOf_rising (f : Int → Option Int) {r : List Nat} (h : r.Pairwise (· < ·)) : Rising (rngOf f r) := by
  unfold Rising
  induction r with
  | nil => exact List.Pairwise.nil
  | cons n r ih =>
    rw [List.pairwise_cons] at h
    unfold rngOf
    rw [List.filterMap_cons]
    split
    · exact ih h.2
    · rename_i y hy
      rw [List.pairwise_cons]
      refine ⟨fun x hx => ?_, ih h.2⟩
      obtain ⟨m, hm, hxa, _⟩ := rngOf_mem (r := r) hx
      cases hf : f n with
      | none => rw [hf] at hy; cases hy
      | some v =>
        rw [hf] at hy
        injection hy with hy
        subst hy
        have := h.1 m hm
        show (n : Int) < x.a
        omega
theorem rng_rising (f : Int → Option Int) : Rising (rng f) := rngOf_rising f (by rw [List.range_eq_range']; exact List.pairwise_lt_range')

theorem pos_split {A M B : List It} {k : Int} (hA : ∀ x ∈ A, x.a < k) (hM : ∀ x ∈ M, x.a = k) (hB : ∀ x ∈ B, k < x.a) : posI (A ++ M ++ B) k = A.length := by
  refine posI_eq (by simp) (fun j hj hja => ?_) (fun hj => ?_)
  · have h1 : (A ++ M ++ B)[j]? = A[j]? := by rw [List.append_assoc, List.getElem?_append_left hja]
    rw [List.getElem?_eq_getElem hj] at h1
    exact hA _ (List.mem_of_getElem? h1.symm)
  · have h1 : (A ++ M ++ B)[A.length] ∈ M ++ B := by
      have : (A ++ M ++ B)[A.length]? = (M ++ B)[0]? := by rw [List.append_assoc, List.getElem?_append_right (Nat.le_refl _)]; simp
      rw [List.getElem?_eq_getElem hj] at this
      exact List.mem_of_getElem? this.symm
    rcases List.mem_append.1 h1 with h | h
    · have := hM _ h; omega
    · have := hB _ h; omega

theorem rng_pos (f : Int → Option Int) {k : Nat} (hk : k < 16) : posI (rng f) k = (rngOf f (List.range k)).length := by
  rw [rng_split f hk]
  refine pos_split (fun x hx => ?_) (fun x hx => ?_) (fun x hx => ?_)
  · obtain ⟨n, hn, ha, _⟩ := rngOf_mem hx
    have := List.mem_range.1 hn
    omega
  · cases hf : f k with
    | none => rw [hf] at hx; simp at hx
    | some v => rw [hf] at hx; simp at hx; subst hx; rfl
  · obtain ⟨n, hn, ha, _⟩ := rngOf_mem hx
    rw [List.mem_range'_1] at hn
    omega

theorem rng_at (f : Int → Option Int) {k : Nat} (hk : k < 16) : (rng f)[posI (rng f) k]? = (((f k).map (It.mk (k : Int))).toList ++ rngOf f (List.range' (k + 1) (15 - k)))[0]? := by
  rw [rng_pos f hk, rng_split f hk, List.append_assoc, List.getElem?_append_right (Nat.le_refl _)]
  simp

theorem rng_has (f : Int → Option Int) {k : Nat} (hk : k < 16) : hasI (rng f) k = (f k).isSome := by
  unfold hasI
  rw [rng_at f hk]
  cases hf : f k with
  | some v => simp
  | none =>
    simp only [Option.map_none, Option.toList_none, List.nil_append, Option.isSome_none]
    split
    · rename_i x hx
      obtain ⟨n, hn, ha, _⟩ := rngOf_mem (List.mem_of_getElem? hx)
      rw [List.mem_range'_1] at hn
      simp
      omega
    · rfl
theorem rng_get (f : Int → Option Int) {k : Nat} (hk : k < 16) : getI (rng f) k = (f k).getD 0 := by
  unfold getI
  rw [rng_has f hk, rng_at f hk]
  cases hf : f k <;> simp

theorem rngOf_upd (f : Int → Option Int) (k v : Int) {r : List Nat} (h : ∀ n : Nat, n ∈ r → (n : Int) ≠ k) : rngOf (upd f k v) r = rngOf f r := by
  unfold rngOf
  refine fm_congr fun n hn => ?_
  unfold upd
  rw [if_neg (h n hn)]

theorem rng_put (f : Int → Option Int) {k : Nat} (hk : k < 16) (v : Int) : putI (rng f) k v = rng (upd f k v) := by
  have hA : rngOf (upd f k v) (List.range k) = rngOf f (List.range k) := rngOf_upd f k v fun n hn => by have := List.mem_range.1 hn; omega
  have hB : rngOf (upd f k v) (List.range' (k + 1) (15 - k)) = rngOf f (List.range' (k + 1) (15 - k)) := rngOf_upd f k v fun n hn => by rw [List.mem_range'_1] at hn; omega
  have hM : ((upd f k v (k : Int)).map (It.mk (k : Int))).toList = [⟨k, v⟩] := by simp [upd]
  rw [rng_split (upd f k v) hk, hA, hB, hM]
  unfold putI insI
  rw [rng_has f hk, rng_pos f hk, rng_split f hk]
  cases hf : f k with
  | some u =>
    simp only [Option.isSome_some, if_true, Option.map_some, Option.toList_some]
    rw [List.append_assoc, List.set_append, if_neg (by omega)]
    simp
  | none =>
    simp only [Option.isSome_none, Option.map_none, Option.toList_none, List.append_nil]
    rw [if_neg (by simp), List.take_append_of_le_length (Nat.le_refl _), List.take_length, List.drop_append_of_le_length (Nat.le_refl _), List.drop_length, List.nil_append]

/-- What is written, what is read of others, by the first i ops. -/
def fW (l : List Ev) : Nat → Int → Option Int
  | 0, _ => none
  | i + 1, k => match l[i]? with
    | some e => if e.kind = 2 ∧ e.key = k then some e.val else fW l i k
    | none => fW l i k
def fR (l : List Ev) : Nat → Int → Option Int
  | 0, _ => none
  | i + 1, k => match l[i]? with
    | some e => if e.kind = 1 ∧ e.key = k ∧ fR l i k = none ∧ fW l i k = none then some e.val else fR l i k
    | none => fR l i k

theorem fW_succ {l : List Ev} {i : Nat} {e : Ev} (h : l[i]? = some e) (k : Int) : fW l (i + 1) k = if e.kind = 2 ∧ e.key = k then some e.val else fW l i k := by
  rw [fW, h]
theorem fR_succ {l : List Ev} {i : Nat} {e : Ev} (h : l[i]? = some e) (k : Int) : fR l (i + 1) k = if e.kind = 1 ∧ e.key = k ∧ fR l i k = none ∧ fW l i k = none then some e.val else fR l i k := by
  rw [fR, h]
theorem fW_eq (l : List Ev) (k : Int) : ∀ i : Nat, i ≤ l.length → fW l i k = if 0 ≤ aheadN l 2 k i then some (valAt l (aheadN l 2 k i)) else none
  | 0, _ => by simp [fW, aheadN]
  | i + 1, hi => by
    have ih := fW_eq l k i (by omega)
    have hl : l[i]? = some (l[i]'(by omega)) := List.getElem?_eq_getElem (by omega)
    unfold fW
    rw [hl]
    dsimp only
    split
    · rename_i h
      rw [aheadN_hit hl h.1 h.2, if_pos (by omega)]
      unfold valAt
      rw [Int.toNat_natCast, hl]
      rfl
    · rename_i h
      rw [aheadN_miss hl h]
      exact ih

theorem wrong_parts {l : List Ev} {i : Nat} (hi : i < l.length) (h : wrongAt l i = 0) : l[i].right = true ∧ (l[i].kind = 1 ∨ l[i].kind = 2) := by
  unfold wrongAt wrongE at h
  rw [List.getElem?_eq_getElem hi] at h
  dsimp only at h
  split at h
  · cases h
  · rename_i h1
    by_cases hr : l[i].right = true
    · refine ⟨hr, ?_⟩
      by_cases h3 : l[i].kind = 1
      · exact .inl h3
      · by_cases h4 : l[i].kind = 2
        · exact .inr h4
        · exact absurd (.inr ⟨h3, h4⟩) h1
    · exact absurd (.inl (by simpa using hr)) h1

theorem fR_eq (l : List Ev) (k : Int) : ∀ i : Nat, i ≤ l.length → (∀ j, j < i → wrongAt l j = 0) → fW l i k = none → fR l i k = if 0 ≤ aheadN l 1 k i then some (valAt l (aheadN l 1 k i)) else none
  | 0, _, _, _ => by simp [fR, aheadN]
  | i + 1, hi, hall, hw => by
    have hil : i < l.length := by omega
    have hl : l[i]? = some l[i] := List.getElem?_eq_getElem hil
    have hw0 : fW l i k = none ∧ ¬ (l[i].kind = 2 ∧ l[i].key = k) := by
      unfold fW at hw
      rw [hl] at hw
      dsimp only at hw
      split at hw
      · cases hw
      · rename_i h; exact ⟨hw, h⟩
    have ih := fR_eq l k i (by omega) (fun j hj => hall j (by omega)) hw0.1
    unfold fR
    rw [hl]
    dsimp only
    by_cases h : l[i].kind = 1 ∧ l[i].key = k
    · rw [aheadN_hit hl h.1 h.2, if_pos (show (0 : Int) ≤ (i : Int) by omega)]
      have hv : valAt l (i : Int) = l[i].val := by unfold valAt; rw [Int.toNat_natCast, hl]; rfl
      rw [hv]
      by_cases hf : fR l i k = none
      · rw [if_pos ⟨h.1, h.2, hf, hw0.1⟩]
      · rw [if_neg (fun e => hf e.2.2.1)]
        rw [ih] at hf ⊢
        by_cases h0 : 0 ≤ aheadN l 1 k i
        · rw [if_pos h0]
          have hwr := hall i (by omega)
          have hp := wrong_parts hil hwr
          have ha2 : ¬ 0 ≤ aheadN l 2 k i := by
            intro e
            have := fW_eq l k i (by omega)
            rw [if_pos e, hw0.1] at this
            cases this
          unfold wrongAt wrongE at hwr
          rw [hl] at hwr
          dsimp only at hwr
          rw [if_neg (by rw [hp.1]; simp; omega), if_neg (by omega), h.2, if_neg ha2, if_pos h0] at hwr
          split at hwr
          · rename_i e; rw [e]
          · cases hwr
        · rw [if_neg h0] at hf; exact absurd rfl hf
    · rw [aheadN_miss hl h, if_neg (fun e => h ⟨e.1, e.2.1⟩)]
      exact ih

theorem firstD_to {l : List Ev} {k : Int} {j : Nat} (hj : j ≤ l.length) (h : ∀ m (hm : m < l.length), m < j → l[m].key ≠ k) : firstD l k 0 = firstD l k j := by
  induction j with
  | zero => rfl
  | succ j ih =>
    rw [ih (by omega) (fun m hm hmj => h m hm (by omega)), firstD_step (List.getElem?_eq_getElem (show j < l.length by omega)), if_neg (h j (by omega) (by omega))]

/-- The first op of a key among the first i. -/
theorem fR_first (l : List Ev) (k : Int) : ∀ i : Nat, i ≤ l.length → (∀ j, j < i → wrongAt l j = 0) →
    ((fR l i k = none ∧ fW l i k = none ∧ ∀ m (hm : m < l.length), m < i → l[m].key ≠ k) ∨
     ∃ j, ∃ hj : j < l.length, j < i ∧ l[j].key = k ∧ (∀ m (hm : m < l.length), m < j → l[m].key ≠ k) ∧ ((l[j].kind = 1 ∧ fR l i k = some l[j].val) ∨ (l[j].kind = 2 ∧ fR l i k = none ∧ fW l i k ≠ none)))
  | 0, _, _ => .inl ⟨rfl, rfl, fun m hm h => absurd h (by omega)⟩
  | i + 1, hi, hall => by
    have hil : i < l.length := by omega
    have hl : l[i]? = some l[i] := List.getElem?_eq_getElem hil
    have hp := wrong_parts hil (hall i (by omega))
    rw [fR_succ hl, fW_succ hl]
    rcases fR_first l k i (by omega) (fun j hj => hall j (by omega)) with ⟨h1, h2, h3⟩ | ⟨j, hj, hji, h1, h2, h3⟩
    · by_cases hk : l[i].key = k
      · refine .inr ⟨i, hil, by omega, hk, fun m hm hmi => h3 m hm hmi, ?_⟩
        rcases hp.2 with hk1 | hk2
        · exact .inl ⟨hk1, by rw [if_pos ⟨hk1, hk, h1, h2⟩]⟩
        · refine .inr ⟨hk2, by rw [if_neg (by omega)]; exact h1, by rw [if_pos ⟨hk2, hk⟩]; simp⟩
      · refine .inl ⟨by rw [if_neg (fun e => hk e.2.1)]; exact h1, by rw [if_neg (fun e => hk e.2)]; exact h2, fun m hm hmi => ?_⟩
        by_cases hme : m = i
        · subst hme; exact hk
        · exact h3 m hm (by omega)
    · refine .inr ⟨j, hj, by omega, h1, h2, ?_⟩
      rcases h3 with ⟨h4, h5⟩ | ⟨h4, h5, h6⟩
      · exact .inl ⟨h4, by rw [if_neg (fun e => by rw [h5] at e; exact absurd e.2.2.1 (by simp))]; exact h5⟩
      · refine .inr ⟨h4, by rw [if_neg (fun e => h6 e.2.2.2)]; exact h5, ?_⟩
        split
        · simp
        · exact h6

theorem readOf_eq {l : List Ev} (k : Int) (hall : ∀ j, j < l.length → wrongAt l j = 0) : readOf l k = (fR l l.length k).map (It.mk k) := by
  rcases fR_first l k l.length (Nat.le_refl _) hall with ⟨h1, h2, h3⟩ | ⟨j, hj, hji, h1, h2, h3⟩
  · unfold readOf
    rw [firstD_to (Nat.le_refl _) h3, firstD_end, h1]
    rfl
  · have hl : l[j]? = some l[j] := List.getElem?_eq_getElem hj
    have hf : firstD l k 0 = j := by rw [firstD_to (by omega) h2, firstD_step hl, if_pos h1]
    unfold readOf
    rw [hf]
    have hka : kindAt l (j : Int) = l[j].kind := by unfold kindAt; rw [Int.toNat_natCast, hl]; rfl
    have hva : valAt l (j : Int) = l[j].val := by unfold valAt; rw [Int.toNat_natCast, hl]; rfl
    rw [hka, hva]
    rcases h3 with ⟨h4, h5⟩ | ⟨h4, h5, _⟩
    · rw [if_pos ⟨by omega, h4⟩, h5]; rfl
    · rw [if_neg (by omega), h5]; rfl
theorem writeOf_eq (l : List Ev) (k : Int) : writeOf l k = (fW l l.length k).map (It.mk k) := by
  rw [fW_eq l k l.length (Nat.le_refl _)]
  unfold writeOf
  split <;> rfl

theorem lookR_right {l : List Ev} (hall : ∀ j, j < l.length → wrongAt l j = 0) : lookR l = ⟨rng (fR l l.length), rng (fW l l.length), 0, 0⟩ := by
  unfold lookR
  rw [firstBad_none hall]
  dsimp only
  congr 1
  · unfold readsTo rng rngOf
    refine fm_congr fun n _ => ?_
    exact readOf_eq _ hall
  · unfold writesTo rng rngOf
    refine fm_congr fun n _ => ?_
    exact writeOf_eq _ _
theorem lookR_wrong {l : List Ev} {k : Nat} (hk : k < l.length) (hall : ∀ j, j < k → wrongAt l j = 0) {x : Int} (hx : wrongAt l k = x) (h0 : x ≠ 0) : lookR l = ⟨[], [], k, x⟩ := by
  unfold lookR
  rw [firstBad_some hk hall (by rw [hx]; exact h0)]
  simp [hx]

section
variable {l : List Ev} {i : Nat} {e : Ev}
theorem wrongAt_eq (he : l[i]? = some e) : wrongAt l i = wrongE l i e := by unfold wrongAt; rw [he]
theorem step_bad (he : l[i]? = some e) (h : e.right = false ∨ (e.kind ≠ 1 ∧ e.kind ≠ 2)) : wrongAt l i = 1 := by
  rw [wrongAt_eq he]; unfold wrongE; rw [if_pos h]
theorem step_write (he : l[i]? = some e) (hr : e.right = true) (hk : e.kind = 2) : wrongAt l i = 0 ∧ fR l (i + 1) = fR l i ∧ fW l (i + 1) = upd (fW l i) e.key e.val := by
  refine ⟨by rw [wrongAt_eq he]; unfold wrongE; rw [if_neg (by rw [hr]; simp; omega), if_pos hk], ?_, ?_⟩
  · funext k; rw [fR_succ he, if_neg (by omega)]
  · funext k
    rw [fW_succ he]
    unfold upd
    by_cases h : k = e.key
    · rw [if_pos ⟨hk, h.symm⟩, if_pos h]
    · rw [if_neg (fun x => h x.2.symm), if_neg h]
theorem ahead2 (hi : i < l.length) : (fW l i e.key = none → ¬ 0 ≤ aheadN l 2 e.key i) ∧ ∀ own, fW l i e.key = some own → 0 ≤ aheadN l 2 e.key i ∧ valAt l (aheadN l 2 e.key i) = own := by
  have := fW_eq l e.key i (by omega)
  constructor
  · intro h h0; rw [h, if_pos h0] at this; cases this
  · intro own h
    rw [h] at this
    split at this
    · rename_i h0; injection this with this; exact ⟨h0, this.symm⟩
    · cases this
theorem ahead1 (hi : i < l.length) (hall : ∀ j, j < i → wrongAt l j = 0) (hw : fW l i e.key = none) : (fR l i e.key = none → ¬ 0 ≤ aheadN l 1 e.key i) ∧ ∀ own, fR l i e.key = some own → 0 ≤ aheadN l 1 e.key i ∧ valAt l (aheadN l 1 e.key i) = own := by
  have := fR_eq l e.key i (by omega) hall hw
  constructor
  · intro h h0; rw [h, if_pos h0] at this; cases this
  · intro own h
    rw [h] at this
    split at this
    · rename_i h0; injection this with this; exact ⟨h0, this.symm⟩
    · cases this
theorem step_own (hi : i < l.length) (he : l[i]? = some e) (hr : e.right = true) (hk : e.kind = 1) {own : Int} (hw : fW l i e.key = some own) (hne : own ≠ e.val) : wrongAt l i = 10 := by
  obtain ⟨h1, h2⟩ := (ahead2 (e := e) hi).2 own hw
  rw [wrongAt_eq he]; unfold wrongE
  rw [if_neg (by rw [hr]; simp; omega), if_neg (by omega), if_pos h1, h2, if_neg hne]
theorem step_same (he : l[i]? = some e) (hk : e.kind = 1) (h : fR l i e.key ≠ none ∨ fW l i e.key ≠ none) : fR l (i + 1) = fR l i ∧ fW l (i + 1) = fW l i := by
  constructor
  · funext k
    rw [fR_succ he, if_neg]
    rintro ⟨_, rfl, h1, h2⟩
    rcases h with h | h
    · exact h h1
    · exact h h2
  · funext k; rw [fW_succ he, if_neg (by omega)]
theorem step_mine (hi : i < l.length) (he : l[i]? = some e) (hr : e.right = true) (hk : e.kind = 1) {own : Int} (hw : fW l i e.key = some own) (hne : own = e.val) : wrongAt l i = 0 ∧ fR l (i + 1) = fR l i ∧ fW l (i + 1) = fW l i := by
  obtain ⟨h1, h2⟩ := (ahead2 (e := e) hi).2 own hw
  refine ⟨?_, step_same he hk (.inr (by rw [hw]; simp))⟩
  rw [wrongAt_eq he]; unfold wrongE
  rw [if_neg (by rw [hr]; simp; omega), if_neg (by omega), if_pos h1, h2, if_pos hne]
theorem step_other (hi : i < l.length) (he : l[i]? = some e) (hall : ∀ j, j < i → wrongAt l j = 0) (hr : e.right = true) (hk : e.kind = 1) (hw : fW l i e.key = none) {old : Int} (hf : fR l i e.key = some old) (hne : old ≠ e.val) : wrongAt l i = 11 := by
  obtain ⟨h1, h2⟩ := (ahead1 (e := e) hi hall hw).2 old hf
  rw [wrongAt_eq he]; unfold wrongE
  rw [if_neg (by rw [hr]; simp; omega), if_neg (by omega), if_neg ((ahead2 (e := e) hi).1 hw), if_pos h1, h2, if_neg hne]
theorem step_known (hi : i < l.length) (he : l[i]? = some e) (hall : ∀ j, j < i → wrongAt l j = 0) (hr : e.right = true) (hk : e.kind = 1) (hw : fW l i e.key = none) {old : Int} (hf : fR l i e.key = some old) (hne : old = e.val) : wrongAt l i = 0 ∧ fR l (i + 1) = fR l i ∧ fW l (i + 1) = fW l i := by
  obtain ⟨h1, h2⟩ := (ahead1 (e := e) hi hall hw).2 old hf
  refine ⟨?_, step_same he hk (.inl (by rw [hf]; simp))⟩
  rw [wrongAt_eq he]; unfold wrongE
  rw [if_neg (by rw [hr]; simp; omega), if_neg (by omega), if_neg ((ahead2 (e := e) hi).1 hw), if_pos h1, h2, if_pos hne]
theorem step_future (hi : i < l.length) (he : l[i]? = some e) (hall : ∀ j, j < i → wrongAt l j = 0) (hr : e.right = true) (hk : e.kind = 1) (hw : fW l i e.key = none) (hf : fR l i e.key = none) (hu : future l i e.key e.val = true) : wrongAt l i = 9 := by
  rw [wrongAt_eq he]; unfold wrongE
  rw [if_neg (by rw [hr]; simp; omega), if_neg (by omega), if_neg ((ahead2 (e := e) hi).1 hw), if_neg ((ahead1 (e := e) hi hall hw).1 hf), if_pos hu]
theorem step_read (hi : i < l.length) (he : l[i]? = some e) (hall : ∀ j, j < i → wrongAt l j = 0) (hr : e.right = true) (hk : e.kind = 1) (hw : fW l i e.key = none) (hf : fR l i e.key = none) (hu : future l i e.key e.val = false) : wrongAt l i = 0 ∧ fR l (i + 1) = upd (fR l i) e.key e.val ∧ fW l (i + 1) = fW l i := by
  refine ⟨?_, ?_, ?_⟩
  · rw [wrongAt_eq he]; unfold wrongE
    rw [if_neg (by rw [hr]; simp; omega), if_neg (by omega), if_neg ((ahead2 (e := e) hi).1 hw), if_neg ((ahead1 (e := e) hi hall hw).1 hf), if_neg (by rw [hu]; simp)]
  · funext k
    rw [fR_succ he]
    unfold upd
    by_cases h : k = e.key
    · subst h; rw [if_pos ⟨hk, rfl, hf, hw⟩, if_pos rfl]
    · rw [if_neg (fun x => h x.2.1.symm), if_neg h]
  · funext k; rw [fW_succ he, if_neg (by omega)]
theorem right_key {e : Ev} (hr : e.right = true) (hk : e.kind = 1 ∨ e.kind = 2) : ∃ k : Nat, k < 16 ∧ e.key = k := by
  unfold Ev.right itemB belowB at hr
  have h : (e.kind == 1 || e.kind == 2) = true := by rcases hk with h | h <;> simp [h]
  rw [h] at hr
  simp at hr
  exact ⟨e.key.toNat, by omega, by omega⟩
end
end Go.Proofs.Ytapkbinlhmddiaa
