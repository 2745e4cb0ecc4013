/-
  Plain laws: rows of keys as functions; what a look at ops keeps, step by step. No program in sight.
-/
import Derived.Test.YtphcebgpllecjaaGreatDoorProg
import Derived.Test.YtphcebgpllecjaaGreatDoorC08
import Derived.Test.YtphcebgpllecjaaGreatDoorC01
import Derived.Test.YtphcebgpllecjaaGreatDoorC02
set_option linter.unusedVariables false
set_option linter.unusedSimpArgs false
namespace Go.Proofs.YtphcebgpllecjaaGreatDoor
open Go.RowKit Go.Inq

theorem fm_congr {α β : Type} {f g : α → Option β} : ∀ {l : List α}, (∀ x, x ∈ l → f x = g x) → l.filterMap f = l.filterMap g
  | [], _ => rfl
  | x :: r, h => by rw [List.filterMap_cons, List.filterMap_cons, h x (by simp), fm_congr (l := r) (fun y hy => h y (by simp [hy]))]

def upd (f : Int → Option Int) (k v : Int) : Int → Option Int := fun j => if j = k then some v else f j
/-- The items of a function on the keys. -/
def rngOf (f : Int → Option Int) (r : List Nat) : List It := r.filterMap fun (n : Nat) => (f (n : Int)).map (It.mk (n : Int))
def rng (f : Int → Option Int) : List It := rngOf f (List.range 16)

theorem rng_split (f : Int → Option Int) {k : Nat} (hk : k < 16) : rng f = rngOf f (List.range k) ++ ((f k).map (It.mk (k : Int))).toList ++ rngOf f (List.range' (k + 1) (15 - k)) := by
  have e : List.range 16 = List.range k ++ [k] ++ List.range' (k + 1) (15 - k) := by
    rw [List.range_eq_range', List.range_eq_range', show (16 : Nat) = k + (1 + (15 - k)) by omega, ← List.range'_append_1, ← List.range'_append_1]
    simp
  unfold rng
  rw [e]
  unfold rngOf
  rw [List.filterMap_append, List.filterMap_append]
  congr 2

theorem rngOf_mem {f : Int → Option Int} {r : List Nat} {x : It} (h : x ∈ rngOf f r) : ∃ n : Nat, n ∈ r ∧ x.a = n ∧ f n = some x.b := by
  unfold rngOf at h
  rw [List.mem_filterMap] at h
  obtain ⟨n, hn, h⟩ := h
  cases hf : f n with
  | none => rw [hf] at h; cases h
  | some v =>
    rw [hf] at h
    injection h with h
    subst h
    exact ⟨n, hn, rfl, hf⟩

theorem rng_len (f : Int → Option Int) : (rng f).length ≤ 16 := by
  unfold rng rngOf
  exact Nat.le_trans (List.length_filterMap_le _ _) (by simp)

theorem rngOf_rising (f : Int → Option Int) {r : List Nat} (h : r.Pairwise (· < ·)) : Rising (rngOf f r) := by
  unfold Rising
  induction r with
  | nil => exact List.Pairwise.nil
  | cons n r ih =>
    rw [List.pairwise_cons] at h
    unfold rngOf
    rw [List.filterMap_cons]
    split
    · exact ih h.2
    · rename_i y hy
      rw [List.pairwise_cons]
      refine ⟨fun x hx => ?_, ih h.2⟩
      obtain ⟨m, hm, hxa, _⟩ := rngOf_mem (r := r) hx
      cases hf : f n with
      | none => rw [hf] at hy; cases hy
      | some v =>
        rw [hf] at hy
        injection hy with hy
        subst hy
        have := h.1 m hm
        show (n : Int) < x.a
        omega
theorem rng_rising (f : Int → Option Int) : Rising (rng f) := rngOf_rising f (by rw [List.range_eq_range']; exact List.pairwise_lt_range')

theorem pos_split {A M B : List It} {k : Int} (hA : ∀ x ∈ A, x.a < k) (hM : ∀ x ∈ M, x.a = k) (hB : ∀ x ∈ B, k < x.a) : posI (A ++ M ++ B) k = A.length := by
  refine posI_eq (by simp) (fun j hj hja => ?_) (fun hj => ?_)
  · have h1 : (A ++ M ++ B)[j]? = A[j]? := by rw [List.append_assoc, List.getElem?_append_left hja]
    rw [List.getElem?_eq_getElem hj] at h1
    exact hA _ (List.mem_of_getElem? h1.symm)
  · have h1 : (A ++ M ++ B)[A.length] ∈ M ++ B := by
      have : (A ++ M ++ B)[A.length]? = (M ++ B)[0]? := by rw [List.append_assoc, List.getElem?_append_right (Nat.le_refl _)]; simp
      rw [List.getElem?_eq_getElem hj] at this
      exact List.mem_of_getElem? this.symm
    rcases List.mem_append.1 h1 with h | h
    · have := hM _ h; omega
    · have := hB _ h; omega

theorem rng_pos (f : Int → Option Int) {k : Nat} (hk : k < 16) : posI (rng f) k = (rngOf f (List.range k)).length := by
  rw [rng_split f hk]
  refine pos_split (fun x hx => ?_) (fun x hx => ?_) (fun x hx => ?_)
  · obtain ⟨n, hn, ha, _⟩ := rngOf_mem hx
    have := List.mem_range.1 hn
    omega
  · cases hf : f k with
    | none => rw [hf] at hx; simp at hx
    | some v => rw [hf] at hx; simp at hx; subst hx; rfl
  · obtain ⟨n, hn, ha, _⟩ := rngOf_mem hx
    rw [List.mem_range'_1] at hn
    omega

theorem rng_at (f : Int → Option Int) {k : Nat} (hk : k < 16) : (rng f)[posI (rng f) k]? = (((f k).map (It.mk (k : Int))).toList ++ rngOf f (List.range' (k + 1) (15 - k)))[0]? := by
  rw [rng_pos f hk, rng_split f hk, List.append_assoc, List.getElem?_append_right (Nat.le_refl _)]
  simp

theorem rng_has (f : Int → Option Int) {k : Nat} (hk : k < 16) : hasI (rng f) k = (f k).isSome := by
  unfold hasI
  rw [rng_at f hk]
  cases hf : f k with
  | some v => simp
  | none =>
    simp only [Option.map_none, Option.toList_none, List.nil_append, Option.isSome_none]
    split
    · rename_i x hx
      obtain ⟨n, hn, ha, _⟩ := rngOf_mem (List.mem_of_getElem? hx)
      rw [List.mem_range'_1] at hn
      simp
      omega
    · rfl
theorem rng_get (f : Int → Option Int) {k : Nat} (hk : k < 16) : getI (rng f) k = (f k).getD 0 := by
  unfold getI
  rw [rng_has f hk, rng_at f hk]
  cases hf : f k <;> simp

theorem rngOf_upd (f : Int → Option Int) (k v : Int) {r : List Nat} (h : ∀ n : Nat, n ∈ r → (n : Int) ≠ k) : rngOf (upd f k v) r = rngOf f r := by
  unfold rngOf
  refine fm_congr fun n hn => ?_
  unfold upd
  rw [if_neg (h n hn)]

theorem rng_put (f : Int → Option Int) {k : Nat} (hk : k < 16) (v : Int) : putI (rng f) k v = rng (upd f k v) := by
  have hA : rngOf (upd f k v) (List.range k) = rngOf f (List.range k) := rngOf_upd f k v fun n hn => by have := List.mem_range.1 hn; omega
  have hB : rngOf (upd f k v) (List.range' (k + 1) (15 - k)) = rngOf f (List.range' (k + 1) (15 - k)) := rngOf_upd f k v fun n hn => by rw [List.mem_range'_1] at hn; omega
  have hM : ((upd f k v (k : Int)).map (It.mk (k : Int))).toList = [⟨k, v⟩] := by simp [upd]
  rw [rng_split (upd f k v) hk, hA, hB, hM]
  unfold putI insI
  rw [rng_has f hk, rng_pos f hk, rng_split f hk]
  cases hf : f k with
  | some u =>
    simp only [Option.isSome_some, if_true, Option.map_some, Option.toList_some]
    rw [List.append_assoc, List.set_append, if_neg (by omega)]
    simp
  | none =>
    simp only [Option.isSome_none, Option.map_none, Option.toList_none, List.append_nil]
    rw [if_neg (by simp), List.take_append_of_le_length (Nat.le_refl _), List.take_length, List.drop_append_of_le_length (Nat.le_refl _), List.drop_length, List.nil_append]

/-- What is written, what is read of others, by the first i ops. -/
def fW (l : List Ev) : Nat → Int → Option Int
  | 0, _ => none
  | i + 1, k => match l[i]? with
    | some e => if e.kind = 2 ∧ e.key = k then some e.val else fW l i k
    | none => fW l i k
def fR (l : List Ev) : Nat → Int → Option Int
  | 0, _ => none
  | i + 1, k => match l[i]? with
    | some e => if e.kind = 1 ∧ e.key = k ∧ fR l i k = none ∧ fW l i k = none then some e.val else fR l i k
    | none => fR l i k

theorem fW_succ {l : List Ev} {i : Nat} {e : Ev} (h : l[i]? = some e) (k : Int) : fW l (i + 1) k = if e.kind = 2 ∧ e.key = k then some e.val else fW l i k := by
  rw [fW, h]
theorem fR_succ {l : List Ev} {i : Nat} {e : Ev} (h : l[i]? = some e) (k : Int) : fR l (i + 1) k = if e.kind = 1 ∧ e.key = k ∧ fR l i k = none ∧ fW l i k = none then some e.val else fR l i k := by
  rw [fR, h]
theorem fW_eq (l : List Ev) (k : Int) : ∀ i : Nat, i ≤ l.length → fW l i k = if 0 ≤ aheadN l 2 k i then some (valAt l (aheadN l 2 k i)) else none
  | 0, _ => by simp [fW, aheadN]
  | i + 1, hi => by
    have ih := fW_eq l k i (by omega)
    have hl : l[i]? = some (l[i]'(by omega)) := List.getElem?_eq_getElem (by omega)
    unfold fW
    rw [hl]
    dsimp only
    split
    · rename_i h
      rw [aheadN_hit hl h.1 h.2, if_pos (by omega)]
      unfold valAt
      rw [Int.toNat_natCast, hl]
      rfl
    · rename_i h
      rw [aheadN_miss hl h]
      exact ih

theorem wrong_parts {l : List Ev} {i : Nat} (hi : i < l.length) (h : wrongAt l i = 0) : l[i].right = true ∧ (l[i].kind = 1 ∨ l[i].kind = 2) := by
  unfold wrongAt wrongE at h
  rw [List.getElem?_eq_getElem hi] at h
  dsimp only at h
  split at h
  · cases h
  · rename_i h1
    by_cases hr : l[i].right = true
    · refine ⟨hr, ?_⟩
      by_cases h3 : l[i].kind = 1
      · exact .inl h3
      · by_cases h4 : l[i].kind = 2
        · exact .inr h4
        · exact absurd (.inr ⟨h3, h4⟩) h1
    · exact absurd (.inl (by simpa using hr)) h1

theorem fR_eq (l : List Ev) (k : Int) : ∀ i : Nat, i ≤ l.length → (∀ j, j < i → wrongAt l j = 0) → fW l i k = none → fR l i k = if 0 ≤ aheadN l 1 k i then some (valAt l (aheadN l 1 k i)) else none
  | 0, _, _, _ => by simp [fR, aheadN]
  | i + 1, hi, hall, hw => by
    have hil : i < l.length := by omega
    have hl : l[i]? = some l[i] := List.getElem?_eq_getElem hil
    have hw0 : fW l i k = none ∧ ¬ (l[i].kind = 2 ∧ l[i].key = k) := by
      unfold fW at hw
      rw [hl] at hw
      dsimp only at hw
      split at hw
      · cases hw
      · rename_i h; exact ⟨hw, h⟩
    have ih := fR_eq l k i (by omega) (fun j hj => hall j (by omega)) hw0.1
    unfold fR
    rw [hl]
    dsimp only
    by_cases h : l[i].kind = 1 ∧ l[i].key = k
    · rw [aheadN_hit hl h.1 h.2, if_pos (show (0 : Int) ≤ (i : Int) by omega)]
      have hv : valAt l (i : Int) = l[i].val := by unfold valAt; rw [Int.toNat_natCast, hl]; rfl
      rw [hv]
      by_cases hf : fR l i k = none
      · rw [if_pos ⟨h.1, h.2, hf, hw0.1⟩]
      · rw [if_neg (fun e => hf e.2.2.1)]
        rw [ih] at hf ⊢
        by_cases h0 : 0 ≤ aheadN l 1 k i
        · rw [if_pos h0]
          have hwr := hall i (by omega)
          have hp := wrong_parts hil hwr
          have ha2 : ¬ 0 ≤ aheadN l 2 k i := by
            intro e
            have := fW_eq l k i (by omega)
            rw [if_pos e, hw0.1] at this
            cases this
          unfold wrongAt wrongE at hwr
          rw [hl] at hwr
          dsimp only at hwr
          rw [if_neg (by rw [hp.1]; simp; omega), if_neg (by omega), h.2, if_neg ha2, if_pos h0] at hwr
          split at hwr
          · rename_i e; rw [e]
          · cases hwr
        · rw [if_neg h0] at hf; exact absurd rfl hf
    · rw [aheadN_miss hl h, if_neg (fun e => h ⟨e.1, e.2.1⟩)]
      exact ih

theorem firstD_to {l : List Ev} {k : Int} {j : Nat} (hj : j ≤ l.length) (h : ∀ m (hm : m < l.length), m < j → l[m].key ≠ k) : firstD l k 0 = firstD l k j := by
  induction j with
  | zero => rfl
  | succ j ih =>
    rw [ih (by omega) (fun m hm hmj => h m hm (by omega)), firstD_step (List.getElem?_eq_getElem (show j < l.length by omega)), if_neg (h j (by omega) (by omega))]

/-- The first op of a key among the first i. -/
theorem fR_first (l : List Ev) (k : Int) : ∀ i : Nat, i ≤ l.length → (∀ j, j < i → wrongAt l j = 0) →
    ((fR l i k = none ∧ fW l i k = none ∧ ∀ m (hm : m < l.length), m < i → l[m].key ≠ k) ∨
     ∃ j, ∃ hj : j < l.length, j < i ∧ l[j].key = k ∧ (∀ m (hm : m < l.length), m < j → l[m].key ≠ k) ∧ ((l[j].kind = 1 ∧ fR l i k = some l[j].val) ∨ (l[j].kind = 2 ∧ fR l i k = none ∧ fW l i k ≠ none)))
  | 0, _, _ => .inl ⟨rfl, rfl, fun m hm h => absurd h (by omega)⟩
  | i + 1, hi, hall => by
    have hil : i < l.length := by omega
    have hl : l[i]? = some l[i] := List.getElem?_eq_getElem hil
    have hp := wrong_parts hil (hall i (by omega))
    rw [fR_succ hl, fW_succ hl]
    rcases fR_first l k i (by omega) (fun j hj => hall j (by omega)) with ⟨h1, h2, h3⟩ | ⟨j, hj, hji, h1, h2, h3⟩
    · by_cases hk : l[i].key = k
      · refine .inr ⟨i, hil, by omega, hk, fun m hm hmi => h3 m hm hmi, ?_⟩
        rcases hp.2 with hk1 | hk2
        · exact .inl ⟨hk1, by rw [if_pos ⟨hk1, hk, h1, h2⟩]⟩
        · refine .inr ⟨hk2, by rw [if_neg (by omega)]; exact h1, by rw [if_pos ⟨hk2, hk⟩]; simp⟩
      · refine .inl ⟨by rw [if_neg (fun e => hk e.2.1)]; exact h1, by rw [if_neg (fun e => hk e.2)]; exact h2, fun m hm hmi => ?_⟩
        by_cases hme : m = i
        · subst hme; exact hk
        · exact h3 m hm (by omega)
    · refine .inr ⟨j, hj, by omega, h1, h2, ?_⟩
      rcases h3 with ⟨h4, h5⟩ | ⟨h4, h5, h6⟩
      · exact .inl ⟨h4, by rw [if_neg (fun e => by rw [h5] at e; exact absurd e.2.2.1 (by simp))]; exact h5⟩
      · refine .inr ⟨h4, by rw [if_neg (fun e => h6 e.2.2.2)]; exact h5, ?_⟩
        split
        · simp
        · exact h6

theorem readOf_eq {l : List Ev} (k : Int) (hall : ∀ j, j < l.length → wrongAt l j = 0) : readOf l k = (fR l l.length k).map (It.mk k) := by
  rcases fR_first l k l.length (Nat.le_refl _) hall with ⟨h1, h2, h3⟩ | ⟨j, hj, hji, h1, h2, h3⟩
  · unfold readOf
    rw [firstD_to (Nat.le_refl _) h3, firstD_end, h1]
    rfl
  · have hl : l[j]? = some l[j] := List.getElem?_eq_getElem hj
    have hf : firstD l k 0 = j := by rw [firstD_to (by omega) h2, firstD_step hl, if_pos h1]
    unfold readOf
    rw [hf]
    have hka : kindAt l (j : Int) = l[j].kind := by unfold kindAt; rw [Int.toNat_natCast, hl]; rfl
    have hva : valAt l (j : Int) = l[j].val := by unfold valAt; rw [Int.toNat_natCast, hl]; rfl
    rw [hka, hva]
    rcases h3 with ⟨h4, h5⟩ | ⟨h4, h5, _⟩
    · rw [if_pos ⟨by omega, h4⟩, h5]; rfl
    · rw [if_neg (by omega), h5]; rfl
theorem writeOf_eq (l : List Ev) (k : Int) : writeOf l k = (fW l l.length k).map (It.mk k) := by
  rw [fW_eq l k l.length (Nat.le_refl _)]
  unfold writeOf
  split <;> rfl

theorem lookR_right {l : List Ev} (hall : ∀ j, j < l.length → wrongAt l j = 0) : lookR l = ⟨rng (fR l l.length), rng (fW l l.length), 0, 0⟩ := by
  unfold lookR
  rw [firstBad_none hall]
  dsimp only
  congr 1
  · unfold readsTo rng rngOf
    refine fm_congr fun n _ => ?_
    exact readOf_eq _ hall
  · unfold writesTo rng rngOf
    refine fm_congr fun n _ => ?_
    exact writeOf_eq _ _
theorem lookR_wrong {l : List Ev} {k : Nat} (hk : k < l.length) (hall : ∀ j, j < k → wrongAt l j = 0) {x : Int} (hx : wrongAt l k = x) (h0 : x ≠ 0) : lookR l = ⟨[], [], k, x⟩ := by
  unfold lookR
  rw [firstBad_some hk hall (by rw [hx]; exact h0)]
  simp [hx]

section
variable {l : List Ev} {i : Nat} {e : Ev}
theorem wrongAt_eq (he : l[i]? = some e) : wrongAt l i = wrongE l i e := by unfold wrongAt; rw [he]
theorem step_bad (he : l[i]? = some e) (h : e.right = false ∨ (e.kind ≠ 1 ∧ e.kind ≠ 2)) : wrongAt l i = 1 := by
  rw [wrongAt_eq he]; unfold wrongE; rw [if_pos h]
theorem step_write (he : l[i]? = some e) (hr : e.right = true) (hk : e.kind = 2) : wrongAt l i = 0 ∧ fR l (i + 1) = fR l i ∧ fW l (i + 1) = upd (fW l i) e.key e.val := by
  refine ⟨by rw [wrongAt_eq he]; unfold wrongE; rw [if_neg (by rw [hr]; simp; omega), if_pos hk], ?_, ?_⟩
  · funext k; rw [fR_succ he, if_neg (by omega)]
  · funext k
    rw [fW_succ he]
    unfold upd
    by_cases h : k = e.key
    · rw [if_pos ⟨hk, h.symm⟩, if_pos h]
    · rw [if_neg (fun x => h x.2.symm), if_neg h]
theorem ahead2 (hi : i < l.length) : (fW l i e.key = none → ¬ 0 ≤ aheadN l 2 e.key i) ∧ ∀ own, fW l i e.key = some own → 0 ≤ aheadN l 2 e.key i ∧ valAt l (aheadN l 2 e.key i) = own := by
  have := fW_eq l e.key i (by omega)
  constructor
  · intro h h0; rw [h, if_pos h0] at this; cases this
  · intro own h
    rw [h] at this
    split at this
    · rename_i h0; injection this with this; exact ⟨h0, this.symm⟩
    · cases this
theorem ahead1 (hi : i < l.length) (hall : ∀ j, j < i → wrongAt l j = 0) (hw : fW l i e.key = none) : (fR l i e.key = none → ¬ 0 ≤ aheadN l 1 e.key i) ∧ ∀ own, fR l i e.key = some own → 0 ≤ aheadN l 1 e.key i ∧ valAt l (aheadN l 1 e.key i) = own := by
  have := fR_eq l e.key i (by omega) hall hw
  constructor
  · intro h h0; rw [h, if_pos h0] at this; cases this
  · intro own h
    rw [h] at this
    split at this
    · rename_i h0; injection this with this; exact ⟨h0, this.symm⟩
    · cases this
theorem step_own (hi : i < l.length) (he : l[i]? = some e) (hr : e.right = true) (hk : e.kind = 1) {own : Int} (hw : fW l i e.key = some own) (hne : own ≠ e.val) : wrongAt l i = 10 := by
  obtain ⟨h1, h2⟩ := (ahead2 (e := e) hi).2 own hw
  rw [wrongAt_eq he]; unfold wrongE
  rw [if_neg (by rw [hr]; simp; omega), if_neg (by omega), if_pos h1, h2, if_neg hne]
theorem step_same (he : l[i]? = some e) (hk : e.kind = 1) (h : fR l i e.key ≠ none ∨ fW l i e.key ≠ none) : fR l (i + 1) = fR l i ∧ fW l (i + 1) = fW l i := by
  constructor
  · funext k
    rw [fR_succ he, if_neg]
    rintro ⟨_, rfl, h1, h2⟩
    rcases h with h | h
    · exact h h1
    · exact h h2
  · funext k; rw [fW_succ he, if_neg (by omega)]
theorem step_mine (hi : i < l.length) (he : l[i]? = some e) (hr : e.right = true) (hk : e.kind = 1) {own : Int} (hw : fW l i e.key = some own) (hne : own = e.val) : wrongAt l i = 0 ∧ fR l (i + 1) = fR l i ∧ fW l (i + 1) = fW l i := by
  obtain ⟨h1, h2⟩ := (ahead2 (e := e) hi).2 own hw
  refine ⟨?_, step_same he hk (.inr (by rw [hw]; simp))⟩
  rw [wrongAt_eq he]; unfold wrongE
  rw [if_neg (by rw [hr]; simp; omega), if_neg (by omega), if_pos h1, h2, if_pos hne]
theorem step_other (hi : i < l.length) (he : l[i]? = some e) (hall : ∀ j, j < i → wrongAt l j = 0) (hr : e.right = true) (hk : e.kind = 1) (hw : fW l i e.key = none) {old : Int} (hf : fR l i e.key = some old) (hne : old ≠ e.val) : wrongAt l i = 11 := by
  obtain ⟨h1, h2⟩ := (ahead1 (e := e) hi hall hw).2 old hf
  rw [wrongAt_eq he]; unfold wrongE
  rw [if_neg (by rw [hr]; simp; omega), if_neg (by omega), if_neg ((ahead2 (e := e) hi).1 hw), if_pos h1, h2, if_neg hne]
theorem step_known (hi : i < l.length) (he : l[i]? = some e) (hall : ∀ j, j < i → wrongAt l j = 0) (hr : e.right = true) (hk : e.kind = 1) (hw : fW l i e.key = none) {old : Int} (hf : fR l i e.key = some old) (hne : old = e.val) : wrongAt l i = 0 ∧ fR l (i + 1) = fR l i ∧ fW l (i + 1) = fW l i := by
  obtain ⟨h1, h2⟩ := (ahead1 (e := e) hi hall hw).2 old hf
  refine ⟨?_, step_same he hk (.inl (by rw [hf]; simp))⟩
  rw [wrongAt_eq he]; unfold wrongE
  rw [if_neg (by rw [hr]; simp; omega), if_neg (by omega), if_neg ((ahead2 (e := e) hi).1 hw), if_pos h1, h2, if_pos hne]
theorem step_future (hi : i < l.length) (he : l[i]? = some e) (hall : ∀ j, j < i → wrongAt l j = 0) (hr : e.right = true) (hk : e.kind = 1) (hw : fW l i e.key = none) (hf : fR l i e.key = none) (hu : future l i e.key e.val = true) : wrongAt l i = 9 := by
  rw [wrongAt_eq he]; unfold wrongE
  rw [if_neg (by rw [hr]; simp; omega), if_neg (by omega), if_neg ((ahead2 (e := e) hi).1 hw), if_neg ((ahead1 (e := e) hi hall hw).1 hf), if_pos hu]
theorem step_read (hi : i < l.length) (he : l[i]? = some e) (hall : ∀ j, j < i → wrongAt l j = 0) (hr : e.right = true) (hk : e.kind = 1) (hw : fW l i e.key = none) (hf : fR l i e.key = none) (hu : future l i e.key e.val = false) : wrongAt l i = 0 ∧ fR l (i + 1) = upd (fR l i) e.key e.val ∧ fW l (i + 1) = fW l i := by
  refine ⟨?_, ?_, ?_⟩
  · rw [wrongAt_eq he]; unfold wrongE
    rw [if_neg (by rw [hr]; simp; omega), if_neg (by omega), if_neg ((ahead2 (e := e) hi).1 hw), if_neg ((ahead1 (e := e) hi hall hw).1 hf), if_neg (by rw [hu]; simp)]
  · funext k
    rw [fR_succ he]
    unfold upd
    by_cases h : k = e.key
    · subst h; rw [if_pos ⟨hk, rfl, hf, hw⟩, if_pos rfl]
    · rw [if_neg (fun x => h x.2.1.symm), if_neg h]
  · funext k; rw [fW_succ he, if_neg (by omega)]
theorem right_key {e : Ev} (hr : e.right = true) (hk : e.kind = 1 ∨ e.kind = 2) : ∃ k : Nat, k < 16 ∧ e.key = k := by
  unfold Ev.right itemB belowB at hr
  have h : (e.kind == 1 || e.kind == 2) = true := by rcases hk with h | h <;> simp [h]
  rw [h] at hr
  simp at hr
  exact ⟨e.key.toNat, by omega, by omega⟩
end
end Go.Proofs.YtphcebgpllecjaaGreatDoor

namespace Go.Proofs.YtphcebgpllecjaaGreatDoor
open Go.RowKit Go.Inq

/-- The first place with a key among the first i. -/
def firstA (l : List Ev) (k : Int) : Nat → Int
  | 0 => -1
  | i + 1 => match l[i]? with
    | some e => if firstA l k i < 0 ∧ e.key = k then i else firstA l k i
    | none => firstA l k i
theorem firstA_succ {l : List Ev} {k : Int} {i : Nat} {e : Ev} (h : l[i]? = some e) : firstA l k (i + 1) = if firstA l k i < 0 ∧ e.key = k then (i : Int) else firstA l k i := by
  rw [firstA, h]
theorem first_spec (l : List Ev) (k : Int) : ∀ j : Nat, j ≤ l.length → (∀ m (hm : m < l.length), m < j → l[m].key ≠ k) ∨ ∃ i, ∃ hi : i < l.length, i < j ∧ l[i].key = k ∧ ∀ m (hm : m < l.length), m < i → l[m].key ≠ k
  | 0, _ => .inl fun m hm h => absurd h (by omega)
  | j + 1, hj => by
    rcases first_spec l k j (by omega) with h | ⟨i, hi, hij, h1, h2⟩
    · by_cases hk : (l[j]'(by omega)).key = k
      · exact .inr ⟨j, by omega, by omega, hk, fun m hm hmj => h m hm hmj⟩
      · refine .inl fun m hm hmj => ?_
        by_cases hmj2 : m = j
        · subst hmj2; exact hk
        · exact h m hm (by omega)
    · exact .inr ⟨i, hi, by omega, h1, h2⟩
theorem firstA_eq (l : List Ev) (k : Int) : ∀ i : Nat, i ≤ l.length → ((∀ m (hm : m < l.length), m < i → l[m].key ≠ k) ∧ firstA l k i = -1) ∨ ∃ j, ∃ hj : j < l.length, j < i ∧ firstA l k i = j ∧ l[j].key = k ∧ ∀ m (hm : m < l.length), m < j → l[m].key ≠ k
  | 0, _ => .inl ⟨fun m hm h => absurd h (by omega), rfl⟩
  | i + 1, hi => by
    have hil : i < l.length := by omega
    rw [firstA_succ (List.getElem?_eq_getElem hil)]
    rcases firstA_eq l k i (by omega) with ⟨h1, h2⟩ | ⟨j, hj, hji, h1, h2, h3⟩
    · rw [h2]
      by_cases hk : l[i].key = k
      · exact .inr ⟨i, hil, by omega, by rw [if_pos ⟨by omega, hk⟩], hk, fun m hm hmi => h1 m hm hmi⟩
      · refine .inl ⟨fun m hm hmi => ?_, by rw [if_neg (fun e => hk e.2)]⟩
        by_cases hmi2 : m = i
        · subst hmi2; exact hk
        · exact h1 m hm (by omega)
    · exact .inr ⟨j, hj, by omega, by rw [h1, if_neg (fun e => by have := e.1; omega)], h2, h3⟩
theorem firstA_all (l : List Ev) (k : Int) : firstA l k l.length = firstD l k 0 := by
  rcases firstA_eq l k l.length (Nat.le_refl _) with ⟨h1, h2⟩ | ⟨j, hj, _, h1, h2, h3⟩
  · rw [h2, firstD_to (Nat.le_refl _) h1, firstD_end]
  · rw [h1, firstD_to (by omega) h3, firstD_step (List.getElem?_eq_getElem hj), if_pos h2]

theorem fm_at {f : Nat → Option It} {n : Nat} (hn : n < 16) : (List.range 16).filterMap f = (List.range n).filterMap f ++ (f n).toList ++ (List.range' (n + 1) (15 - n)).filterMap f := by
  have e : List.range 16 = List.range n ++ [n] ++ List.range' (n + 1) (15 - n) := by
    rw [List.range_eq_range', List.range_eq_range', show (16 : Nat) = n + (1 + (15 - n)) by omega, ← List.range'_append_1, ← List.range'_append_1]
    simp
  rw [e, List.filterMap_append, List.filterMap_append]
  congr 2
theorem readsTo_at {l : List Ev} {n : Nat} (hn : n < 16) {x : It} (h : readOf l n = some x) : (readsTo l 16)[(readsTo l n).length]? = some x := by
  unfold readsTo
  rw [fm_at hn, h, List.append_assoc, List.getElem?_append_right (Nat.le_refl _)]
  simp
theorem writesTo_at {l : List Ev} {n : Nat} (hn : n < 16) {x : It} (h : writeOf l n = some x) : (writesTo l 16)[(writesTo l n).length]? = some x := by
  unfold writesTo
  rw [fm_at hn, h, List.append_assoc, List.getElem?_append_right (Nat.le_refl _)]
  simp
theorem firstBad_lt {l : List Ev} {i : Nat} (h : firstBad l = some i) : i < l.length ∧ wrongAt l i ≠ 0 := by
  unfold firstBad at h
  rw [List.find?_range_eq_some] at h
  exact ⟨by simpa using h.2.1, by simpa using h.1⟩
/-- The two ways of a look. -/
theorem lookR_two (l : List Ev) : (∃ i : Nat, i < l.length ∧ ∃ x : Int, x ≠ 0 ∧ lookR l = ⟨[], [], i, x⟩) ∨ ((∀ j, j < l.length → wrongAt l j = 0) ∧ lookR l = ⟨readsTo l 16, writesTo l 16, 0, 0⟩) := by
  cases hb : firstBad l with
  | some i =>
    obtain ⟨h1, h2⟩ := firstBad_lt hb
    exact .inl ⟨i, h1, wrongAt l i, h2, by unfold lookR; rw [hb]⟩
  | none =>
    refine .inr ⟨fun j hj => ?_, by unfold lookR; rw [hb]⟩
    unfold firstBad at hb
    rw [List.find?_eq_none] at hb
    simpa using hb j (by simpa using hj)
end Go.Proofs.YtphcebgpllecjaaGreatDoor

namespace Go.Inq
open Go Go.RowKit

/-- The call's own slice v holds the list l, as elements that R tells of. -/
def OwnR {α : Type} (size : Nat) (R : World → (Nat → Prop) → List Value → α → Prop) (w : World) (K : Nat → Prop) (base : Nat) (e : TypeId) (v : Value) (l : List α) : Prop :=
  ∃ ys : List (List Value), w.ownsRow base e size v l.length ys.flatten ∧ ys.length = l.length ∧ ∀ (i : Nat) cs x, ys[i]? = some cs → l[i]? = some x → cs.length = size ∧ R w K cs x

section
variable {α : Type} {size : Nat} {R : World → (Nat → Prop) → List Value → α → Prop} {w w' : World} {K K' : Nat → Prop} {base : Nat} {e : TypeId} {v : Value} {l : List α}

theorem OwnR.nil (size : Nat) (R : World → (Nat → Prop) → List Value → α → Prop) (w : World) (K : Nat → Prop) (base : Nat) (e : TypeId) : OwnR size R w K base e (.slice none 0 0) ([] : List α) :=
  ⟨[], World.ownsRow_nil _ _ _ _, rfl, fun i cs x h => by simp at h⟩

theorem OwnR.lt (h : OwnR size R w K base e v l) : ∀ k, v.ownBlock = some k → base ≤ k ∧ k < w.heap.size := by
  obtain ⟨ys, h1, _⟩ := h
  exact h1.lt

theorem OwnR.form (h : OwnR size R w K base e v l) : ∃ A c, v = .slice A l.length c := by
  obtain ⟨ys, h1, _⟩ := h
  exact own_slice h1

theorem OwnR.sl (h : OwnR size R w K base e v l) (hK : ∀ g, v.ownBlock = some g → K g) : SlR size R w K v l := by
  obtain ⟨ys, h1, h2, h3⟩ := h
  exact SlR.of_own h1 rfl rfl h2 h3 hK

/-- What holds the same in K, and in the row, keeps it. -/
theorem OwnR.keep (hR : Stab R) (h : OwnR size R w K base e v l) (ha : Agree K w w') (hk : ∀ b, K b → K' b) (hr : ∀ g, v.ownBlock = some g → w'.heap[g]? = w.heap[g]?) : OwnR size R w' K' base e v l := by
  obtain ⟨ys, h1, h2, h3⟩ := h
  refine ⟨ys, ⟨h1.1, ?_⟩, h2, fun i cs x a b => ⟨(h3 i cs x a b).1, hR _ _ _ _ _ _ (h3 i cs x a b).2 ha hk⟩⟩
  rcases h1.2 with h4 | ⟨g, cap, cur, hv, hg, hh, r⟩
  · exact .inl h4
  · exact .inr ⟨g, cap, cur, hv, hg, by rw [hr g (by rw [hv]; rfl)]; exact hh, r⟩

theorem OwnR.flat {enc : α → List Value} (h : w.ownsRow base e size v l.length (l.map enc).flatten) (hs : ∀ x, (enc x).length = size) : OwnR size (Flat enc) w K base e v l :=
  ⟨l.map enc, h, by simp, fun i cs x h1 h2 => by
    rw [List.getElem?_map, h2] at h1
    injection h1 with h1
    exact ⟨by rw [← h1]; exact hs x, h1.symm⟩⟩
end

theorem run_append_own_nil {P : Program} (w : World) (base : Nat) (t ty e : TypeId) (i : TypeInfo) (size : Nat) (ht : P.underlying t = some (.slice e)) (hi : P.info? e = some i)
    (v : Value) (n : Nat) (xs : List Value) (hown : w.ownsRow base e size v n xs) (c : Nat) :
    (Builtin.append_ #[t, t] ty #[v, .slice none 0 c]).run P w = .ok v w := by
  rcases hown.2 with ⟨rfl, rfl⟩ | ⟨g, cap, cur, rfl, _, _, hnc, _⟩
  · simp [Builtin.append_, run_underlying ht, sizeOf, typeInfo, hi, Builtin.lenOf, Builtin.firstCells]
  · simp [Builtin.append_, run_underlying ht, sizeOf, typeInfo, hi, Builtin.lenOf, Builtin.firstCells, hnc, storeCells]

theorem flatten_at {size : Nat} : ∀ (ys : List (List Value)) (j : Nat) (u : Value), (∀ (i : Nat) cs, ys[i]? = some cs → cs.length = size) → ys.flatten[j]? = some u → ∃ i k cs, j = i * size + k ∧ ys[i]? = some cs ∧ cs[k]? = some u
  | [], j, u, _, h => by simp at h
  | y :: ys, j, u, hs, h => by
    have hy := hs 0 y rfl
    rw [List.flatten_cons] at h
    rcases Nat.lt_or_ge j y.length with hj | hj
    · rw [List.getElem?_append_left hj] at h
      exact ⟨0, j, y, by simp, rfl, h⟩
    · rw [List.getElem?_append_right hj] at h
      obtain ⟨i, k, cs, h1, h2, h3⟩ := flatten_at ys (j - y.length) u (fun i cs h => hs (i + 1) cs (by simpa using h)) h
      exact ⟨i + 1, k, cs, by rw [Nat.add_mul]; omega, by simpa using h2, h3⟩

/-- append(s, x...): s of the call's own, x whatever reads as a list. -/
theorem wpList_append_list {P : Program} {w : World} {ops : Array Oper} {rest : List Oper} {o : Oper} {a : Act} {Q : Exit → Act → World → Prop} {α : Type} {R : World → (Nat → Prop) → List Value → α → Prop}
    (hgd : o.guard = none) (s x : Operand) (t : TypeId) (ho : o.op = .call { callee := .builtin .append, args := #[s, x], argTypes := #[t, t] })
    (base : Nat) (e : TypeId) (i : TypeInfo) (z : Value) (size bytes : Nat) (ht : P.underlying t = some (.slice e)) (hi : P.info? e = some i) (hz : i.zero = some z)
    (hsize : i.size = size) (hby : i.bytes = bytes) (hzs : z.cells.size = size) (hsz : 0 < size)
    (v : Value) (K : Nat → Prop) (l : List α) (hs : a.eval s = v) (hown : OwnR size R w K base e v l)
    (vx : Value) (l2 : List α) (hx : a.eval x = vx) (hsrc : SlR size R w K vx l2)
    (h1 : ∀ cs x, R w K cs x → ∀ u ∈ cs, u.oneCell' = true) (h63 : l.length + l2.length ≤ maxLen) (hbytes : (l.length + l2.length) * bytes ≤ 140737488355328) (hbase : base ≤ w.heap.size)
    (hA : ∀ w', w.grownBy w' v.ownBlock → ∀ cs x, R w K cs x → R w' K cs x)
    (h : ∀ v' w', OwnR size R w' K base e v' (l ++ l2) → w.grownBy w' v.ownBlock → (v'.ownBlock = v.ownBlock ∨ v'.ownBlock = some w.heap.size) → wpList P ops Q rest (a.put o.dst v') w') :
    wpList P ops Q (o :: rest) a w := by
  obtain ⟨ys, hy, hyl, hyR⟩ := hown
  obtain ⟨A, c, xs, rfl, hc, hxl, hxR, hxc⟩ := hsrc
  have join : ∀ w', w.grownBy w' v.ownBlock → ∀ (i : Nat) cs x, (ys ++ xs)[i]? = some cs → (l ++ l2)[i]? = some x → cs.length = size ∧ R w' K cs x := fun w' ha i cs x g1 g2 => by
    by_cases hil : i < l.length
    · rw [List.getElem?_append_left (by omega)] at g1 g2
      exact ⟨(hyR i cs x g1 g2).1, hA w' ha _ _ (hyR i cs x g1 g2).2⟩
    · rw [List.getElem?_append_right (by omega)] at g1 g2
      rw [hyl] at g1
      exact ⟨(hxR _ cs x g1 g2).1, hA w' ha _ _ (hxR _ cs x g1 g2).2⟩
  have fin : ∀ v' w', w'.ownsRow base e size v' (l.length + l2.length) (ys.flatten ++ xs.flatten) → w.grownBy w' v.ownBlock → OwnR size R w' K base e v' (l ++ l2) := fun v' w' g1 g2 =>
    ⟨ys ++ xs, by rw [List.length_append, List.flatten_append]; exact g1, by simp [hyl, hxl], join w' g2⟩
  have hlen : ∀ (i : Nat) cs, xs[i]? = some cs → cs.length = size := fun i cs g => by
    have hil : i < l2.length := by
      rw [← hxl]
      rcases Nat.lt_or_ge i xs.length with h | h
      · exact h
      · rw [List.getElem?_eq_none h] at g; cases g
    exact (hxR i cs l2[i] g (List.getElem?_eq_getElem hil)).1
  have hnl : xs.flatten.length = l2.length * size := by
    rw [← hxl]
    clear join fin hxR hxc hxl hx
    induction xs with
    | nil => simp
    | cons y ys ih =>
      rw [List.flatten_cons, List.length_append, hlen 0 y rfl, ih (fun i cs h => hlen (i + 1) cs (by simpa using h)), List.length_cons, Nat.add_mul]
      omega
  have hone : ∀ u ∈ xs.flatten, u.oneCell' = true := fun u hu => by
    obtain ⟨cs, hcs, hu⟩ := List.mem_flatten.1 hu
    obtain ⟨i, hi⟩ := List.getElem?_of_mem hcs
    have hil : i < l2.length := by
      rw [← hxl]
      rcases Nat.lt_or_ge i xs.length with h | h
      · exact h
      · rw [List.getElem?_eq_none h] at hi; cases hi
    exact h1 cs l2[i] (hxR i cs l2[i] hi (List.getElem?_eq_getElem hil)).2 u hu
  cases A with
  | some ad =>
    refine wpList_append_own_at w hgd s x t ho base e i z size bytes ht hi hz hsize hby hzs hsz v l.length ys.flatten hs hy ad l2.length c xs.flatten hx hnl (fun j u hj => ?_) hone h63 hbytes hbase (fun v' w' g1 g2 _ g3 => h v' w' (fin v' w' g1 g2) g2 g3)
    have hpos : 0 < l2.length := by
      rcases Nat.lt_or_ge 0 l2.length with h | h
      · exact h
      · have : xs = [] := List.eq_nil_of_length_eq_zero (by omega)
        subst this; simp at hj
    obtain ⟨b, off, hA, hb, hcell⟩ := hxc hpos
    injection hA with hA
    subst hA
    obtain ⟨i, k, cs, hj2, hi2, hk2⟩ := flatten_at xs j u hlen hj
    rw [Addr.add_lit, hj2, ← Nat.add_assoc]
    exact hcell i k cs u hi2 hk2
  | none =>
    have hz2 : l2 = [] := by
      rcases Nat.lt_or_ge 0 l2.length with h | h
      · obtain ⟨b, off, hA, _⟩ := hxc h; cases hA
      · exact List.eq_nil_of_length_eq_zero (by omega)
    subst hz2
    have hr := run_append_own_nil (P := P) w base t o.type e i size ht hi v l.length ys.flatten hy c
    refine wpList_plain hgd fun K' hK' => ?_
    unfold Oper.wp execOp
    simp only [ho, resolve, invoke, builtin, Sem.run_bind, Sem.run_pure, Result.andThen_ok, List.map_toArray, List.map_cons, List.map_nil, hs, hx, List.length_nil, hr]
    refine hK' _ _ (h v w (by rw [List.append_nil]; exact ⟨ys, hy, hyl, hyR⟩) ⟨rfl, rfl, rfl, Nat.le_refl _, fun _ _ _ => rfl⟩ (.inl rfl))

theorem OwnR.raw {α : Type} {size : Nat} {enc : α → List Value} {w : World} {K : Nat → Prop} {base : Nat} {e : TypeId} {v : Value} {l : List α} (h : OwnR size (Flat enc) w K base e v l) : w.ownsRow base e size v l.length (l.map enc).flatten := by
  obtain ⟨ys, h1, h2, h3⟩ := h
  have : ys = l.map enc := by
    refine List.ext_getElem (by simp [h2]) fun i g1 g2 => ?_
    have := (h3 i _ _ (List.getElem?_eq_getElem g1) (List.getElem?_eq_getElem (by omega))).2
    rw [List.getElem_map]
    exact this
  rw [← this]
  exact h1

/-- The same, of elements that are told by their cells alone. -/
theorem wpList_append_flat {P : Program} {w : World} {ops : Array Oper} {rest : List Oper} {o : Oper} {a : Act} {Q : Exit → Act → World → Prop} {α : Type} {enc : α → List Value}
    (hgd : o.guard = none) (s x : Operand) (t : TypeId) (ho : o.op = .call { callee := .builtin .append, args := #[s, x], argTypes := #[t, t] })
    (base : Nat) (e : TypeId) (i : TypeInfo) (z : Value) (size bytes : Nat) (ht : P.underlying t = some (.slice e)) (hi : P.info? e = some i) (hz : i.zero = some z)
    (hsize : i.size = size) (hby : i.bytes = bytes) (hzs : z.cells.size = size) (hsz : 0 < size)
    (v : Value) (K : Nat → Prop) (l : List α) (hs : a.eval s = v) (hown : w.ownsRow base e size v l.length (l.map enc).flatten) (hen : ∀ x, (enc x).length = size)
    (vx : Value) (l2 : List α) (hx : a.eval x = vx) (hsrc : SlR size (Flat enc) w K vx l2)
    (h1 : ∀ x, ∀ u ∈ enc x, u.oneCell' = true) (h63 : l.length + l2.length ≤ maxLen) (hbytes : (l.length + l2.length) * bytes ≤ 140737488355328) (hbase : base ≤ w.heap.size)
    (h : ∀ v' w', w'.ownsRow base e size v' (l ++ l2).length ((l ++ l2).map enc).flatten → w.grownBy w' v.ownBlock → (v'.ownBlock = v.ownBlock ∨ v'.ownBlock = some w.heap.size) → wpList P ops Q rest (a.put o.dst v') w') :
    wpList P ops Q (o :: rest) a w :=
  wpList_append_list hgd s x t ho base e i z size bytes ht hi hz hsize hby hzs hsz v K l hs (OwnR.flat hown hen) vx l2 hx hsrc (fun cs x g u hu => h1 x u (by unfold Flat at g; rw [← g]; exact hu)) h63 hbytes hbase
    (fun _ _ _ _ g => g) fun v' w' g1 g2 g3 => h v' w' g1.raw g2 g3

/-- A block of one element, as a slice of one. -/
theorem SlR.one {α : Type} {size : Nat} {R : World → (Nat → Prop) → List Value → α → Prop} {w : World} {K : Nat → Prop} {g : Nat} {t : TypeId} {cs : Array Value} {x : α} (h : Blk w g t cs) (hl : cs.size = size) (hR : R w K cs.toList x) (hK : K g) :
    SlR size R w K (.slice (some ⟨g, 0, none⟩) 1 1) [x] := by
  refine ⟨some ⟨g, 0, none⟩, 1, [cs.toList], rfl, by simp, rfl, fun i ds y h1 h2 => ?_, fun _ => ⟨g, 0, rfl, hK, fun i j ds u h1 h2 => ?_⟩⟩
  · cases i with
    | zero => simp at h1 h2; subst h1 h2; exact ⟨by simpa using hl, hR⟩
    | succ i => simp at h1
  · cases i with
    | zero =>
      simp at h1; subst h1
      have := h.cell j
      simp only [Nat.zero_mul, Nat.zero_add]
      rw [this]
      simpa using h2
    | succ i => simp at h1
end Go.Inq

namespace Go.Inq
open Go Go.RowKit

def encI (n : Int) : List Value := [.int .i64 n]
/-- A slice of numbers. -/
def IntS (w : World) (K : Nat → Prop) (v : Value) (l : List Int) : Prop := SlR 1 (Flat encI) w K v l

section
variable {w w' : World} {K K' : Nat → Prop} {v : Value} {l : List Int}
theorem IntS.keep (h : IntS w K v l) (ha : Agree K w w') (hk : ∀ b, K b → K' b) : IntS w' K' v l := SlR.keep (Flat.stab _) h ha hk
theorem IntS.below (h : IntS w (Old w) v l) (hb : Below w.heap.size w w') : IntS w' (Old w') v l := SlR.below (Flat.stab _) h hb
theorem IntS.fit (h : IntS w K v l) (hk : ∀ b, K b → K' b) : IntS w K' v l := SlR.fit (Flat.stab _) h hk
theorem IntS.form (h : IntS w K v l) : ∃ A c, v = .slice A l.length c := by
  obtain ⟨A, c, hv, _⟩ := SlR.len h
  exact ⟨A, c, hv⟩
theorem IntS.at_ {A : Option Addr} {n c : Nat} (h : IntS w K (.slice A n c) l) {i : Nat} (hi : i < l.length) : ∃ b off, A = some ⟨b, off, none⟩ ∧ K b ∧ w.cell? ⟨b, off + i, none⟩ = some (.int .i64 l[i]) := by
  obtain ⟨b, off, cs, hA, hK, _, hR, hc⟩ := SlR.at_ h hi
  unfold Flat at hR
  subst hR
  have := hc 0 _ rfl
  rw [Nat.mul_one, Nat.add_zero] at this
  exact ⟨b, off, hA, hK, this⟩
theorem IntS.cells {b off n c : Nat} (h : IntS w K (.slice (some ⟨b, off, none⟩) n c) l) {i : Nat} (hi : i < l.length) : K b ∧ w.cell? ⟨b, off + i, none⟩ = some (.int .i64 l[i]) := by
  obtain ⟨cs, hK, _, hR, hc⟩ := SlR.cells h hi
  unfold Flat at hR
  subst hR
  have := hc 0 _ rfl
  rw [Nat.mul_one, Nat.add_zero] at this
  exact ⟨hK, this⟩
theorem IntS.nil (w : World) (K : Nat → Prop) (A : Option Addr) (c : Nat) : IntS w K (.slice A 0 c) [] := SlR.nil _ _ _ _ _ _
/-- A block of numbers, whole. -/
theorem IntS.of_blk {g : Nat} {t : TypeId} (h : Blk w g t (l.map (Value.int .i64)).toArray) (hK : K g) : IntS w K (.slice (some ⟨g, 0, none⟩) l.length l.length) l := by
  refine ⟨some ⟨g, 0, none⟩, l.length, l.map encI, rfl, Nat.le_refl _, by simp, fun i cs x h1 h2 => ?_, fun _ => ⟨g, 0, rfl, hK, fun i j cs u h1 h2 => ?_⟩⟩
  · rw [List.getElem?_map, h2] at h1
    injection h1 with h1
    exact ⟨by rw [← h1]; rfl, h1.symm⟩
  · rw [List.getElem?_map] at h1
    cases hl : l[i]? with
    | none => rw [hl] at h1; cases h1
    | some x =>
      rw [hl] at h1
      injection h1 with h1
      subst h1
      cases j with
      | zero =>
        injection h2 with h2
        rw [Nat.zero_add, Nat.mul_one, Nat.add_zero, h.cell, List.getElem?_toArray, List.getElem?_map, hl, ← h2]
        rfl
      | succ j => simp [encI] at h2
end
theorem encI_one : ∀ (x : Int), ∀ u ∈ encI x, u.oneCell' = true := by
  intro x u hu
  simp [encI] at hu
  subst hu
  rfl
end Go.Inq

namespace Go.Inq
open Go Go.RowKit

theorem SlR.form {α : Type} {size : Nat} {R : World → (Nat → Prop) → List Value → α → Prop} {w : World} {K : Nat → Prop} {v : Value} {l : List α} (h : SlR size R w K v l) : ∃ A c, v = .slice A l.length c := by
  obtain ⟨A, c, hv, _⟩ := SlR.len h
  exact ⟨A, c, hv⟩
/-- A transaction's cells. -/
def TxR (w : World) (K : Nat → Prop) (cs : List Value) (t : Tx) : Prop := ∃ vo, cs = [.int .i64 t.sess, .bool t.done, .int .i64 t.first, vo] ∧ EvS w K vo t.ops
theorem TxR.stab : Stab TxR := fun _ _ _ _ _ _ h ha hk => by
  obtain ⟨vo, h1, h2⟩ := h
  exact ⟨vo, h1, EvS.keep h2 ha hk⟩
theorem TxR.one {w : World} {K : Nat → Prop} {cs : List Value} {t : Tx} (h : TxR w K cs t) : ∀ u ∈ cs, u.oneCell' = true := by
  obtain ⟨vo, rfl, h2⟩ := h
  obtain ⟨A, c, rfl⟩ := SlR.form h2
  intro u hu
  simp at hu
  rcases hu with rfl | rfl | rfl | rfl <;> rfl
/-- A slice of transactions. -/
def TxS (w : World) (K : Nat → Prop) (v : Value) (l : List Tx) : Prop := SlR 4 TxR w K v l
section
variable {w w' : World} {K K' : Nat → Prop} {v : Value} {l : List Tx}
theorem TxS.keep (h : TxS w K v l) (ha : Agree K w w') (hk : ∀ b, K b → K' b) : TxS w' K' v l := SlR.keep TxR.stab h ha hk
theorem TxS.below (h : TxS w (Old w) v l) (hb : Below w.heap.size w w') : TxS w' (Old w') v l := SlR.below TxR.stab h hb
theorem TxS.fit (h : TxS w K v l) (hk : ∀ b, K b → K' b) : TxS w K' v l := SlR.fit TxR.stab h hk
theorem TxS.at_ {A : Option Addr} {n c : Nat} (h : TxS w K (.slice A n c) l) {i : Nat} (hi : i < l.length) :
    ∃ b off A' c', A = some ⟨b, off, none⟩ ∧ K b ∧ w.cell? ⟨b, off + i * 4, none⟩ = some (.int .i64 l[i].sess) ∧ w.cell? ⟨b, off + i * 4 + 1, none⟩ = some (.bool l[i].done) ∧
      w.cell? ⟨b, off + i * 4 + 2, none⟩ = some (.int .i64 l[i].first) ∧ w.cell? ⟨b, off + i * 4 + 3, none⟩ = some (.slice A' l[i].ops.length c') ∧ EvS w K (.slice A' l[i].ops.length c') l[i].ops := by
  obtain ⟨b, off, cs, hA, hK, _, ⟨vo, hcs, hev⟩, hc⟩ := SlR.at_ h hi
  obtain ⟨A', c', rfl⟩ := SlR.form hev
  subst hcs
  exact ⟨b, off, A', c', hA, hK, hc 0 _ rfl, hc 1 _ rfl, hc 2 _ rfl, hc 3 _ rfl, hev⟩
end
/-- A history's transaction's cells. -/
def TxnR (w : World) (K : Nat → Prop) (cs : List Value) (t : Txn) : Prop := ∃ vw vr, cs = [.int .i64 t.sess, vw, vr] ∧ IntS w K vw t.writes ∧ ItS w K vr t.reads
theorem TxnR.stab : Stab TxnR := fun _ _ _ _ _ _ h ha hk => by
  obtain ⟨vw, vr, h1, h2, h3⟩ := h
  exact ⟨vw, vr, h1, IntS.keep h2 ha hk, ItS.keep h3 ha hk⟩
theorem TxnR.one {w : World} {K : Nat → Prop} {cs : List Value} {t : Txn} (h : TxnR w K cs t) : ∀ u ∈ cs, u.oneCell' = true := by
  obtain ⟨vw, vr, rfl, h2, h3⟩ := h
  obtain ⟨A, c, rfl⟩ := SlR.form h2
  obtain ⟨A', c', rfl⟩ := SlR.form h3
  intro u hu
  simp at hu
  rcases hu with rfl | rfl | rfl <;> rfl
/-- A slice of a history's transactions. -/
def TxnS (w : World) (K : Nat → Prop) (v : Value) (l : List Txn) : Prop := SlR 3 TxnR w K v l
section
variable {w w' : World} {K K' : Nat → Prop} {v : Value} {l : List Txn}
theorem TxnS.keep (h : TxnS w K v l) (ha : Agree K w w') (hk : ∀ b, K b → K' b) : TxnS w' K' v l := SlR.keep TxnR.stab h ha hk
theorem TxnS.below (h : TxnS w (Old w) v l) (hb : Below w.heap.size w w') : TxnS w' (Old w') v l := SlR.below TxnR.stab h hb
theorem TxnS.fit (h : TxnS w K v l) (hk : ∀ b, K b → K' b) : TxnS w K' v l := SlR.fit TxnR.stab h hk
theorem TxnS.nil (w : World) (K : Nat → Prop) (A : Option Addr) (c : Nat) : TxnS w K (.slice A 0 c) [] := SlR.nil _ _ _ _ _ _
theorem TxnS.at_ {A : Option Addr} {n c : Nat} (h : TxnS w K (.slice A n c) l) {i : Nat} (hi : i < l.length) :
    ∃ b off Aw cw Ar cr, A = some ⟨b, off, none⟩ ∧ K b ∧ w.cell? ⟨b, off + i * 3, none⟩ = some (.int .i64 l[i].sess) ∧ w.cell? ⟨b, off + i * 3 + 1, none⟩ = some (.slice Aw l[i].writes.length cw) ∧
      w.cell? ⟨b, off + i * 3 + 2, none⟩ = some (.slice Ar l[i].reads.length cr) ∧ IntS w K (.slice Aw l[i].writes.length cw) l[i].writes ∧ ItS w K (.slice Ar l[i].reads.length cr) l[i].reads := by
  obtain ⟨b, off, cs, hA, hK, _, ⟨vw, vr, hcs, h1, h2⟩, hc⟩ := SlR.at_ h hi
  obtain ⟨Aw, cw, rfl⟩ := SlR.form h1
  obtain ⟨Ar, cr, rfl⟩ := SlR.form h2
  subst hcs
  exact ⟨b, off, Aw, cw, Ar, cr, hA, hK, hc 0 _ rfl, hc 1 _ rfl, hc 2 _ rfl, h1, h2⟩
end
end Go.Inq

namespace Go.Proofs.YtphcebgpllecjaaGreatDoor
open Go.RowKit Go.Inq

theorem lt_of_at {α : Type} {l : List α} {i : Nat} {x : α} (h : l[i]? = some x) : i < l.length := by
  rcases Nat.lt_or_ge i l.length with g | g
  · exact g
  · rw [List.getElem?_eq_none g] at h; cases h
theorem txns_len (l : List Tx) (n : Nat) : (txnsTo l n).length = numR7 l n := by
  unfold txnsTo numR7; rw [List.length_map]
theorem txns_at {l : List Tx} {i : Nat} (hi : i < l.length) (hd : l[i].done = true) : (txnsTo l l.length)[numR7 l i]? = some (oneR l l[i]).1 := by
  have hp : txnsTo l (i + 1) <+: txnsTo l l.length := by
    unfold txnsTo
    rw [List.take_length]
    exact ((List.take_prefix (i + 1) l).filter _).map _
  obtain ⟨s, hs⟩ := hp
  have h1 := txnsTo_step hi
  rw [if_pos hd] at h1
  rw [← hs, h1, List.append_assoc, List.getElem?_append_right (by rw [txns_len]; omega), txns_len]
  simp
theorem num7_mono (l : List Tx) {i j : Nat} (h : i ≤ j) : numR7 l i ≤ numR7 l j := by
  unfold numR7
  have : l.take i <+: l.take j := List.take_prefix_take_left h
  exact (this.filter _).length_le
theorem num7_lt {l : List Tx} {i j : Nat} (hi : i < l.length) (hd : l[i].done = true) (h : i < j) : numR7 l i < numR7 l j := by
  have h1 := num7_step hi
  rw [if_pos hd] at h1
  have := num7_mono l (show i + 1 ≤ j from h)
  omega
theorem num7_inj {l : List Tx} {i j : Nat} (hi : i < l.length) (hj : j < l.length) (hd : l[i].done = true) (hd' : l[j].done = true) (h : numR7 l i = numR7 l j) : i = j := by
  rcases Nat.lt_trichotomy i j with g | g | g
  · have := num7_lt hi hd g; omega
  · exact g
  · have := num7_lt hj hd' g; omega
theorem num7_onto (l : List Tx) : ∀ n, n ≤ l.length → ∀ m, m < numR7 l n → ∃ i, ∃ hi : i < l.length, i < n ∧ l[i].done = true ∧ numR7 l i = m
  | 0, _, m, h => by simp [numR7] at h
  | n + 1, hn, m, h => by
    have h1 := num7_step (l := l) (i := n) (by omega)
    by_cases hm : m < numR7 l n
    · obtain ⟨i, hi, h2, h3, h4⟩ := num7_onto l n (by omega) m hm
      exact ⟨i, hi, by omega, h3, h4⟩
    · by_cases hd : (l[n]'(by omega)).done = true
      · rw [if_pos hd] at h1
        exact ⟨n, by omega, by omega, hd, by omega⟩
      · rw [if_neg hd] at h1
        omega
theorem rising {g : Int → Option It} (hg : ∀ k x, g k = some x → x.a = k) (n : Nat) : ((List.range n).filterMap fun (k : Nat) => g (k : Int)).Pairwise (fun x y => x.a < y.a) ∧ ∀ x ∈ ((List.range n).filterMap fun (k : Nat) => g (k : Int)), 0 ≤ x.a ∧ x.a < n := by
  induction n with
  | zero => simp
  | succ n ih =>
    rw [List.range_succ, List.filterMap_append]
    have h1 : ∀ x ∈ (List.filterMap (fun (k : Nat) => g (k : Int)) [n]), x.a = n := fun x hx => by
      rw [List.mem_filterMap] at hx
      obtain ⟨k, hk, hx⟩ := hx
      simp at hk
      subst hk
      exact hg _ _ hx
    refine ⟨List.pairwise_append.2 ⟨ih.1, ?_, fun x hx y hy => ?_⟩, fun x hx => ?_⟩
    · cases hq : g (n : Int) with
      | none => simp [hq]
      | some z => simp [hq]
    · have := ih.2 x hx
      have := h1 y hy
      omega
    · rcases List.mem_append.1 hx with hx | hx
      · have := ih.2 x hx; omega
      · have := h1 x hx; omega
theorem writeOf_key {l : List Ev} : ∀ k x, writeOf l k = some x → x.a = k := fun k x h => (writeOf_some h).1
theorem readOf_key {l : List Ev} : ∀ k x, readOf l k = some x → x.a = k := fun k x h => by
  unfold readOf at h
  split at h
  · injection h with h; rw [← h]
  · cases h
/-- A read's key and value are written by no op of that transaction. -/
theorem read_own {l : List Ev} (h : ∀ j, j < l.length → wrongAt l j = 0) {r : It} (hr : readOf l r.a = some r) : ∀ e ∈ l, isW r e = false := by
  unfold readOf at hr
  split at hr
  · rename_i hc
    injection hr with hr
    have hb : r.b = valAt l (firstD l r.a 0) := by rw [← hr]
    rw [← firstA_all] at hc hb
    rcases firstA_eq l r.a l.length (Nat.le_refl _) with ⟨_, h2⟩ | ⟨j, hj, _, h2, h3, h4⟩
    · rw [h2] at hc; omega
    · rw [h2] at hc hb
      have hjl := List.getElem?_eq_getElem hj
      have hk1 : l[j].kind = 1 := by have := hc.2; unfold kindAt at this; rw [Int.toNat_natCast, hjl] at this; exact this
      have hv : r.b = l[j].val := by rw [hb]; unfold valAt; rw [Int.toNat_natCast, hjl]; rfl
      have hw := h j hj
      unfold wrongAt at hw
      rw [hjl] at hw
      dsimp only at hw
      have hnone : ∀ kind, aheadN l kind r.a j = -1 := fun kind => by
        rcases ahead_spec l kind r.a j (by omega) with ⟨g, _⟩ | ⟨m, e, g1, _, g3, _, g5⟩
        · exact g
        · have hml := lt_of_at g3
          have g3' := g3
          rw [List.getElem?_eq_getElem hml] at g3'
          injection g3' with g3'
          exact absurd (g3' ▸ g5) (h4 m hml g1)
      unfold wrongE at hw
      rw [h3, hnone 2, hnone 1] at hw
      split at hw
      · cases hw
      · rw [if_neg (by omega), if_neg (by omega), if_neg (by omega)] at hw
        split at hw
        · cases hw
        · rename_i hf
          have hf : future l j r.a l[j].val = false := by simpa using hf
          intro e he
          obtain ⟨m, hm⟩ := List.getElem?_of_mem he
          have hml := lt_of_at hm
          rw [List.getElem?_eq_getElem hml] at hm
          injection hm with hm
          cases hw2 : isW r e with
          | false => rfl
          | true =>
            obtain ⟨e1, e2, e3⟩ := (isW_iff r e).1 hw2
            rcases Nat.lt_trichotomy m j with g | g | g
            · exact absurd (hm ▸ e2) (h4 m hml g)
            · subst g; rw [hm] at hk1; omega
            · unfold future at hf
              rw [List.any_eq_false] at hf
              have := hf e (List.mem_of_getElem? (i := m - (j + 1)) (by rw [List.getElem?_drop, show j + 1 + (m - (j + 1)) = m by omega, List.getElem?_eq_getElem hml, hm]))
              simp [e1, e2, e3, ← hv] at this
  · cases hr

theorem look_zero {l : List Tx} (h3 : ∀ j, j < l.length → lookAt l j = 0) {i : Nat} (hi : i < l.length) (hd : l[i].done = true) : (lookR l[i].ops).err = 0 := by
  have := h3 i hi
  unfold lookAt at this
  rw [List.getElem?_eq_getElem hi] at this
  dsimp only at this
  rwa [if_pos hd] at this
theorem one_zero {l : List Tx} (h4 : ∀ j, j < l.length → oneAt l j = 0) {i : Nat} (hi : i < l.length) (hd : l[i].done = true) :
    (oneR l l[i]).1 = ⟨l[i].sess, (lookR l[i].ops).writes.map (·.a), (lookR l[i].ops).reads.map fun r => ⟨r.a, (fromR l r).1⟩⟩ ∧ ∀ r ∈ (lookR l[i].ops).reads, (fromR l r).2 = 0 := by
  have h := h4 i hi
  unfold oneAt at h
  rw [List.getElem?_eq_getElem hi] at h
  dsimp only at h
  rw [if_pos hd] at h
  unfold oneR at h ⊢
  dsimp only at h ⊢
  rcases firstN_ways (lookR l[i].ops).reads.length (readE l (lookR l[i].ops).reads) with ⟨k, hk, _, hb, hs⟩ | ⟨hall, hs⟩
  · rw [hs] at h
    exact absurd h hb
  · rw [hs]
    refine ⟨rfl, fun r hr => ?_⟩
    obtain ⟨j, hj⟩ := List.getElem?_of_mem hr
    have hjl := lt_of_at hj
    have := hall j hjl
    rw [readE_at hjl] at this
    rw [List.getElem?_eq_getElem hjl] at hj
    injection hj with hj
    rwa [hj] at this
/-- Whose a good read is. -/
theorem from_ways {l : List Tx} {r : It} (h : (fromR l r).2 = 0) : (r.b = 0 ∧ (fromR l r).1 = -1) ∨ ∃ k, ∃ hk : k < l.length, whoR l r = some k ∧ l[k].done = true ∧ 0 < wrT l[k] r ∧ (fromR l r).1 = numR7 l k ∧ middleB (lookR l[k].ops).writes r = false := by
  unfold fromR at h ⊢
  split at h
  · rename_i hb; rw [if_pos hb]; exact .inl ⟨hb, rfl⟩
  · rename_i hb
    rw [if_neg hb]
    cases hw : whoR l r with
    | none => rw [hw] at h; cases h
    | some k =>
      obtain ⟨t, ht, hp⟩ := who_some hw
      have hk := lt_of_at ht
      rw [List.getElem?_eq_getElem hk] at ht
      injection ht with ht
      rw [hw] at h
      dsimp only at h ⊢
      rw [List.getElem?_eq_getElem hk] at h ⊢
      dsimp only at h ⊢
      split at h
      · cases h
      · rename_i hd
        split at h
        · cases h
        · rename_i hm
          rw [if_neg hd, if_neg hm]
          exact .inr ⟨k, hk, rfl, by simpa using hd, by rw [ht]; exact hp, rfl, by simpa using hm⟩
theorem writes_of {t : Tx} (h : (lookR t.ops).err = 0) {x : It} (hx : 0 < wrT t x) : x.a ∈ (lookR t.ops).writes.map (·.a) := by
  obtain ⟨e, he, hw⟩ := wrT_pos.1 hx
  obtain ⟨h1, h2, h3⟩ := (isW_iff x e).1 hw
  obtain ⟨y, hy⟩ := writeOf_of he h1
  have hg := look_good h
  have hr := look_right h he
  have hk : 0 ≤ e.key ∧ e.key < 16 := by
    have := hr.1
    unfold Ev.right at this
    rw [show itemB e.kind = true by unfold itemB; simp [h1]] at this
    simp [belowB] at this
    omega
  rw [hg.1]
  refine List.mem_map.2 ⟨y, mem_writesTo.2 ⟨e.key.toNat, by omega, by rw [Int.toNat_of_nonneg hk.1]; exact hy⟩, ?_⟩
  rw [(writeOf_some hy).1, h2]

/-- What is said of a history that is told. -/
structure RightH (l : List Tx) (rt : List Txn) : Prop where
  num : numR7 l l.length = rt.length
  sess : ∀ i (hi : i < l.length), l[i].done = true → ∃ h : numR7 l i < rt.length, (rt[numR7 l i]).sess = l[i].sess
  writes : ∀ i (hi : i < rt.length) j (hj : j < rt[i].writes.length), 0 ≤ rt[i].writes[j] ∧ rt[i].writes[j] < 16
  rise : ∀ i (hi : i < rt.length) j (hj : j + 1 < rt[i].writes.length), rt[i].writes[j] < rt[i].writes[j + 1]
  reads : ∀ i (hi : i < rt.length) j (hj : j < rt[i].reads.length), 0 ≤ rt[i].reads[j].a ∧ rt[i].reads[j].a < 16 ∧ -1 ≤ rt[i].reads[j].b ∧ rt[i].reads[j].b < rt.length ∧ rt[i].reads[j].b ≠ i
  rrise : ∀ i (hi : i < rt.length) j (hj : j + 1 < rt[i].reads.length), rt[i].reads[j].a < rt[i].reads[j + 1].a
  there : ∀ i (hi : i < rt.length) j (hj : j < rt[i].reads.length) k (hk : k < rt.length), rt[i].reads[j].b = k → rt[i].reads[j].a ∈ rt[k].writes
/-- The same, of one transaction. -/
structure RightT (rt : List Txn) (i : Nat) (t : Txn) : Prop where
  writes : ∀ j (hj : j < t.writes.length), 0 ≤ t.writes[j] ∧ t.writes[j] < 16
  rise : ∀ j (hj : j + 1 < t.writes.length), t.writes[j] < t.writes[j + 1]
  reads : ∀ j (hj : j < t.reads.length), 0 ≤ t.reads[j].a ∧ t.reads[j].a < 16 ∧ -1 ≤ t.reads[j].b ∧ t.reads[j].b < rt.length ∧ t.reads[j].b ≠ i
  rrise : ∀ j (hj : j + 1 < t.reads.length), t.reads[j].a < t.reads[j + 1].a
  there : ∀ j (hj : j < t.reads.length) k (hk : k < rt.length), t.reads[j].b = k → t.reads[j].a ∈ rt[k].writes
theorem RightH.at_ {l : List Tx} {rt : List Txn} (h : RightH l rt) {i : Nat} (hi : i < rt.length) : RightT rt i rt[i] :=
  ⟨h.writes i hi, h.rise i hi, h.reads i hi, h.rrise i hi, h.there i hi⟩
theorem right_hist {l : List Tx} (h2 : ∀ j, j < l.length → unlikeR l j = 0) (h3 : ∀ j, j < l.length → lookAt l j = 0) (h4 : ∀ j, j < l.length → oneAt l j = 0) : RightH l (txnsTo l l.length) := by
  have hlen := txns_len l l.length
  have own : ∀ m (hm : m < (txnsTo l l.length).length), ∃ i, ∃ hi : i < l.length, l[i].done = true ∧ numR7 l i = m ∧
      (txnsTo l l.length)[m] = ⟨l[i].sess, (writesTo l[i].ops 16).map (·.a), (readsTo l[i].ops 16).map fun r => ⟨r.a, (fromR l r).1⟩⟩ ∧ (∀ r ∈ readsTo l[i].ops 16, (fromR l r).2 = 0) ∧ (∀ j, j < l[i].ops.length → wrongAt l[i].ops j = 0) := fun m hm => by
    obtain ⟨i, hi, _, hd, hn⟩ := num7_onto l l.length (Nat.le_refl _) m (by omega)
    have ha := txns_at hi hd
    rw [hn, List.getElem?_eq_getElem hm] at ha
    injection ha with ha
    have hl := look_zero h3 hi hd
    obtain ⟨o1, o2⟩ := one_zero h4 hi hd
    have hg := look_good hl
    rw [hg.1] at o1 o2
    exact ⟨i, hi, hd, hn, ha.trans o1, o2, hg.2⟩
  have lw := fun (o : List Ev) => rising (g := writeOf o) writeOf_key 16
  have lr := fun (o : List Ev) => rising (g := readOf o) readOf_key 16
  refine ⟨hlen.symm, fun i hi hd => ?_, fun m hm j hj => ?_, fun m hm j hj => ?_, fun m hm j hj => ?_, fun m hm j hj => ?_, fun m hm j hj k hk he => ?_⟩
  · have ha := txns_at hi hd
    have hlt := lt_of_at ha
    rw [List.getElem?_eq_getElem hlt] at ha
    injection ha with ha
    exact ⟨hlt, by rw [ha, (one_zero h4 hi hd).1]⟩
  · obtain ⟨i, hi, hd, hn, ht, _⟩ := own m hm
    have hw : (txnsTo l l.length)[m].writes = (writesTo l[i].ops 16).map (·.a) := by rw [ht]
    simp only [hw, List.getElem_map]
    rw [hw, List.length_map] at hj
    exact (lw l[i].ops).2 _ (List.getElem_mem hj)
  · obtain ⟨i, hi, hd, hn, ht, _⟩ := own m hm
    have hw : (txnsTo l l.length)[m].writes = (writesTo l[i].ops 16).map (·.a) := by rw [ht]
    simp only [hw, List.getElem_map]
    rw [hw, List.length_map] at hj
    exact List.pairwise_iff_getElem.1 (lw l[i].ops).1 j (j + 1) (by unfold writesTo at hj; omega) hj (by omega)
  · obtain ⟨i, hi, hd, hn, ht, h5, h6⟩ := own m hm
    have hw : (txnsTo l l.length)[m].reads = (readsTo l[i].ops 16).map fun r => ⟨r.a, (fromR l r).1⟩ := by rw [ht]
    simp only [hw, List.getElem_map]
    rw [hw, List.length_map] at hj
    have hmem := List.getElem_mem hj
    have hb := (lr l[i].ops).2 _ hmem
    refine ⟨hb.1, hb.2, ?_⟩
    rcases from_ways (h5 _ hmem) with ⟨_, g⟩ | ⟨k, hk, _, hd2, hp, g, _⟩
    · rw [g]; omega
    · rw [g]
      have := num7_lt hk hd2 hk
      refine ⟨by omega, by omega, fun e => ?_⟩
      have e : numR7 l k = numR7 l i := by omega
      have := num7_inj hk hi hd2 hd e
      subst this
      obtain ⟨q, hq, hro⟩ := mem_readsTo.1 hmem
      have hka := readOf_key _ _ hro
      rw [← hka] at hro
      obtain ⟨ev, hev, hw⟩ := wrT_pos.1 hp
      rw [read_own h6 hro ev hev] at hw
      cases hw
  · obtain ⟨i, hi, hd, hn, ht, h5, h6⟩ := own m hm
    have hw : (txnsTo l l.length)[m].reads = (readsTo l[i].ops 16).map fun r => ⟨r.a, (fromR l r).1⟩ := by rw [ht]
    simp only [hw, List.getElem_map]
    rw [hw, List.length_map] at hj
    exact List.pairwise_iff_getElem.1 (lr l[i].ops).1 j (j + 1) (by unfold readsTo at hj; omega) hj (by omega)
  · obtain ⟨i, hi, hd, hn, ht, h5, h6⟩ := own m hm
    have hw : (txnsTo l l.length)[m].reads = (readsTo l[i].ops 16).map fun r => ⟨r.a, (fromR l r).1⟩ := by rw [ht]
    simp only [hw, List.getElem_map] at he ⊢
    rw [hw, List.length_map] at hj
    have hmem := List.getElem_mem hj
    rcases from_ways (h5 _ hmem) with ⟨_, g⟩ | ⟨k', hk', _, hd2, hp, g, _⟩
    · rw [g] at he; omega
    · rw [g] at he
      have hkk : numR7 l k' = k := by omega
      have ha := txns_at hk' hd2
      rw [hkk, List.getElem?_eq_getElem hk] at ha
      injection ha with ha
      rw [ha, (one_zero h4 hk' hd2).1]
      exact writes_of (look_zero h3 hk' hd2) hp
end Go.Proofs.YtphcebgpllecjaaGreatDoor

namespace Go.Proofs.YtphcebgpllecjaaGreatDoor
open Go.RowKit Go.Inq

/-- A transaction that is shown: committed, of one session, its ops reads and writes that may be. -/
structure ShownT (t : Tx) : Prop where
  done : t.done = true
  sess : 0 ≤ t.sess ∧ t.sess < 8
  ops : ∀ e ∈ t.ops, e.right = true ∧ (e.kind = 1 ∨ e.kind = 2) ∧ e.sess = t.sess
theorem lastIx_end (A : List Tx) (t : Tx) : lastIx (A ++ [t]) t.sess = some A.length := by rw [lastIx_snoc, if_pos rfl]
theorem at_shutN (A : List Tx) (s : Int) : (⟨A, List.replicate A.length false⟩ : Grp).at_ s = none := by
  unfold Grp.at_
  dsimp only
  cases h : lastIx A s with
  | none => rfl
  | some k =>
    dsimp only
    rw [if_neg]
    rw [List.getElem?_replicate]
    split <;> simp
theorem at_openN (A : List Tx) (t : Tx) : (⟨A ++ [t], List.replicate A.length false ++ [true]⟩ : Grp).at_ t.sess = some A.length := by
  unfold Grp.at_
  dsimp only
  rw [lastIx_end]
  dsimp only
  rw [if_pos]
  rw [List.getElem?_append_right (by simp)]
  simp
theorem right_begin {s : Int} (h : 0 ≤ s ∧ s < 8) : (⟨0, s, 0, 0⟩ : Ev).right = true := by
  unfold Ev.right belowB itemB; simp; omega
theorem right_commit {s : Int} (h : 0 ≤ s ∧ s < 8) : (⟨3, s, 0, 0⟩ : Ev).right = true := by
  unfold Ev.right belowB itemB; simp; omega
theorem set_end {α : Type} (A : List α) (x y : α) : (A ++ [x]).set A.length y = A ++ [y] := by
  rw [List.set_append_right _ _ (Nat.le_refl _)]; simp
theorem txEvents_shown {t : Tx} (h : t.done = true) : txEvents t = ⟨0, t.sess, 0, 0⟩ :: t.ops ++ [⟨3, t.sess, 0, 0⟩] := by unfold txEvents; rw [if_pos h]
theorem grp_block {pre rest : List Ev} {t : Tx} (ht : ShownT t) {A : List Tx} (hA : A.length < 32) (h0 : grpTo (pre ++ (txEvents t ++ rest)) pre.length = ⟨A, List.replicate A.length false⟩) :
    (∀ j, j < (txEvents t).length → grpBad (pre ++ (txEvents t ++ rest)) (pre.length + j) = 0) ∧
    grpTo (pre ++ (txEvents t ++ rest)) (pre.length + (txEvents t).length) = ⟨A ++ [{ t with first := pre.length }], List.replicate (A.length + 1) false⟩ := by
  generalize hE : pre ++ (txEvents t ++ rest) = E at *
  have hat : ∀ j, j < (txEvents t).length → E[pre.length + j]? = (txEvents t)[j]? := fun j hj => by
    rw [← hE, List.getElem?_append_right (by omega), Nat.add_sub_cancel_left, List.getElem?_append_left hj]
  have hlen : (txEvents t).length = t.ops.length + 2 := by simp [txEvents]
  rw [txEvents_shown ht.done] at hat
  rw [hlen]
  have e0 : E[pre.length]? = some ⟨0, t.sess, 0, 0⟩ := hat 0 (by simp)
  have eo : ∀ j (hj : j < t.ops.length), E[pre.length + 1 + j]? = some t.ops[j] := fun j hj => by
    have := hat (j + 1) (by simp; omega)
    rw [show pre.length + (j + 1) = pre.length + 1 + j by omega, List.cons_append, List.getElem?_cons_succ, List.getElem?_append_left hj, List.getElem?_eq_getElem hj] at this
    exact this
  have ee : E[pre.length + 1 + t.ops.length]? = some ⟨3, t.sess, 0, 0⟩ := by
    have := hat (t.ops.length + 1) (by simp)
    rw [show pre.length + (t.ops.length + 1) = pre.length + 1 + t.ops.length by omega, List.cons_append, List.getElem?_cons_succ, List.getElem?_append_right (Nat.le_refl _)] at this
    simpa using this
  clear hat
  have b0 : grpBad E pre.length = 0 := by
    unfold grpBad
    rw [e0, h0]
    dsimp only
    unfold Grp.bad
    rw [if_neg (by simp [right_begin ht.sess]), if_pos rfl, at_shutN, if_neg (by simp), if_neg (by dsimp only; omega)]
  have g1 : grpTo E (pre.length + 1) = ⟨A ++ [⟨t.sess, false, pre.length, []⟩], List.replicate A.length false ++ [true]⟩ := by
    rw [grpTo, e0, h0]
    dsimp only
    unfold Grp.next
    rw [if_pos rfl]
  have mid : ∀ j, j ≤ t.ops.length → (∀ i, i < j → grpBad E (pre.length + 1 + i) = 0) ∧ grpTo E (pre.length + 1 + j) = ⟨A ++ [⟨t.sess, false, pre.length, t.ops.take j⟩], List.replicate A.length false ++ [true]⟩ := by
    intro j
    induction j with
    | zero => intro _; exact ⟨fun i h => absurd h (by omega), g1⟩
    | succ j ih =>
      intro hj
      obtain ⟨i1, i2⟩ := ih (by omega)
      have hj' : j < t.ops.length := by omega
      obtain ⟨r1, r2, r3⟩ := ht.ops _ (List.getElem_mem hj')
      have ha : (⟨A ++ [⟨t.sess, false, pre.length, t.ops.take j⟩], List.replicate A.length false ++ [true]⟩ : Grp).at_ t.ops[j].sess = some A.length := by
        rw [r3]; exact at_openN A ⟨t.sess, false, pre.length, t.ops.take j⟩
      refine ⟨fun i hi => ?_, ?_⟩
      · by_cases e : i = j
        · subst e
          unfold grpBad
          rw [eo i hj', i2]
          dsimp only
          unfold Grp.bad
          rw [if_neg (by simp [r1]), if_neg (by omega), ha]
          rfl
        · exact i1 i (by omega)
      · rw [← Nat.add_assoc, grpTo, eo j hj', i2]
        dsimp only
        unfold Grp.next
        rw [if_neg (by omega), ha]
        dsimp only
        rw [if_pos r2, set_end, List.take_succ_eq_append_getElem hj', List.getElem?_append_right (Nat.le_refl _), Nat.sub_self]
        rfl
  obtain ⟨m1, m2⟩ := mid t.ops.length (Nat.le_refl _)
  rw [List.take_length] at m2
  have ha := at_openN A ⟨t.sess, false, pre.length, t.ops⟩
  dsimp only at ha
  refine ⟨fun j hj => ?_, ?_⟩
  · by_cases h1 : j = 0
    · subst h1; exact b0
    · by_cases h2 : j = t.ops.length + 1
      · subst h2
        rw [show pre.length + (t.ops.length + 1) = pre.length + 1 + t.ops.length by omega]
        unfold grpBad
        rw [ee, m2]
        dsimp only
        unfold Grp.bad
        rw [if_neg (by simp [right_commit ht.sess]), if_neg (by simp), ha]
        rfl
      · have := m1 (j - 1) (by omega)
        rwa [show pre.length + 1 + (j - 1) = pre.length + j by omega] at this
  · rw [show pre.length + (t.ops.length + 2) = (pre.length + 1 + t.ops.length) + 1 by omega, grpTo, ee, m2]
    dsimp only
    unfold Grp.next
    rw [if_neg (by simp), ha]
    dsimp only
    rw [if_neg (by simp), set_end, List.getElem?_append_right (Nat.le_refl _), Nat.sub_self, List.set_append_right _ _ (by simp), List.replicate_succ']
    have hd := ht.done
    obtain ⟨ts, td, tf, tq⟩ := t
    dsimp only at hd
    subst hd
    simp [shutT]

theorem eventsR_split (L : List Tx) {k : Nat} (hk : k < L.length) : eventsR L = eventsR (L.take k) ++ (txEvents L[k] ++ eventsR (L.drop (k + 1))) := by
  have : L = L.take k ++ (L[k] :: L.drop (k + 1)) := by
    rw [← List.drop_eq_getElem_cons hk, List.take_append_drop]
  unfold eventsR
  conv => lhs; rw [this]
  rw [List.map_append, List.flatten_append, List.map_cons, List.flatten_cons]
/-- Transactions, with the places at which they begin. -/
def reFirst (L : List Tx) : List Tx := L.mapIdx fun i t => { t with first := (eventsR (L.take i)).length }
theorem reFirst_len (L : List Tx) : (reFirst L).length = L.length := by unfold reFirst; rw [List.length_mapIdx]
theorem reFirst_at {L : List Tx} {i : Nat} (h : i < (reFirst L).length) : (reFirst L)[i] = { L[i]'(by rwa [reFirst_len] at h) with first := (eventsR (L.take i)).length } := List.getElem_mapIdx ..
theorem events_step {L : List Tx} {k : Nat} (hk : k < L.length) : eventsR (L.take (k + 1)) = eventsR (L.take k) ++ txEvents L[k] := by rw [List.take_succ_eq_append_getElem hk, eventsR_snoc]
theorem group_events {L : List Tx} (h : ∀ t ∈ L, ShownT t) (hn : L.length ≤ 32) : groupR (eventsR L) = (reFirst L, 0, 0) := by
  have main : ∀ k, k ≤ L.length → (∀ j, j < (eventsR (L.take k)).length → grpBad (eventsR L) j = 0) ∧ grpTo (eventsR L) (eventsR (L.take k)).length = ⟨(reFirst L).take k, List.replicate k false⟩ := by
    intro k
    induction k with
    | zero => intro _; exact ⟨fun j hj => by simp [eventsR] at hj, by simp [eventsR, grpTo]⟩
    | succ k ih =>
      intro hk
      obtain ⟨i1, i2⟩ := ih (by omega)
      have hk' : k < L.length := by omega
      have hs := eventsR_split L hk'
      have hAl : ((reFirst L).take k).length = k := by rw [List.length_take, reFirst_len]; omega
      obtain ⟨b1, b2⟩ := grp_block (pre := eventsR (L.take k)) (rest := eventsR (L.drop (k + 1))) (h _ (List.getElem_mem hk')) (A := (reFirst L).take k) (by omega) (by rw [← hs, hAl]; exact i2)
      rw [← hs] at b1 b2
      rw [events_step hk', List.length_append]
      refine ⟨fun j hj => ?_, ?_⟩
      · by_cases hj' : j < (eventsR (L.take k)).length
        · exact i1 j hj'
        · have := b1 (j - (eventsR (L.take k)).length) (by omega)
          rwa [show (eventsR (L.take k)).length + (j - (eventsR (L.take k)).length) = j by omega] at this
      · rw [b2, hAl, List.take_succ_eq_append_getElem (by rw [reFirst_len]; exact hk'), reFirst_at]
  obtain ⟨m1, m2⟩ := main L.length (Nat.le_refl _)
  rw [List.take_length] at m1 m2
  rw [groupR_good m1, m2, List.take_of_length_le (by rw [reFirst_len]; omega)]

/-- Two rows that rise, of the same, are one. -/
theorem rise_same : ∀ {l l' : List It}, l.Pairwise (fun x y => x.a < y.a) → l'.Pairwise (fun x y => x.a < y.a) → (∀ x, x ∈ l ↔ x ∈ l') → l = l'
  | [], [], _, _, _ => rfl
  | [], y :: r, _, _, h => by have := (h y).2 (by simp); simp at this
  | x :: r, [], _, _, h => by have := (h x).1 (by simp); simp at this
  | x :: r, y :: r', h1, h2, h => by
    rw [List.pairwise_cons] at h1 h2
    have e : x = y := by
      rcases List.mem_cons.1 ((h x).1 (by simp)) with e | hx
      · exact e
      · rcases List.mem_cons.1 ((h y).2 (by simp)) with e | hy
        · exact e.symm
        · have := h1.1 y hy; have := h2.1 x hx; omega
    subst e
    congr 1
    refine rise_same h1.2 h2.2 fun z => ⟨fun hz => ?_, fun hz => ?_⟩
    · rcases List.mem_cons.1 ((h z).1 (List.mem_cons_of_mem _ hz)) with e | g
      · subst e; have := h1.1 z hz; omega
      · exact g
    · rcases List.mem_cons.1 ((h z).2 (List.mem_cons_of_mem _ hz)) with e | g
      · subst e; have := h2.1 z hz; omega
      · exact g
section
variable {H : List Txn} {n : Nat} {t : Txn}
theorem ops_at (t : Txn) (n : Nat) {j : Nat} {e : Ev} (h : (opsOf t n)[j]? = some e) :
    (∃ hj : j < t.reads.length, e = ⟨1, t.sess, t.reads[j].a, t.reads[j].b + 1⟩) ∨ (t.reads.length ≤ j ∧ ∃ hj : j - t.reads.length < t.writes.length, e = ⟨2, t.sess, t.writes[j - t.reads.length], (n : Int) + 1⟩) := by
  unfold opsOf at h
  rcases Nat.lt_or_ge j t.reads.length with g | g
  · rw [List.getElem?_append_left (by simpa using g), List.getElem?_map, List.getElem?_eq_getElem g] at h
    injection h with h
    exact .inl ⟨g, h.symm⟩
  · rw [List.getElem?_append_right (by simpa using g), List.length_map, List.getElem?_map] at h
    cases hw : t.writes[j - t.reads.length]? with
    | none => rw [hw] at h; cases h
    | some k =>
      have hl := lt_of_at hw
      rw [hw] at h
      injection h with h
      rw [List.getElem?_eq_getElem hl] at hw
      injection hw with hw
      exact .inr ⟨g, hl, by rw [hw, ← h]⟩
theorem ops_read (t : Txn) (n : Nat) {j : Nat} (hj : j < t.reads.length) : (opsOf t n)[j]? = some ⟨1, t.sess, t.reads[j].a, t.reads[j].b + 1⟩ := by
  unfold opsOf
  rw [List.getElem?_append_left (by simpa using hj), List.getElem?_map, List.getElem?_eq_getElem hj]; rfl
theorem ops_write (t : Txn) (n : Nat) {j : Nat} (hj : j < t.writes.length) : (opsOf t n)[t.reads.length + j]? = some ⟨2, t.sess, t.writes[j], (n : Int) + 1⟩ := by
  unfold opsOf
  rw [List.getElem?_append_right (by simp), List.length_map, Nat.add_sub_cancel_left, List.getElem?_map, List.getElem?_eq_getElem hj]; rfl
theorem reads_far (h : TxnOk H n t) {i j : Nat} (hj : j < t.reads.length) (hij : i < j) : t.reads[i].a < t.reads[j].a := by
  have := List.pairwise_iff_getElem.1 h.rrise i j (by simp; omega) (by simpa using hj) hij
  simpa using this
theorem writes_far (h : TxnOk H n t) {i j : Nat} (hj : j < t.writes.length) (hij : i < j) : t.writes[i] < t.writes[j] :=
  List.pairwise_iff_getElem.1 h.wrise i j (by omega) hj hij
theorem from_le (h : TxnOk H n t) (hH : H.length ≤ 32) {x : It} (hx : x ∈ t.reads) : -1 ≤ x.b ∧ x.b < 32 ∧ x.b ≠ n := by
  rcases (thereB_iff H n x).1 (h.there x hx) with g | ⟨k, hk, g, hn, _⟩
  · omega
  · omega
theorem ops_ok (h : TxnOk H n t) (hH : H.length ≤ 32) (hn : n < 32) : ∀ e ∈ opsOf t n, e.right = true ∧ (e.kind = 1 ∨ e.kind = 2) ∧ e.sess = t.sess := by
  intro e he
  obtain ⟨j, hj⟩ := List.getElem?_of_mem he
  have hs := h.sess
  rcases ops_at t n hj with ⟨g, rfl⟩ | ⟨_, g, rfl⟩
  · have h1 := h.rkey _ (List.getElem_mem g)
    have h2 := from_le h hH (List.getElem_mem g)
    refine ⟨?_, .inl rfl, rfl⟩
    unfold Ev.right belowB itemB; simp; omega
  · have h1 := h.wkey _ (List.getElem_mem g)
    refine ⟨?_, .inr rfl, rfl⟩
    unfold Ev.right belowB itemB; simp; omega
/-- Nothing is wrong with a transaction's ops. -/
theorem ops_wrong (h : TxnOk H n t) (hH : H.length ≤ 32) (hn : n < 32) : ∀ j, j < (opsOf t n).length → wrongAt (opsOf t n) j = 0 := by
  intro j hj
  have hjl := List.getElem?_eq_getElem hj
  generalize (opsOf t n)[j] = e at hjl
  obtain ⟨r1, r2, r3⟩ := ops_ok h hH hn e (List.mem_of_getElem? hjl)
  unfold wrongAt
  rw [hjl]
  dsimp only
  unfold wrongE
  rw [if_neg (by rw [r1]; simp; omega)]
  rcases ops_at t n hjl with ⟨g, rfl⟩ | ⟨_, g, rfl⟩
  · have hnone : ∀ kind, aheadN (opsOf t n) kind t.reads[j].a j = -1 := fun kind => by
      rcases ahead_spec (opsOf t n) kind t.reads[j].a j (by omega) with ⟨g, _⟩ | ⟨m, e, g1, _, g3, _, g5⟩
      · exact g
      · rw [ops_read t n (by omega)] at g3
        injection g3 with g3
        have := reads_far h g g1
        rw [← g3] at g5
        dsimp only at g5
        omega
    dsimp only
    rw [if_neg (by omega), hnone 2, hnone 1, if_neg (by omega), if_neg (by omega), if_neg]
    intro hf
    unfold future at hf
    rw [List.any_eq_true] at hf
    obtain ⟨e, he, hp⟩ := hf
    obtain ⟨m, hm⟩ := List.getElem?_of_mem he
    rw [List.getElem?_drop] at hm
    have h2 := from_le h hH (List.getElem_mem g)
    rcases ops_at t n hm with ⟨g, rfl⟩ | ⟨_, g, rfl⟩
    · simp at hp
    · simp at hp; omega
  · dsimp only; rw [if_pos rfl]
theorem ops_reads (h : TxnOk H n t) : readsTo (opsOf t n) 16 = t.reads.map fun x => ⟨x.a, x.b + 1⟩ := by
  have hrise := rising (g := readOf (opsOf t n)) readOf_key 16
  have hfirst : ∀ j (hj : j < t.reads.length), firstD (opsOf t n) t.reads[j].a 0 = j := fun j hj => by
    rw [← firstA_all]
    rcases firstA_eq (opsOf t n) t.reads[j].a _ (Nat.le_refl _) with ⟨g, _⟩ | ⟨i, hi, _, h2, h3, h4⟩
    · have hl := ops_read t n hj
      have hl2 := lt_of_at hl
      have := g j hl2 hl2
      rw [List.getElem?_eq_getElem hl2] at hl
      injection hl with hl
      rw [hl] at this
      exact absurd rfl this
    · rw [h2]
      have hl := ops_read t n hj
      have hl2 := lt_of_at hl
      have hij : i ≤ j := by
        rcases Nat.lt_or_ge j i with g | g
        · have := h4 j hl2 g
          rw [List.getElem?_eq_getElem hl2] at hl
          injection hl with hl
          rw [hl] at this
          exact absurd rfl this
        · exact g
      rcases Nat.lt_or_ge i j with g | g
      · have := reads_far h hj g
        have hl3 := ops_read t n (Nat.lt_trans g hj)
        rw [List.getElem?_eq_getElem hi] at hl3
        injection hl3 with hl3
        rw [hl3] at h3
        dsimp only at h3
        omega
      · omega
  have hread : ∀ j (hj : j < t.reads.length), readOf (opsOf t n) t.reads[j].a = some ⟨t.reads[j].a, t.reads[j].b + 1⟩ := fun j hj => by
    unfold readOf kindAt valAt
    rw [hfirst j hj, Int.toNat_natCast, ops_read t n hj]
    simp
  refine rise_same hrise.1 ?_ fun x => ?_
  · rw [List.pairwise_map]
    have := h.rrise
    rwa [List.pairwise_map] at this
  · rw [mem_readsTo, List.mem_map]
    constructor
    · rintro ⟨k, hk, hx⟩
      have hx' := hx
      unfold readOf at hx
      split at hx
      · rename_i hc
        rcases firstA_eq (opsOf t n) (k : Int) _ (Nat.le_refl _) with ⟨_, g⟩ | ⟨i, hi, _, h2, h3, _⟩
        · rw [firstA_all] at g; omega
        · rw [firstA_all] at h2
          have hc2 := hc.2
          unfold kindAt at hc2
          rw [h2, Int.toNat_natCast, List.getElem?_eq_getElem hi] at hc2
          rcases ops_at t n (List.getElem?_eq_getElem hi) with ⟨g, e⟩ | ⟨_, g, e⟩
          · rw [e] at h3
            have := hread i g
            dsimp only at h3
            rw [h3] at this
            rw [hx'] at this
            injection this with this
            exact ⟨t.reads[i], List.getElem_mem g, by rw [this, h3]⟩
          · rw [e] at hc2; simp at hc2
      · cases hx
    · rintro ⟨y, hy, rfl⟩
      obtain ⟨j, hj, rfl⟩ := List.getElem_of_mem hy
      have hk := h.rkey _ hy
      exact ⟨t.reads[j].a.toNat, by omega, by rw [Int.toNat_of_nonneg hk.1]; exact hread j hj⟩
theorem ops_writes (h : TxnOk H n t) : writesTo (opsOf t n) 16 = t.writes.map fun k => ⟨k, (n : Int) + 1⟩ := by
  have hrise := rising (g := writeOf (opsOf t n)) writeOf_key 16
  have hval : ∀ {k : Int} {y : It}, writeOf (opsOf t n) k = some y → y = ⟨k, (n : Int) + 1⟩ ∧ k ∈ t.writes := fun {k y} hy => by
    obtain ⟨h1, e, he, hw⟩ := writeOf_some hy
    obtain ⟨h2, h3, h4⟩ := (isW_iff y e).1 hw
    obtain ⟨j, hj⟩ := List.getElem?_of_mem he
    rcases ops_at t n hj with ⟨g, rfl⟩ | ⟨_, g, rfl⟩
    · simp at h2
    · dsimp only at h3 h4
      obtain ⟨ya, yb⟩ := y
      dsimp only at h1 h3 h4
      exact ⟨by rw [h1, h4], by rw [← h1, ← h3]; exact List.getElem_mem g⟩
  refine rise_same hrise.1 ?_ fun x => ?_
  · rw [List.pairwise_map]; exact h.wrise
  · rw [mem_writesTo, List.mem_map]
    constructor
    · rintro ⟨k, hk, hx⟩
      obtain ⟨h1, h2⟩ := hval hx
      exact ⟨_, h2, h1.symm⟩
    · rintro ⟨k, hk, rfl⟩
      have hkk := h.wkey _ hk
      obtain ⟨j, hj, rfl⟩ := List.getElem_of_mem hk
      obtain ⟨y, hy⟩ := writeOf_of (l := opsOf t n) (List.mem_of_getElem? (ops_write t n hj)) rfl
      dsimp only at hy
      exact ⟨t.writes[j].toNat, by omega, by rw [Int.toNat_of_nonneg hkk.1, hy, (hval hy).1]⟩
theorem ops_look (h : TxnOk H n t) (hH : H.length ≤ 32) (hn : n < 32) : lookR (opsOf t n) = ⟨t.reads.map fun x => ⟨x.a, x.b + 1⟩, t.writes.map fun k => ⟨k, (n : Int) + 1⟩, 0, 0⟩ := by
  unfold lookR
  rw [firstBad_none (ops_wrong h hH hn)]
  dsimp only
  rw [ops_reads h, ops_writes h]
end

/-- Transactions that are a history's. -/
structure TxsOf (H : List Txn) (R : List Tx) : Prop where
  len : R.length = H.length
  sess : ∀ i (hi : i < H.length), (R[i]'(by omega)).sess = H[i].sess
  done : ∀ i (hi : i < H.length), (R[i]'(by omega)).done = true
  ops : ∀ i (hi : i < H.length), (R[i]'(by omega)).ops = opsOf H[i] i
theorem numAll7 {R : List Tx} (h : ∀ t ∈ R, t.done = true) (k : Nat) (hk : k ≤ R.length) : numR7 R k = k := by
  unfold numR7
  rw [List.filter_eq_self.2 fun t ht => h t (List.mem_of_mem_take ht), List.length_take]
  omega
theorem hist_txs {H : List Txn} {R : List Tx} (hH : rightH H = true) (h : TxsOf H R) : histR R = (H, 0, 0) := by
  obtain ⟨h32, hok⟩ := (rightH_iff H).1 hH
  have hlen := h.len
  have hdone : ∀ t ∈ R, t.done = true := fun t ht => by
    obtain ⟨i, hi, rfl⟩ := List.getElem_of_mem ht
    exact h.done i (by omega)
  have a1 : ∀ j, j < R.length → mayAt R j = 0 := fun j hj => by
    unfold mayAt
    rw [List.getElem?_eq_getElem hj]
    dsimp only
    rw [if_pos]
    unfold mayT
    rw [Bool.and_eq_true, h.ops j (by omega), h.sess j (by omega), List.all_eq_true]
    refine ⟨fun e he => ?_, ?_⟩
    · obtain ⟨r1, r2, _⟩ := ops_ok (hok j (by omega)) h32 (by omega) e he
      unfold mayE itemB
      rw [r1]
      rcases r2 with r2 | r2 <;> rw [r2] <;> rfl
    · have := (hok j (by omega)).sess
      unfold belowB; simp; omega
  have a2 : ∀ j, j < R.length → unlikeR R j = 0 := fun j hj => by
    unfold unlikeR
    rw [List.getElem?_eq_getElem hj]
    dsimp only
    have : ∀ i, i < R[j].ops.length → opE R j R[j].ops i = 0 := by
      rw [h.ops j (by omega)]
      intro i hi
      unfold opE
      have hil := List.getElem?_eq_getElem hi
      generalize (opsOf H[j] j)[i] = e at hil
      rw [hil]
      dsimp only
      rcases ops_at _ _ hil with ⟨g, rfl⟩ | ⟨gi, g, rfl⟩
      · rw [if_pos (by simp)]
      · rw [if_neg (by simp)]
        dsimp only
        rw [if_neg (by omega), if_neg]
        intro hpos
        rcases Nat.eq_zero_or_pos (wr (opsOf H[j] j) i ⟨H[j].writes[i - H[j].reads.length], (j : Int) + 1⟩) with h0 | h0
        · rw [h0, Nat.zero_add] at hpos
          obtain ⟨k, t, hk, ht, hp⟩ := sumW_pos.1 hpos
          have hkl := lt_of_at ht
          rw [List.getElem?_eq_getElem hkl] at ht
          injection ht with ht
          subst ht
          obtain ⟨e, he, hw⟩ := wrT_pos.1 hp
          rw [h.ops k (by omega)] at he
          obtain ⟨m, hm⟩ := List.getElem?_of_mem he
          obtain ⟨w1, w2, w3⟩ := (isW_iff _ _).1 hw
          rcases ops_at _ _ hm with ⟨g, rfl⟩ | ⟨_, g, rfl⟩
          · simp at w1
          · dsimp only at w3; omega
        · obtain ⟨m, e, hm, he, hw⟩ := wr_pos.1 h0
          obtain ⟨w1, w2, w3⟩ := (isW_iff _ _).1 hw
          rcases ops_at _ _ he with ⟨g, rfl⟩ | ⟨gm, g2, rfl⟩
          · simp at w1
          · dsimp only at w2
            have := writes_far (hok j (by omega)) g (show m - H[j].reads.length < i - H[j].reads.length by omega)
            omega
    rw [firstN_none this]
  have a3 : ∀ j, j < R.length → lookAt R j = 0 := fun j hj => by
    unfold lookAt
    rw [List.getElem?_eq_getElem hj]
    dsimp only
    rw [if_pos (h.done j (by omega)), h.ops j (by omega), ops_look (hok j (by omega)) h32 (by omega)]
  have hone : ∀ j (hj : j < R.length), oneR R R[j] = (H[j]'(by omega), 0) := fun j hj => by
    have hok' := hok j (by omega)
    have hfrom : ∀ x ∈ H[j].reads, fromR R ⟨x.a, x.b + 1⟩ = (x.b, 0) := fun x hx => by
      rcases (thereB_iff H j x).1 (hok'.there x hx) with g | ⟨k, hk, g, hn, hm⟩
      · unfold fromR; rw [if_pos (by dsimp only; omega), g]
      · unfold fromR
        rw [if_neg (by dsimp only; omega)]
        obtain ⟨m, hm', hme⟩ := List.getElem_of_mem hm
        have hpos : 0 < wrT (R[k]'(by omega)) ⟨x.a, x.b + 1⟩ := by
          refine wrT_pos.2 ⟨⟨2, H[k].sess, H[k].writes[m], (k : Int) + 1⟩, ?_, (isW_iff _ _).2 ⟨rfl, ?_, ?_⟩⟩
          · rw [h.ops k hk]
            exact List.mem_of_getElem? (ops_write H[k] k hm')
          · exact hme
          · dsimp only; omega
        rw [who_of a2 (List.getElem?_eq_getElem (by omega)) hpos]
        dsimp only
        rw [List.getElem?_eq_getElem (by omega)]
        dsimp only
        rw [h.done k hk, if_neg (by simp), h.ops k hk, ops_look (hok k hk) h32 (by omega), if_neg, numAll7 hdone k (by omega), g]
        unfold middleB
        rw [Bool.not_eq_true, List.any_eq_false]
        intro y hy
        obtain ⟨q, _, rfl⟩ := List.mem_map.1 hy
        simp; omega
    unfold oneR
    rw [h.ops j (by omega), ops_look hok' h32 (by omega)]
    dsimp only
    rw [firstN_none]
    · dsimp only
      rw [h.sess j (by omega), List.map_map, List.map_map]
      have e1 : H[j].writes.map ((·.a) ∘ fun k => (⟨k, (j : Int) + 1⟩ : It)) = H[j].writes := by
        conv => rhs; rw [← List.map_id H[j].writes]
        exact List.map_congr_left fun k _ => rfl
      have e2 : H[j].reads.map ((fun r => (⟨r.a, (fromR R r).1⟩ : It)) ∘ fun x => (⟨x.a, x.b + 1⟩ : It)) = H[j].reads := by
        conv => rhs; rw [← List.map_id H[j].reads]
        refine List.map_congr_left fun x hx => ?_
        simp only [Function.comp, hfrom x hx, id]
      rw [e1, e2]
    · intro i hi
      rw [List.length_map] at hi
      rw [readE_at (by rw [List.length_map]; exact hi), List.getElem_map, hfrom _ (List.getElem_mem hi)]
  have a4 : ∀ j, j < R.length → oneAt R j = 0 := fun j hj => by
    unfold oneAt
    rw [List.getElem?_eq_getElem hj]
    dsimp only
    rw [if_pos (h.done j (by omega)), hone j hj]
  rw [histR_good (by omega) a1 a2 a3 a4]
  congr 1
  unfold txnsTo
  rw [List.take_length, List.filter_eq_self.2 hdone]
  refine List.ext_getElem (by simp [hlen]) fun i h1 h2 => ?_
  rw [List.getElem_map, hone i (by simpa using h1)]
theorem shown_txs {H : List Txn} (hH : rightH H = true) : ∀ t ∈ txsOf H, ShownT t := by
  obtain ⟨h32, hok⟩ := (rightH_iff H).1 hH
  intro t ht
  obtain ⟨i, hi, rfl⟩ := List.getElem_of_mem ht
  rw [txsOf_at hi]
  rw [txsOf_len] at hi
  exact ⟨rfl, (hok i hi).sess, fun e he => ops_ok (hok i hi) h32 (by omega) e he⟩
theorem refirst_txs (H : List Txn) : TxsOf H (reFirst (txsOf H)) := by
  have hl : (reFirst (txsOf H)).length = H.length := by rw [reFirst_len, txsOf_len]
  refine ⟨hl, fun i hi => ?_, fun i hi => ?_, fun i hi => ?_⟩ <;> rw [reFirst_at] <;> dsimp only <;> rw [txsOf_at] <;> rfl
/-- What is shown is parsed as it was. -/
theorem hist_back {H : List Txn} (h : (showH H).2 = 0) : rightH H = true ∧ parseH (showH H).1 = (H, 0, 0) := by
  unfold showH at h ⊢
  cases hH : rightH H with
  | false => rw [hH, if_pos rfl] at h; cases h
  | true =>
    refine ⟨rfl, ?_⟩
    rw [hH, if_neg (by simp)] at h
    rw [if_neg (by simp)]
    unfold parseH
    rw [diary_back h]
    dsimp only
    rw [if_neg (by simp), group_events (shown_txs hH) (by rw [txsOf_len]; exact ((rightH_iff H).1 hH).1)]
    dsimp only
    rw [if_neg (by simp), hist_txs hH (refirst_txs H)]
    dsimp only
    rw [if_neg (by simp)]
theorem showH_bad {H : List Txn} (h : rightH H = false) : showH H = ([], 1) := by unfold showH; rw [if_pos h]
theorem events_right {L : List Tx} (h : ∀ t ∈ L, ShownT t) : ∀ e ∈ eventsR L, e.right = true := by
  intro e he
  unfold eventsR at he
  obtain ⟨l, hl, he⟩ := List.mem_flatten.1 he
  obtain ⟨t, ht, rfl⟩ := List.mem_map.1 hl
  have hs := h t ht
  rw [txEvents_shown hs.done] at he
  rcases List.mem_append.1 he with he | he
  · rcases List.mem_cons.1 he with rfl | he
    · exact right_begin hs.sess
    · exact (hs.ops e he).1
  · simp at he; subst he; exact right_commit hs.sess
/-- What may be is shown, or has too many lines. -/
theorem showH_ways {H : List Txn} (h : rightH H = true) : (showH H).2 = 0 ∨ showH H = ([], 4) := by
  unfold showH
  rw [if_neg (by simp [h])]
  by_cases g : 400 < (eventsR (txsOf H)).length
  · exact .inr (showD_many g)
  · rw [showD_good g (events_right (shown_txs h))]; exact .inl rfl
end Go.Proofs.YtphcebgpllecjaaGreatDoor

namespace Go.Proofs.YtphcebgpllecjaaGreatDoor
open Go.RowKit Go.Inq
set_option maxHeartbeats 1000000
attribute [local go_sem ↓] Go.wp_at_zero Go.wp_at_succ

def idxI (l : List Int) (x : Int) : Int := match l.findIdx? (· == x) with | some k => k | none => -1
theorem idxI_hit {l : List Int} {x : Int} {k : Nat} (hk : k < l.length) (h : l[k] = x) (h0 : ∀ j (hj : j < l.length), j < k → l[j] ≠ x) : idxI l x = k := by
  unfold idxI
  have : l.findIdx? (· == x) = some k := by
    rw [List.findIdx?_eq_some_iff_getElem]
    exact ⟨hk, by simpa using h, fun j hj => by simpa using h0 j (by omega) hj⟩
  rw [this]
theorem idxI_none {l : List Int} {x : Int} (h0 : ∀ j (hj : j < l.length), l[j] ≠ x) : idxI l x = -1 := by
  unfold idxI
  have : l.findIdx? (· == x) = none := by
    rw [List.findIdx?_eq_none_iff]
    intro y hy
    obtain ⟨j, hj, rfl⟩ := List.getElem_of_mem hy
    simpa using h0 j hj
  rw [this]
theorem idxI_contains (l : List Int) (x : Int) : decide (0 ≤ idxI l x) = l.contains x := by
  by_cases h : x ∈ l
  · rw [List.contains_iff_mem.2 h]
    unfold idxI
    cases hf : l.findIdx? (· == x) with
    | none =>
      rw [List.findIdx?_eq_none_iff] at hf
      have := hf x h
      simp at this
    | some k => simp
  · have : l.contains x = false := by simpa using h
    rw [this, idxI_none (fun j hj e => h (by rw [← e]; exact List.getElem_mem hj))]
    rfl
theorem index_int (A : Option Addr) (c : Nat) (l : List Int) (x : Int) (K : Nat → Prop) (w : World) (h : IntS w K (.slice A l.length c) l) (hn : l.length ≤ maxLen) :
    Calls Tryz.prog 73 #[.slice A l.length c, .int .i64 x] w fun e w' => e = .returned (.int .i64 (idxI l x)) ∧ w = w' := by
  unfold maxLen at hn
  have hhit := hide (fun k => idxI_hit (l := l) (x := x) (k := k))
  have hnone := hide (idxI_none (l := l) (x := x))
  go_enter Tryz.func73, Tryz.ntmps73
  go_wp2_with fail
  go_loop [5, 8] (fun s5 s8 => ∃ k : Nat, k ≤ l.length ∧ s8 = .int .i64 k ∧ Hid (∀ j (hj : j < l.length), j < k → l[j] ≠ x)) (fun _ s8 => l.length - (intOf s8).toNat)
  case atStart => exact ⟨0, Nat.zero_le _, by go_num, fun j hj h => absurd h (by omega)⟩
  case round =>
    obtain ⟨k, hk, rfl, hall⟩ := hrel
    by_cases hlt : k < l.length
    · have hi2 : (k : Int) < (l.length : Int) := by omega
      obtain ⟨b, off, rfl, _, hc⟩ := h.at_ hlt
      have hh := hide (fun g => hhit.out k hlt g hall.out)
      have hst : Hid (l[k] ≠ x → ∀ j (hj : j < l.length), j < k + 1 → l[j] ≠ x) := fun g j hj hjk => by
        by_cases e : j = k
        · subst e; exact g
        · exact hall.out j hj (by omega)
      clear hall
      by_cases he : x = l[k]
      · have hb : (x == l[k]) = true := by simpa using he
        have hr := hide (hh.out he.symm)
        clear he hh hst
        go_wp2
        go_ret
        exact ⟨ret_int hr.out.symm, rfl⟩
      · have hb : (x == l[k]) = false := by simpa using he
        have hn2 := hide (hst.out (fun e => he e.symm))
        clear he hh hst
        go_wp2
        go_round
        case rel => exact ⟨k + 1, by omega, by go_num, hn2⟩
        case measure => simp [intOf]; omega
    · have hr := hide (hnone.out fun j hj => hall.out j hj (by omega))
      go_wp2
      go_ret
      exact ⟨ret_int hr.out.symm, rfl⟩
theorem contains_int (A : Option Addr) (c : Nat) (l : List Int) (x : Int) (K : Nat → Prop) (w : World) (h : IntS w K (.slice A l.length c) l) (hn : l.length ≤ maxLen) :
    Calls Tryz.prog 48 #[.slice A l.length c, .int .i64 x] w fun e w' => e = .returned (.bool (l.contains x)) ∧ w = w' := by
  have hd := hide (idxI_contains l x)
  go_enter Tryz.func48, Tryz.ntmps48
  go_wp2_with fail
  refine (index_int A c l x K _ h hn).mono ?_
  rintro e w1 ⟨rfl, rfl⟩
  go_wp2
  go_ret
  exact ⟨by rw [← hd.out]; rfl, rfl⟩
end Go.Proofs.YtphcebgpllecjaaGreatDoor
