/-
  Plain laws of layer 4: events as a text; no program in sight.
-/
import Derived.Test.YtmhgbckjkmjeeaaDoorEventL
set_option linter.unusedVariables false
set_option linter.unusedSimpArgs false
namespace Go.Inq
open Go

/-- The error at a row. -/
def rowE (rows : List (List UInt8)) (j : Nat) : Int := (parseR (rows[j]?.getD [])).2
/-- Rows' events; or the number of the first row that is none, and what is wrong. -/
def evsR : List (List UInt8) → List Ev × Int × Int
  | [] => ([], 0, 0)
  | r :: rest => if (parseR r).2 ≠ 0 then ([], 1, (parseR r).2) else if (evsR rest).2.2 ≠ 0 then ([], (evsR rest).2.1 + 1, (evsR rest).2.2) else ((parseR r).1 :: (evsR rest).1, 0, 0)
theorem evsR_cons (r : List UInt8) (rest : List (List UInt8)) : evsR (r :: rest) = if (parseR r).2 ≠ 0 then ([], 1, (parseR r).2) else if (evsR rest).2.2 ≠ 0 then ([], (evsR rest).2.1 + 1, (evsR rest).2.2) else ((parseR r).1 :: (evsR rest).1, 0, 0) := by rw [evsR]
/-- The events of rows that are all events'. -/
def evl (rows : List (List UInt8)) : List Ev := rows.map fun r => (parseR r).1
/-- A text's events, or where it is wrong, and how. -/
def diaryR (l : List UInt8) : List Ev × Int × Int := if (splitR l).2 ≠ 0 then ([], 0, (splitR l).2) else evsR (splitR l).1
/-- Events' text, or what is wrong. -/
def showD (es : List Ev) : List UInt8 × Int := if 400 < es.length then ([], 4) else if ∃ e ∈ es, e.right = false then ([], 1) else ((es.map fun e => (showR e).1 ++ [10]).flatten, 0)

theorem rowE_cons (r : List UInt8) (rest : List (List UInt8)) (j : Nat) : rowE (r :: rest) (j + 1) = rowE rest j := by unfold rowE; rw [List.getElem?_cons_succ]
theorem rowE_zero (r : List UInt8) (rest : List (List UInt8)) : rowE (r :: rest) 0 = (parseR r).2 := rfl
theorem rowE_at {rows : List (List UInt8)} {j : Nat} (h : j < rows.length) : rowE rows j = (parseR rows[j]).2 := by
  unfold rowE; rw [List.getElem?_eq_getElem h, Option.getD_some]
theorem rowE_take {rows : List (List UInt8)} {j i : Nat} (h : j < i) : rowE (rows.take i) j = rowE rows j := by
  unfold rowE; rw [List.getElem?_take, if_pos h]
theorem rowE_left {a b : List (List UInt8)} {j : Nat} (h : j < a.length) : rowE (a ++ b) j = rowE a j := by
  unfold rowE; rw [List.getElem?_append_left h]
theorem rowE_right {a b : List (List UInt8)} {j : Nat} : rowE (a ++ b) (a.length + j) = rowE b j := by
  unfold rowE; rw [List.getElem?_append_right (by omega), Nat.add_sub_cancel_left]
theorem evsR_good : ∀ {rows : List (List UInt8)}, (∀ j, j < rows.length → rowE rows j = 0) → evsR rows = (evl rows, 0, 0)
  | [], _ => rfl
  | r :: rest, h => by
    have h0 := h 0 (by simp)
    rw [rowE_zero] at h0
    have ih := evsR_good (rows := rest) fun j hj => by
      have := h (j + 1) (by simpa using hj)
      rwa [rowE_cons] at this
    rw [evsR_cons, if_neg (by omega), ih, if_neg (by simp)]
    rfl
theorem evsR_bad : ∀ {rows : List (List UInt8)} {i : Nat}, i < rows.length → (∀ j, j < i → rowE rows j = 0) → rowE rows i ≠ 0 → evsR rows = ([], (i : Int) + 1, rowE rows i)
  | [], i, hi, _, _ => by simp at hi
  | r :: rest, 0, _, _, hb => by
    rw [rowE_zero] at hb ⊢
    rw [evsR_cons, if_pos hb]
    rfl
  | r :: rest, i + 1, hi, hj, hb => by
    have h0 := hj 0 (by omega)
    rw [rowE_zero] at h0
    rw [rowE_cons] at hb ⊢
    have ih := evsR_bad (rows := rest) (i := i) (by simpa using hi) (fun j h => by
      have := hj (j + 1) (by omega)
      rwa [rowE_cons] at this) hb
    rw [evsR_cons, if_neg (by omega), ih, if_pos hb]
    simp
theorem evsR_ways : ∀ (rows : List (List UInt8)), (∀ j, j < rows.length → rowE rows j = 0) ∨ ∃ i, i < rows.length ∧ (∀ j, j < i → rowE rows j = 0) ∧ rowE rows i ≠ 0
  | [] => .inl fun j h => by simp at h
  | r :: rest => by
    by_cases h0 : (parseR r).2 = 0
    · rcases evsR_ways rest with h | ⟨i, hi, hj, hb⟩
      · refine .inl fun j hj => ?_
        match j with
        | 0 => exact h0
        | j + 1 => rw [rowE_cons]; exact h j (by simpa using hj)
      · refine .inr ⟨i + 1, by simpa using hi, fun j hji => ?_, by rw [rowE_cons]; exact hb⟩
        match j with
        | 0 => exact h0
        | j + 1 => rw [rowE_cons]; exact hj j (by omega)
    · exact .inr ⟨0, by simp, fun j h => absurd h (by omega), h0⟩
theorem evl_take {rows : List (List UInt8)} {i : Nat} (h : i < rows.length) : evl (rows.take (i + 1)) = evl (rows.take i) ++ [(parseR rows[i]).1] := by
  unfold evl
  rw [List.take_succ_eq_append_getElem h, List.map_append]
  rfl
theorem evl_len (rows : List (List UInt8)) : (evl rows).length = rows.length := by unfold evl; rw [List.length_map]
theorem evl_at {rows : List (List UInt8)} {j : Nat} (h : j < (evl rows).length) : (evl rows)[j] = (parseR (rows[j]'(by rwa [evl_len] at h))).1 := List.getElem_map _
theorem evl_append (a b : List (List UInt8)) : evl (a ++ b) = evl a ++ evl b := by unfold evl; rw [List.map_append]

theorem rows_len {l w : List UInt8} (h0 : (splitR l).2 = 0) (h : w ∈ (splitR l).1) : w.length ≤ l.length := by
  have hc : w ∈ cuts 10 l := by
    unfold cuts
    unfold splitR at h h0
    split at h
    · simp at h
    · split at h
      · simp at h
      · exact List.mem_append.2 (.inl h)
  exact cuts_len hc
theorem diaryR_split {l : List UInt8} (h : (splitR l).2 ≠ 0) : diaryR l = ([], 0, (splitR l).2) := by unfold diaryR; rw [if_pos h]
theorem diaryR_rows {l : List UInt8} (h : (splitR l).2 = 0) : diaryR l = evsR (splitR l).1 := by unfold diaryR; rw [if_neg (by omega)]
theorem diaryR_len (l : List UInt8) : (diaryR l).1.length ≤ 400 := by
  unfold diaryR
  split
  · simp
  · rcases evsR_ways (splitR l).1 with h | ⟨i, hi, hj, hb⟩
    · rw [evsR_good h]
      have := splitR_len l
      simpa [evl_len] using this
    · rw [evsR_bad hi hj hb]; simp
theorem diaryR_err {l : List UInt8} (h : (diaryR l).2.2 ≠ 0) : (diaryR l).1 = [] := by
  unfold diaryR at h ⊢
  split
  · rfl
  · rename_i h1
    rw [if_neg h1] at h
    rcases evsR_ways (splitR l).1 with g | ⟨i, hi, hj, hb⟩
    · rw [evsR_good g] at h; exact absurd rfl h
    · rw [evsR_bad hi hj hb]
theorem diaryR_ok {l : List UInt8} (h : (diaryR l).2.2 = 0) : (splitR l).2 = 0 ∧ (∀ j, j < (splitR l).1.length → rowE (splitR l).1 j = 0) ∧ diaryR l = (evl (splitR l).1, 0, 0) := by
  by_cases h1 : (splitR l).2 = 0
  · rw [diaryR_rows h1] at h ⊢
    rcases evsR_ways (splitR l).1 with g | ⟨i, hi, hj, hb⟩
    · exact ⟨h1, g, evsR_good g⟩
    · rw [evsR_bad hi hj hb] at h; exact absurd h hb
  · rw [diaryR_split h1] at h; exact absurd h h1

theorem showD_many {es : List Ev} (h : 400 < es.length) : showD es = ([], 4) := by unfold showD; rw [if_pos h]
theorem showD_bad {es : List Ev} (h : ¬ 400 < es.length) (hb : ∃ e ∈ es, e.right = false) : showD es = ([], 1) := by unfold showD; rw [if_neg h, if_pos hb]
theorem showD_good {es : List Ev} (h : ¬ 400 < es.length) (hg : ∀ e ∈ es, e.right = true) : showD es = ((es.map fun e => (showR e).1 ++ [10]).flatten, 0) := by
  unfold showD
  rw [if_neg h, if_neg (by rintro ⟨e, he, hb⟩; rw [hg e he] at hb; cases hb)]
theorem showD_err {es : List Ev} (h : (showD es).2 ≠ 0) : (showD es).1 = [] := by
  unfold showD at h ⊢
  split
  · rfl
  · rename_i h1
    rw [if_neg h1] at h
    split
    · rfl
    · rename_i h2; rw [if_neg h2] at h; exact absurd rfl h
theorem showD_ok {es : List Ev} (h : (showD es).2 = 0) : ¬ 400 < es.length ∧ ∀ e ∈ es, e.right = true := by
  unfold showD at h
  by_cases h1 : 400 < es.length
  · rw [if_pos h1] at h; cases h
  · rw [if_neg h1] at h
    refine ⟨h1, fun e he => ?_⟩
    cases hr : e.right with
    | true => rfl
    | false => rw [if_pos ⟨e, he, hr⟩] at h; cases h
/-- Events' text. -/
def textD (es : List Ev) : List UInt8 := (es.map fun e => (showR e).1 ++ [10]).flatten
theorem textD_take {es : List Ev} {i : Nat} (h : i < es.length) : textD (es.take (i + 1)) = textD (es.take i) ++ ((showR es[i]).1 ++ [10]) := by
  unfold textD
  rw [List.take_succ_eq_append_getElem h]
  simp only [List.map_append, List.flatten_append, List.map_cons, List.map_nil, List.flatten_cons, List.flatten_nil, List.append_nil]
theorem textD_len : ∀ (es : List Ev), (textD es).length ≤ es.length * 101
  | [] => Nat.zero_le _
  | e :: r => by
    have h1 := textD_len r
    have h2 := showR_len e
    unfold textD at *
    simp only [List.map_cons, List.flatten_cons, List.length_append, List.length_cons, List.length_nil] at *
    omega
/-- The lines of events. -/
def lns (es : List Ev) : List (List UInt8) := es.map fun e => (showR e).1
theorem lns_len (es : List Ev) : (lns es).length = es.length := by unfold lns; rw [List.length_map]
theorem lns_at {es : List Ev} {j : Nat} (h : j < (lns es).length) : (lns es)[j] = (showR (es[j]'(by rwa [lns_len] at h))).1 := List.getElem_map _
theorem word_ten {w : List UInt8} (h : wordB w = true) : (10 : UInt8) ∉ w := by
  unfold wordB at h
  rw [Bool.and_eq_true, List.all_eq_true] at h
  intro hm
  exact absurd (h.2 10 hm) (by decide)
theorem showR_ten (e : Ev) : (10 : UInt8) ∉ (showR e).1 := by
  cases h : e.right with
  | false => rw [showR_bad h]; simp
  | true =>
    unfold showR
    rw [if_neg (by rw [h]; simp)]
    dsimp only
    have a := word_ten (word_sign e.kind.toNat)
    have b := word_ten (num_word e.sess.toNat)
    have c := word_ten (num_word e.key.toNat)
    have d := word_ten (num_word e.val.toNat)
    split <;> simp [a, b, c, d]
theorem joinR_lns {es : List Ev} (h : ¬ 400 < es.length) : joinR (lns es) = ((es.map fun e => (showR e).1 ++ [10]).flatten, 0) := by
  unfold joinR
  rw [lns_len, if_neg h, if_neg (by
    rintro ⟨w, hw, h10⟩
    unfold lns at hw
    obtain ⟨e, -, rfl⟩ := List.mem_map.1 hw
    exact showR_ten e h10)]
  unfold lns
  rw [List.map_map]
  rfl
/-- What is shown is parsed as it was. -/
theorem diary_back {es : List Ev} (h : (showD es).2 = 0) : diaryR (showD es).1 = (es, 0, 0) := by
  obtain ⟨h1, h2⟩ := showD_ok h
  have hj := joinR_lns h1
  have hs := split_join (ls := lns es) (by rw [hj])
  rw [hj] at hs
  rw [showD_good h1 h2, diaryR_rows (by rw [hs]), hs]
  have hp : ∀ j (hj : j < es.length), parseR ((lns es)[j]?.getD []) = (es[j], 0) := fun j hj => by
    rw [List.getElem?_eq_getElem (by rw [lns_len]; exact hj), Option.getD_some, lns_at]
    exact parse_show (h2 _ (List.getElem_mem hj))
  rw [evsR_good fun j hj => by
    rw [lns_len] at hj
    unfold rowE
    rw [hp j hj]]
  have : evl (lns es) = es := by
    apply List.ext_getElem (by rw [evl_len, lns_len])
    intro j h3 h4
    have := hp j h4
    rw [List.getElem?_eq_getElem (by rw [lns_len]; exact h4), Option.getD_some] at this
    rw [evl_at, this]
  rw [this]
/-- What is parsed is shown as it was. -/
theorem diary_forth {l : List UInt8} (h : (diaryR l).2.2 = 0) : showD (diaryR l).1 = (l, 0) := by
  obtain ⟨h1, h2, h3⟩ := diaryR_ok h
  rw [h3]
  have hl := splitR_len l
  have hsp : ∀ j (hj : j < (splitR l).1.length), (parseR (splitR l).1[j]).1.right = true ∧ showR (parseR (splitR l).1[j]).1 = ((splitR l).1[j], 0) := fun j hj => by
    have := h2 j hj
    rw [rowE_at hj] at this
    exact show_parse this
  have hln : lns (evl (splitR l).1) = (splitR l).1 := by
    apply List.ext_getElem (by rw [lns_len, evl_len])
    intro j h5 h6
    rw [lns_at, evl_at, (hsp j h6).2]
  have hr : ∀ e ∈ evl (splitR l).1, e.right = true := fun e he => by
    obtain ⟨j, hj, rfl⟩ := List.getElem_of_mem he
    rw [evl_at]
    exact (hsp j (by rwa [evl_len] at hj)).1
  have h400 : ¬ 400 < (evl (splitR l).1).length := by rw [evl_len]; omega
  dsimp only
  rw [showD_good h400 hr, ← joinR_lns h400, hln, join_split h1]
/-- Two texts, one behind the other. -/
theorem diary_both {a b : List UInt8} (ha : (diaryR a).2.2 = 0) (hb : (diaryR b).2.2 = 0) (hl : (diaryR a).1.length + (diaryR b).1.length ≤ 400) : diaryR (a ++ b) = ((diaryR a).1 ++ (diaryR b).1, 0, 0) := by
  obtain ⟨a1, a2, a3⟩ := diaryR_ok ha
  obtain ⟨b1, b2, b3⟩ := diaryR_ok hb
  rw [a3, b3] at hl ⊢
  simp only [evl_len] at hl
  have hs := split_both a1 b1
  rw [if_neg (by omega)] at hs
  rw [diaryR_rows (by rw [hs]), hs]
  rw [evsR_good fun j hj => ?_, evl_append]
  rw [List.length_append] at hj
  by_cases h : j < (splitR a).1.length
  · rw [rowE_left h]; exact a2 j h
  · have : j = (splitR a).1.length + (j - (splitR a).1.length) := by omega
    rw [this, rowE_right]
    exact b2 _ (by omega)
/-- The first line that is no event's is told, whatever stands behind. -/
theorem diary_first {a : List UInt8} (ha : (splitR a).2 = 0) {i : Nat} (hi : i < (splitR a).1.length) (hj : ∀ j, j < i → rowE (splitR a).1 j = 0) (hb : rowE (splitR a).1 i ≠ 0) (b : List UInt8) (hab : (splitR (a ++ b)).2 = 0) :
    diaryR (a ++ b) = ([], (i : Int) + 1, rowE (splitR a).1 i) := by
  have hrows : ∃ rest, (splitR (a ++ b)).1 = (splitR a).1 ++ rest := by
    have hsegs : (segs 10 a).2 = [] ∧ (splitR a).1 = (segs 10 a).1 := by
      unfold splitR at ha ⊢
      by_cases h1 : a ≠ [] ∧ a.getLast? ≠ some 10
      · rw [if_pos h1] at ha; cases ha
      · rw [if_neg h1] at ha ⊢
        by_cases h2 : 400 < (segs 10 a).1.length
        · rw [if_pos h2] at ha; cases ha
        · rw [if_neg h2]
          refine ⟨?_, rfl⟩
          by_cases h3 : a = []
          · subst h3; rfl
          · exact segs_last (by
              rcases Decidable.em (a.getLast? = some 10) with h4 | h4
              · exact h4
              · exact absurd ⟨h3, h4⟩ h1)
    refine ⟨(segs 10 b).1, ?_⟩
    rw [hsegs.2]
    unfold splitR at hab ⊢
    by_cases h1 : a ++ b ≠ [] ∧ (a ++ b).getLast? ≠ some 10
    · rw [if_pos h1] at hab; cases hab
    · rw [if_neg h1] at hab ⊢
      by_cases h2 : 400 < (segs 10 (a ++ b)).1.length
      · rw [if_pos h2] at hab; cases hab
      · rw [if_neg h2, segs_closed hsegs.1]
  obtain ⟨rest, hr⟩ := hrows
  rw [diaryR_rows hab, hr]
  have := evsR_bad (rows := (splitR a).1 ++ rest) (i := i) (by rw [List.length_append]; omega) (fun j h => by rw [rowE_left (by omega)]; exact hj j h) (by rw [rowE_left hi]; exact hb)
  rw [this, rowE_left hi]
end Go.Inq
