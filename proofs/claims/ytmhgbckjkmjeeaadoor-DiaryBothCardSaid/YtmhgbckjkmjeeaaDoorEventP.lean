/-
  Plain laws of layer 3: an event's line; no program in sight.
-/
import Derived.Test.YtmhgbckjkmjeeaaDoorNumP
import Derived.Test.YtmhgbckjkmjeeaaDoorEv
set_option linter.unusedVariables false
set_option linter.unusedSimpArgs false
namespace Go.Inq
open Go

/-- A kind's word. -/
def wordK : Nat → List UInt8
  | 0 => [98, 101, 103, 105, 110]
  | 1 => [114, 101, 97, 100]
  | 2 => [119, 114, 105, 116, 101]
  | 3 => [99, 111, 109, 109, 105, 116]
  | _ => [97, 98, 111, 114, 116]
/-- The last of the first k kinds with this word. -/
def kindTo (w : List UInt8) : Nat → Int
  | 0 => -1
  | k + 1 => if wordK k = w then k else kindTo w k
def kindOf (w : List UInt8) : Int := kindTo w 5
theorem kindTo_lt (w : List UInt8) : ∀ k : Nat, -1 ≤ kindTo w k ∧ kindTo w k < k
  | 0 => by simp [kindTo]
  | k + 1 => by
    have := kindTo_lt w k
    unfold kindTo
    split <;> omega
theorem kindTo_word (w : List UInt8) : ∀ k : Nat, 0 ≤ kindTo w k → wordK (kindTo w k).toNat = w
  | 0, h => by simp [kindTo] at h
  | k + 1, h => by
    unfold kindTo at h ⊢
    split
    · rename_i e; exact e
    · rename_i e; rw [if_neg e] at h; exact kindTo_word w k h
theorem kind_word {k : Nat} (h : k < 5) : kindOf (wordK k) = k := by
  match k, h with
  | 0, _ => rfl
  | 1, _ => rfl
  | 2, _ => rfl
  | 3, _ => rfl
  | 4, _ => rfl
theorem kind_lt (w : List UInt8) : -1 ≤ kindOf w ∧ kindOf w < 5 := kindTo_lt w 5

/-- Numbers in digits, one behind the other, or what is wrong with the first that is none. -/
def numsR : List (List UInt8) → List Int × Int
  | [] => ([], 0)
  | w :: r => if (wholeR w).2 ≠ 0 then ([], (wholeR w).2) else if (numsR r).2 ≠ 0 then ([], (numsR r).2) else ((wholeR w).1 :: (numsR r).1, 0)
theorem numsR_cons (w : List UInt8) (r : List (List UInt8)) : numsR (w :: r) = if (wholeR w).2 ≠ 0 then ([], (wholeR w).2) else if (numsR r).2 ≠ 0 then ([], (numsR r).2) else ((wholeR w).1 :: (numsR r).1, 0) := by rw [numsR]
def Ev.zero : Ev := ⟨0, 0, 0, 0⟩
/-- How many numbers a kind has. -/
def manyK (k : Int) : Nat := if itemB k then 3 else 1
/-- The event of words. -/
def evR (ws : List (List UInt8)) : Ev × Int :=
  let k := kindOf (ws[0]?.getD [])
  if k < 0 ∨ ws.length ≠ manyK k + 1 then (Ev.zero, 2)
  else if (numsR (ws.drop 1)).2 ≠ 0 then (Ev.zero, (numsR (ws.drop 1)).2)
  else
    let ns := (numsR (ws.drop 1)).1
    if (7 : Int) < ns[0]?.getD 0 ∨ (15 : Int) < ns[1]?.getD 0 then (Ev.zero, 4) else (⟨k, ns[0]?.getD 0, ns[1]?.getD 0, ns[2]?.getD 0⟩, 0)
/-- A line's event, or what is wrong. -/
def parseR (l : List UInt8) : Ev × Int := if (wordsR l).2 ≠ 0 then (Ev.zero, (wordsR l).2) else evR (wordsR l).1
/-- An event's line, or what is wrong. -/
def showR (e : Ev) : List UInt8 × Int :=
  if e.right = false then ([], 1)
  else (wordK e.kind.toNat ++ 32 :: numR e.sess.toNat ++ (if itemB e.kind then 32 :: numR e.key.toNat ++ 32 :: numR e.val.toNat else []), 0)

theorem word_sign (k : Nat) : wordB (wordK k) = true := by
  unfold wordK
  split <;> rfl
theorem digit_sign {b : UInt8} (h : digitB b = true) : signB b = true := by
  have h2 := (digit_iff b).1 h
  unfold signB
  simp [UInt8.le_iff_toNat_le]
  omega
theorem num_word (n : Nat) : wordB (numR n) = true := by
  unfold wordB
  rw [Bool.and_eq_true]
  exact ⟨by simpa using numR_ne n, List.all_eq_true.2 fun b hb => digit_sign (numR_digits n b hb)⟩
theorem word_free {w : List UInt8} (h : wordB w = true) : ∀ b ∈ w, b ≠ 32 := by
  unfold wordB at h
  rw [Bool.and_eq_true, List.all_eq_true] at h
  exact fun b hb => sign_ne (h.2 b hb)
theorem cuts_one {w : List UInt8} (h : wordB w = true) : cuts 32 w = [w] := by
  unfold cuts; rw [segs_miss (word_free h)]; rfl
theorem cuts_cons {w r : List UInt8} (h : wordB w = true) : cuts 32 (w ++ 32 :: r) = w :: cuts 32 r := by
  unfold cuts; rw [segs_hit (word_free h)]; rfl
theorem words_of {l : List UInt8} {ws : List (List UInt8)} (h : cuts 32 l = ws) (h8 : ws.length ≤ 8) (hg : ∀ w ∈ ws, wordB w = true) : wordsR l = (ws, 0) := by
  unfold wordsR
  rw [h, if_pos ⟨h8, List.all_eq_true.2 hg⟩]
theorem words_2 {a b : List UInt8} (ha : wordB a = true) (hb : wordB b = true) : wordsR (a ++ 32 :: b) = ([a, b], 0) :=
  words_of (by rw [cuts_cons ha, cuts_one hb]) (by simp) (by simp [ha, hb])
theorem words_4 {a b c d : List UInt8} (ha : wordB a = true) (hb : wordB b = true) (hc : wordB c = true) (hd : wordB d = true) : wordsR (a ++ 32 :: (b ++ 32 :: (c ++ 32 :: d))) = ([a, b, c, d], 0) :=
  words_of (by rw [cuts_cons ha, cuts_cons hb, cuts_cons hc, cuts_one hd]) (by simp) (by simp [ha, hb, hc, hd])

theorem right_facts {e : Ev} (h : e.right = true) : (∃ k : Nat, k < 5 ∧ e.kind = k) ∧ (∃ s : Nat, s < 8 ∧ e.sess = s) ∧
    ((itemB e.kind = true ∧ (∃ y : Nat, y < 16 ∧ e.key = y) ∧ ∃ v : Nat, v ≤ 2147483647 ∧ e.val = v) ∨ (itemB e.kind = false ∧ e.key = 0 ∧ e.val = 0)) := by
  unfold Ev.right belowB at h
  rw [Bool.and_eq_true, Bool.and_eq_true, Bool.and_eq_true, Bool.and_eq_true] at h
  simp only [decide_eq_true_eq] at h
  obtain ⟨⟨h1, h2⟩, h3⟩ := h
  refine ⟨⟨e.kind.toNat, by omega, by omega⟩, ⟨e.sess.toNat, by omega, by omega⟩, ?_⟩
  cases hi : itemB e.kind with
  | true =>
    rw [hi] at h3
    simp at h3
    exact .inl ⟨rfl, ⟨e.key.toNat, by omega, by omega⟩, ⟨e.val.toNat, by omega, by omega⟩⟩
  | false =>
    rw [hi] at h3
    simp at h3
    exact .inr ⟨rfl, h3.1, h3.2⟩

/-- What is shown is parsed as it was. -/
theorem parse_show {e : Ev} (h : e.right = true) : parseR (showR e).1 = (e, 0) := by
  obtain ⟨⟨k, hk, ek⟩, ⟨s, hs, es⟩, hc⟩ := right_facts h
  unfold showR
  rw [if_neg (by rw [h]; simp)]
  dsimp only
  rcases hc with ⟨hi, ⟨y, hy, ey⟩, v, hv, ev⟩ | ⟨hi, ey, ev⟩
  · rw [hi, if_pos rfl, ek, es, ey, ev]
    simp only [Int.toNat_natCast, List.append_assoc, List.cons_append]
    unfold parseR
    rw [words_4 (word_sign k) (num_word s) (num_word y) (num_word v), if_neg (by simp)]
    have hn : numsR [numR s, numR y, numR v] = ([(s : Int), (y : Int), (v : Int)], 0) := by
      simp [numsR, whole_num (show s ≤ 2147483647 by omega), whole_num (show y ≤ 2147483647 by omega), whole_num hv]
    unfold evR
    simp only [List.getElem?_cons_zero, Option.getD_some, kind_word hk, List.drop_succ_cons, List.drop_zero, hn, List.length_cons, List.length_nil, List.getElem?_cons_succ]
    rw [ek] at hi
    rw [if_neg (show ¬ ((k : Int) < 0 ∨ _) by unfold manyK; rw [hi]; simp), if_neg (by simp), if_neg (by omega)]
    cases e
    simp at ek es ey ev
    rw [ek, es, ey, ev]
  · rw [hi, if_neg (by simp), ek, es, List.append_nil]
    simp only [Int.toNat_natCast]
    unfold parseR
    rw [words_2 (word_sign k) (num_word s), if_neg (by simp)]
    have hn : numsR [numR s] = ([(s : Int)], 0) := by
      simp [numsR, whole_num (show s ≤ 2147483647 by omega)]
    unfold evR
    simp only [List.getElem?_cons_zero, Option.getD_some, kind_word hk, List.drop_succ_cons, List.drop_zero, hn, List.length_cons, List.length_nil, List.getElem?_cons_succ, List.getElem?_nil, Option.getD_none]
    rw [ek] at hi
    rw [if_neg (show ¬ ((k : Int) < 0 ∨ _) by unfold manyK; rw [hi]; simp), if_neg (by simp), if_neg (by omega)]
    cases e
    simp at ek es ey ev
    rw [ek, es, ey, ev]

theorem join_2 {l a b : List UInt8} (h : cuts 32 l = [a, b]) : l = a ++ 32 :: b := by
  have hw := segs_whole 32 l
  unfold cuts at h
  have hl : (segs 32 l).1.length = 1 := by have := congrArg List.length h; simpa using this
  match hs : (segs 32 l).1, hl with
  | [x], _ =>
    rw [hs] at h hw
    injection h with h1 h2
    injection h2 with h2
    rw [h1, h2] at hw
    rw [← hw]
    simp
theorem join_4 {l a b c d : List UInt8} (h : cuts 32 l = [a, b, c, d]) : l = a ++ 32 :: (b ++ 32 :: (c ++ 32 :: d)) := by
  have hw := segs_whole 32 l
  unfold cuts at h
  have hl : (segs 32 l).1.length = 3 := by have := congrArg List.length h; simpa using this
  match hs : (segs 32 l).1, hl with
  | [x, y, z], _ =>
    rw [hs] at h hw
    injection h with h1 h2
    injection h2 with h2 h3
    injection h3 with h3 h4
    injection h4 with h4
    rw [h1, h2, h3, h4] at hw
    rw [← hw]
    simp
theorem words_ok {l : List UInt8} (h : (wordsR l).2 = 0) : (wordsR l).1 = cuts 32 l := by
  unfold wordsR at h ⊢
  split
  · rfl
  · rename_i h1; rw [if_neg h1] at h; cases h
theorem words_len1 {l : List UInt8} (h : (wordsR l).2 = 0) : 1 ≤ (wordsR l).1.length := by
  rw [words_ok h]; unfold cuts; simp

/-- What is parsed may be, and is shown as it was. -/
theorem show_parse {l : List UInt8} (h : (parseR l).2 = 0) : (parseR l).1.right = true ∧ showR (parseR l).1 = (l, 0) := by
  unfold parseR at h ⊢
  by_cases h1 : (wordsR l).2 ≠ 0
  · rw [if_pos h1] at h; exact absurd h h1
  rw [if_neg h1] at h ⊢
  have hc := words_ok (by omega : (wordsR l).2 = 0)
  generalize (wordsR l).1 = ws at *
  unfold evR at h ⊢
  dsimp only at h ⊢
  by_cases h2 : kindOf (ws[0]?.getD []) < 0 ∨ ws.length ≠ manyK (kindOf (ws[0]?.getD [])) + 1
  · rw [if_pos h2] at h; cases h
  rw [if_neg h2] at h ⊢
  by_cases h3 : (numsR (ws.drop 1)).2 ≠ 0
  · rw [if_pos h3] at h; exact absurd h h3
  rw [if_neg h3] at h ⊢
  by_cases h4 : (7 : Int) < (numsR (ws.drop 1)).1[0]?.getD 0 ∨ (15 : Int) < (numsR (ws.drop 1)).1[1]?.getD 0
  · rw [if_pos h4] at h; cases h
  rw [if_neg h4]
  have hk0 : 0 ≤ kindOf (ws[0]?.getD []) := by omega
  have hk5 := (kind_lt (ws[0]?.getD [])).2
  have hkw := kindTo_word (ws[0]?.getD []) 5 hk0
  have hlen : ws.length = manyK (kindOf (ws[0]?.getD [])) + 1 := by omega
  change wordK (kindOf (ws[0]?.getD [])).toNat = _ at hkw
  have step : ∀ (w : List UInt8) (r : List (List UInt8)), (numsR (w :: r)).2 = 0 → (wholeR w).2 = 0 ∧ (numsR r).2 = 0 ∧ (numsR (w :: r)).1 = (wholeR w).1 :: (numsR r).1 := by
    intro w r hh
    rw [numsR_cons] at hh ⊢
    by_cases g1 : (wholeR w).2 ≠ 0
    · rw [if_pos g1] at hh; exact absurd hh g1
    · rw [if_neg g1] at hh ⊢
      by_cases g2 : (numsR r).2 ≠ 0
      · rw [if_pos g2] at hh; exact absurd hh g2
      · rw [if_neg g2]; exact ⟨by omega, by omega, rfl⟩
  cases hi : itemB (kindOf (ws[0]?.getD [])) with
  | true =>
    unfold manyK at hlen
    rw [hi] at hlen
    match ws, hlen with
    | [a, b, c, d], _ =>
      simp only [List.getElem?_cons_zero, Option.getD_some, List.drop_succ_cons, List.drop_zero] at *
      obtain ⟨g1, g2, g3⟩ := step b [c, d] (by omega)
      obtain ⟨g4, g5, g6⟩ := step c [d] g2
      obtain ⟨g7, g8, g9⟩ := step d [] g5
      rw [g3, g6, g9] at h4 ⊢
      obtain ⟨n1, m1, e1, w1⟩ := whole_of g1
      obtain ⟨n2, m2, e2, w2⟩ := whole_of g4
      obtain ⟨n3, m3, e3, w3⟩ := whole_of g7
      simp only [List.getElem?_cons_zero, Option.getD_some, List.getElem?_cons_succ] at h4 ⊢
      rw [e1, e2] at h4
      rw [e1, e2, e3]
      have hr : (Ev.mk (kindOf a) n1 n2 n3).right = true := by
        unfold Ev.right
        dsimp only
        rw [hi]
        simp [belowB]
        omega
      refine ⟨hr, ?_⟩
      unfold showR
      rw [if_neg (by rw [hr]; simp)]
      dsimp only
      rw [hi, if_pos rfl, hkw, Int.toNat_natCast, Int.toNat_natCast, Int.toNat_natCast, ← w1, ← w2, ← w3, join_4 hc.symm]
      simp
  | false =>
    unfold manyK at hlen
    rw [hi] at hlen
    match ws, hlen with
    | [a, b], _ =>
      simp only [List.getElem?_cons_zero, Option.getD_some, List.drop_succ_cons, List.drop_zero] at *
      obtain ⟨g1, g2, g3⟩ := step b [] (by omega)
      have g4 : (numsR []).1 = [] := rfl
      rw [g3, g4] at h4 ⊢
      obtain ⟨n1, m1, e1, w1⟩ := whole_of g1
      simp only [List.getElem?_cons_zero, Option.getD_some, List.getElem?_cons_succ, List.getElem?_nil, Option.getD_none] at h4 ⊢
      rw [e1] at h4
      rw [e1]
      have hr : (Ev.mk (kindOf a) n1 0 0).right = true := by
        unfold Ev.right
        dsimp only
        rw [hi]
        simp [belowB]
        omega
      refine ⟨hr, ?_⟩
      unfold showR
      rw [if_neg (by rw [hr]; simp)]
      dsimp only
      rw [hi, if_neg (by simp), hkw, Int.toNat_natCast, ← w1, List.append_nil, join_2 hc.symm]
theorem words_len {l w : List UInt8} (h0 : (wordsR l).2 = 0) (h : w ∈ (wordsR l).1) : w.length ≤ l.length := by
  rw [words_ok h0] at h
  exact cuts_len h
/-- The number at a word. -/
def errW (ws : List (List UInt8)) (j : Nat) : Int := (wholeR (ws[j]?.getD [])).2
def numW (ws : List (List UInt8)) (j : Nat) : Int := if j < ws.length then (wholeR (ws[j]?.getD [])).1 else 0
theorem numsR_ok : ∀ {l : List (List UInt8)}, (∀ w ∈ l, (wholeR w).2 = 0) → numsR l = (l.map fun w => (wholeR w).1, 0)
  | [], _ => rfl
  | w :: r, h => by
    rw [numsR_cons, numsR_ok (fun x hx => h x (by simp [hx])), if_neg (by rw [h w (by simp)]; simp), if_neg (by simp)]
    rfl
theorem numsR_bad : ∀ {l : List (List UInt8)} {i : Nat} (hi : i < l.length), (∀ j (h : j < i), (wholeR l[j]).2 = 0) → (wholeR l[i]).2 ≠ 0 → (numsR l).2 = (wholeR l[i]).2
  | [], i, hi, _, _ => by simp at hi
  | w :: r, 0, _, _, hb => by
    rw [numsR_cons, if_pos (show (wholeR w).2 ≠ 0 from hb)]
    rfl
  | w :: r, i + 1, hi, hj, hb => by
    have h0 := hj 0 (by omega)
    have ih := numsR_bad (l := r) (i := i) (by simpa using hi) (fun j h => by simpa using hj (j + 1) (by omega)) (by simpa using hb)
    rw [numsR_cons, if_neg (by simpa using h0), if_pos (by rw [ih]; simpa using hb)]
    simpa using ih
theorem evR_form {ws : List (List UInt8)} (h : kindOf (ws[0]?.getD []) < 0 ∨ ws.length ≠ manyK (kindOf (ws[0]?.getD [])) + 1) : evR ws = (Ev.zero, 2) := by
  unfold evR
  dsimp only
  rw [if_pos h]
theorem evR_bad {ws : List (List UInt8)} (h : ¬ (kindOf (ws[0]?.getD []) < 0 ∨ ws.length ≠ manyK (kindOf (ws[0]?.getD [])) + 1)) {i : Nat} (hi : i + 1 < ws.length)
    (hj : ∀ j, j < i → errW ws (j + 1) = 0) (hb : errW ws (i + 1) ≠ 0) : evR ws = (Ev.zero, errW ws (i + 1)) := by
  have hl : (ws.drop 1).length = ws.length - 1 := List.length_drop ..
  have hg : ∀ j (hj : j < (ws.drop 1).length), (wholeR (ws.drop 1)[j]).2 = errW ws (j + 1) := fun j hj => by
    unfold errW
    rw [List.getElem_drop, List.getElem?_eq_getElem (show j + 1 < ws.length by omega), Option.getD_some]
    congr 3
    omega
  have hn := numsR_bad (l := ws.drop 1) (i := i) (by omega) (fun j h => by rw [hg j (by omega)]; exact hj j h) (by rw [hg i (by omega)]; exact hb)
  rw [hg i (by omega)] at hn
  unfold evR
  dsimp only
  rw [if_neg h, hn, if_pos hb]
theorem evR_good {ws : List (List UInt8)} (h : ¬ (kindOf (ws[0]?.getD []) < 0 ∨ ws.length ≠ manyK (kindOf (ws[0]?.getD [])) + 1)) (hj : ∀ j, j + 1 < ws.length → errW ws (j + 1) = 0) :
    evR ws = if 7 < numW ws 1 ∨ 15 < numW ws 2 then (Ev.zero, 4) else (⟨kindOf (ws[0]?.getD []), numW ws 1, numW ws 2, numW ws 3⟩, 0) := by
  have hl : (ws.drop 1).length = ws.length - 1 := List.length_drop ..
  have hn := numsR_ok (l := ws.drop 1) (fun w hw => by
    obtain ⟨j, hj2, e⟩ := List.getElem_of_mem hw
    have := hj j (by omega)
    unfold errW at this
    rw [List.getElem?_eq_getElem (show j + 1 < ws.length by omega), Option.getD_some] at this
    rw [← e, List.getElem_drop]
    have e2 : ws[1 + j]'(by omega) = ws[j + 1]'(by omega) := by congr 1; omega
    rw [e2]
    exact this)
  have hv : ∀ j, ((ws.drop 1).map fun w => (wholeR w).1)[j]?.getD 0 = numW ws (j + 1) := fun j => by
    rw [List.getElem?_map, List.getElem?_drop]
    unfold numW
    by_cases hlt : j + 1 < ws.length
    · rw [if_pos hlt, Nat.add_comm 1 j, List.getElem?_eq_getElem hlt]
      rfl
    · rw [if_neg hlt, List.getElem?_eq_none (by omega)]
      rfl
  unfold evR
  dsimp only
  rw [if_neg h, hn, if_neg (by simp)]
  dsimp only
  rw [hv 0, hv 1, hv 2]
/-- The first m numbers behind a line's first word, in three cells. -/
def nval (ws : List (List UInt8)) (m j : Nat) : Int := if j ≤ m then (wholeR (ws[j]?.getD [])).1 else 0
def nrow (ws : List (List UInt8)) (m : Nat) : Array Value := #[.int .i64 (nval ws m 1), .int .i64 (nval ws m 2), .int .i64 (nval ws m 3)]
theorem nrow_zero (ws : List (List UInt8)) : nrow ws 0 = #[.int .i64 0, .int .i64 0, .int .i64 0] := rfl
theorem nrow_step (ws : List (List UInt8)) {m : Nat} (h : m < 3) : (nrow ws m).setIfInBounds m (.int .i64 (wholeR (ws[m + 1]?.getD [])).1) = nrow ws (m + 1) := by
  match m, h with
  | 0, _ => simp [nrow, nval]
  | 1, _ => simp [nrow, nval]
  | 2, _ => simp [nrow, nval]
theorem nval_end {ws : List (List UInt8)} {m : Nat} (h : m + 1 = ws.length) (j : Nat) : nval ws m j = numW ws j := by
  unfold nval numW
  by_cases h1 : j ≤ m
  · rw [if_pos h1, if_pos (by omega)]
  · rw [if_neg h1, if_neg (by omega)]
theorem parseR_words {l : List UInt8} (h : (wordsR l).2 = 0) : parseR l = evR (wordsR l).1 := by unfold parseR; rw [if_neg (by omega)]
theorem parseR_bad {l : List UInt8} (h : (wordsR l).2 ≠ 0) : parseR l = (Ev.zero, (wordsR l).2) := by unfold parseR; rw [if_pos h]
theorem kindTo_hit {w : List UInt8} {k : Nat} (h : wordK k = w) : kindTo w (k + 1) = k := by unfold kindTo; rw [if_pos h]
theorem kindTo_miss {w : List UInt8} {k : Nat} (h : wordK k ≠ w) : kindTo w (k + 1) = kindTo w k := by rw [kindTo, if_neg h]
end Go.Inq
