/-
  Plain laws of layer 1: numbers in digits; no program in sight.
-/
import Derived.Test.YtmhgbckjkmjeeaaDoorLineP
set_option linter.unusedVariables false
set_option linter.unusedSimpArgs false
namespace Go.Inq
open Go

def digitB (b : UInt8) : Bool := 48 ≤ b && b ≤ 57
theorem digit_iff (b : UInt8) : digitB b = true ↔ 48 ≤ b.toNat ∧ b.toNat ≤ 57 := by
  unfold digitB
  simp [UInt8.le_iff_toNat_le]
/-- A digit's byte. -/
def dig (d : Nat) : UInt8 := UInt8.ofNat (48 + d)
theorem dig_toNat {d : Nat} (h : d < 10) : (dig d).toNat = 48 + d := by
  unfold dig
  rw [UInt8.toNat_ofNat']
  omega
theorem dig_digit {d : Nat} (h : d < 10) : digitB (dig d) = true := by
  rw [digit_iff, dig_toNat h]; omega
theorem dig_of {b : UInt8} (h : digitB b = true) : dig (b.toNat - 48) = b := by
  rw [digit_iff] at h
  apply UInt8.toNat_inj.1
  rw [dig_toNat (by omega)]
  omega
def valN (ds : List UInt8) : Nat := ds.foldl (fun n b => 10 * n + (b.toNat - 48)) 0
theorem valN_snoc (ds : List UInt8) (b : UInt8) : valN (ds ++ [b]) = 10 * valN ds + (b.toNat - 48) := by
  unfold valN; rw [List.foldl_append]; rfl
theorem valN_take {ds : List UInt8} {i : Nat} (hi : i < ds.length) : valN (ds.take (i + 1)) = 10 * valN (ds.take i) + (ds[i].toNat - 48) := by
  rw [List.take_succ_eq_append_getElem hi, valN_snoc]
theorem valN_grow (ds : List UInt8) : ∀ (k i : Nat), i + k ≤ ds.length → valN (ds.take i) ≤ valN (ds.take (i + k))
  | 0, i, _ => Nat.le_refl _
  | k + 1, i, h => by
    have h1 := valN_grow ds k i (by omega)
    rw [← Nat.add_assoc, valN_take (by omega)]
    omega
theorem valN_le {ds : List UInt8} {i j : Nat} (h : i ≤ j) (hj : j ≤ ds.length) : valN (ds.take i) ≤ valN (ds.take j) := by
  have := valN_grow ds (j - i) i (by omega)
  rwa [show i + (j - i) = j by omega] at this

/-- A number in digits ('f': at least one more than the number). -/
def digF : Nat → Nat → List UInt8
  | 0, _ => []
  | f + 1, n => if n < 10 then [dig n] else digF f (n / 10) ++ [dig (n % 10)]
def numR (n : Nat) : List UInt8 := digF (n + 1) n
theorem digF_any : ∀ (f f' n : Nat), n < f → n < f' → digF f n = digF f' n
  | f + 1, f' + 1, n, h, h' => by
    unfold digF
    split
    · rfl
    · rw [digF_any f f' (n / 10) (by omega) (by omega)]
  | 0, _, _, h, _ => absurd h (by omega)
  | _ + 1, 0, _, _, h => absurd h (by omega)
theorem numR_low {n : Nat} (h : n < 10) : numR n = [dig n] := by
  unfold numR digF; rw [if_pos h]
theorem numR_high {n : Nat} (h : ¬ n < 10) : numR n = numR (n / 10) ++ [dig (n % 10)] := by
  unfold numR
  rw [digF, if_neg h, digF_any n (n / 10 + 1) (n / 10) (by omega) (by omega)]
theorem numR_ind {P : Nat → Prop} (h1 : ∀ n, n < 10 → P n) (h2 : ∀ n, ¬ n < 10 → P (n / 10) → P n) (n : Nat) : P n := by
  induction n using Nat.strongRecOn with
  | _ n ih =>
    by_cases h : n < 10
    · exact h1 n h
    · exact h2 n h (ih _ (by omega))
theorem numR_val (n : Nat) : valN (numR n) = n := by
  refine numR_ind (P := fun n => valN (numR n) = n) (fun n h => ?_) (fun n h ih => ?_) n
  · rw [numR_low h]; unfold valN; simp [dig_toNat h]
  · rw [numR_high h, valN_snoc, ih, dig_toNat (by omega)]; omega
theorem numR_digits (n : Nat) : ∀ b ∈ numR n, digitB b = true := by
  refine numR_ind (P := fun n => ∀ b ∈ numR n, digitB b = true) (fun n h b hb => ?_) (fun n h ih b hb => ?_) n
  · rw [numR_low h, List.mem_singleton] at hb; subst hb; exact dig_digit h
  · rw [numR_high h] at hb
    rcases List.mem_append.1 hb with h1 | h1
    · exact ih b h1
    · rw [List.mem_singleton] at h1; subst h1; exact dig_digit (by omega)
theorem numR_len : ∀ (k n : Nat), n < 10 ^ (k + 1) → (numR n).length ≤ k + 1
  | 0, n, h => by
    rw [numR_low (by omega)]
    exact Nat.le_refl _
  | k + 1, n, h => by
    by_cases h10 : n < 10
    · rw [numR_low h10]; simp
    · rw [numR_high h10, List.length_append, List.length_singleton]
      have := numR_len k (n / 10) (by rw [Nat.pow_succ] at h; omega)
      omega
theorem numR_ten {n : Nat} (h : n ≤ 2147483647) : (numR n).length ≤ 10 := numR_len 9 n (by omega)
theorem numR_ne (n : Nat) : numR n ≠ [] := by
  by_cases h : n < 10
  · rw [numR_low h]; simp
  · rw [numR_high h]; simp
/-- No digits ahead but where it is 0 alone. -/
def plainD (ds : List UInt8) : Bool := !ds.isEmpty && (decide (ds.length ≤ 1) || decide (ds.head? ≠ some 48))
theorem numR_head (n : Nat) : 0 < n → (numR n).head? ≠ some 48 := by
  refine numR_ind (P := fun n => 0 < n → (numR n).head? ≠ some 48) (fun n h hn => ?_) (fun n h ih hn => ?_) n
  · rw [numR_low h]
    intro e
    injection e with e
    have := congrArg UInt8.toNat e
    rw [dig_toNat h] at this
    have h48 : (48 : UInt8).toNat = 48 := rfl
    omega
  · rw [numR_high h, List.head?_append]
    have h1 := ih (by omega)
    cases hh : (numR (n / 10)).head? with
    | none => exact absurd (List.head?_eq_none_iff.1 hh) (numR_ne _)
    | some x => rw [hh] at h1; exact h1
theorem numR_plain (n : Nat) : plainD (numR n) = true := by
  unfold plainD
  rw [Bool.and_eq_true]
  refine ⟨by simpa using numR_ne n, ?_⟩
  rw [Bool.or_eq_true, decide_eq_true_iff, decide_eq_true_iff]
  by_cases h : n < 10
  · left; rw [numR_low h]; simp
  · right; exact numR_head n (by omega)
theorem numR_of : ∀ (k : Nat) (ds : List UInt8), ds.length = k → (∀ b ∈ ds, digitB b = true) → plainD ds = true → numR (valN ds) = ds
  | 0, ds, hk, _, hp => by
    rw [List.eq_nil_of_length_eq_zero hk] at hp
    cases hp
  | k + 1, ds, hk, hd, hp => by
    rcases List.eq_nil_or_concat ds with h | ⟨r, b, h⟩
    · rw [h] at hk; cases hk
    · rw [List.concat_eq_append] at h
      subst h
      have hr : ∀ x ∈ r, digitB x = true := fun x hx => hd x (by simp [hx])
      have hb : digitB b = true := hd b (by simp)
      have hb2 := (digit_iff b).1 hb
      rw [valN_snoc]
      by_cases h0 : r = []
      · subst h0
        have e : 10 * valN [] + (b.toNat - 48) = b.toNat - 48 := by unfold valN; simp
        rw [e, numR_low (show b.toNat - 48 < 10 by omega), dig_of hb]
        rfl
      · have hrl : 0 < r.length := List.length_pos_iff.2 h0
        have hh : (r ++ [b]).head? = r.head? := by
          cases r with
          | nil => exact absurd rfl h0
          | cons => rfl
        have hh48 : r.head? ≠ some 48 := by
          unfold plainD at hp
          rw [Bool.and_eq_true, Bool.or_eq_true, decide_eq_true_iff, decide_eq_true_iff, hh] at hp
          rcases hp.2 with h1 | h1
          · exact absurd h1 (by rw [List.length_append, List.length_singleton]; omega)
          · exact h1
        have hrp : plainD r = true := by
          unfold plainD
          rw [Bool.and_eq_true, Bool.or_eq_true, decide_eq_true_iff, decide_eq_true_iff]
          exact ⟨by simpa using h0, .inr hh48⟩
        have ih := numR_of k r (by simpa using hk) hr hrp
        have hv : 1 ≤ valN r := by
          rcases Nat.eq_zero_or_pos (valN r) with h1 | h1
          · rw [h1] at ih
            rw [← ih, numR_low (show 0 < 10 by decide)] at hh48
            exact absurd rfl hh48
          · exact h1
        rw [numR_high (show ¬ 10 * valN r + (b.toNat - 48) < 10 by omega), show (10 * valN r + (b.toNat - 48)) / 10 = valN r by omega, ih, show (10 * valN r + (b.toNat - 48)) % 10 = b.toNat - 48 by omega, dig_of hb]

/-- The number at a place of a text: the number, the place behind it, what is wrong. -/
def takeD (ds : List UInt8) (at_ : Nat) : Int × Int × Int :=
  if plainD ds = false then (0, 0, 2) else if 2147483647 < valN ds then (0, 0, 3) else (valN ds, at_ + ds.length, 0)
def takeR (l : List UInt8) (at_ : Nat) : Int × Int × Int := takeD ((l.drop at_).takeWhile digitB) at_
/-- A number in digits, or what is wrong. -/
def showN (n : Int) : List UInt8 × Int := if 0 ≤ n ∧ n ≤ 2147483647 then (numR n.toNat, 0) else ([], 1)
/-- The number that a whole text is. -/
def wholeR (l : List UInt8) : Int × Int :=
  if (takeR l 0).2.2 ≠ 0 then (0, (takeR l 0).2.2) else if (takeR l 0).2.1 < l.length then (0, 2) else ((takeR l 0).1, 0)

theorem takeWhile_all {p : UInt8 → Bool} : ∀ {l : List UInt8}, (∀ b ∈ l, p b = true) → l.takeWhile p = l
  | [], _ => rfl
  | x :: r, h => by rw [List.takeWhile_cons, if_pos (h x (by simp)), takeWhile_all (fun b hb => h b (by simp [hb]))]
theorem takeWhile_len (l : List UInt8) (p : UInt8 → Bool) : (l.takeWhile p).length ≤ l.length := by
  induction l with
  | nil => simp
  | cons x r ih =>
    rw [List.takeWhile_cons]
    split <;> simp <;> omega
theorem takeWhile_get {p : UInt8 → Bool} : ∀ (l : List UInt8) (i : Nat) (h : i < (l.takeWhile p).length), ∃ h2 : i < l.length, (l.takeWhile p)[i] = l[i] ∧ p l[i] = true
  | [], i, h => by simp at h
  | x :: r, i, h => by
    by_cases hx : p x = true
    · have e : (x :: r).takeWhile p = x :: r.takeWhile p := by rw [List.takeWhile_cons, if_pos hx]
      cases i with
      | zero => exact ⟨by simp, by simp only [e, List.getElem_cons_zero], hx⟩
      | succ i =>
        have h3 : i < (r.takeWhile p).length := by rw [e, List.length_cons] at h; omega
        obtain ⟨h4, h5, h6⟩ := takeWhile_get r i h3
        exact ⟨by rw [List.length_cons]; omega, by simp only [e, List.getElem_cons_succ]; exact h5, by simpa using h6⟩
    · rw [List.takeWhile_cons, if_neg hx] at h
      simp at h
theorem takeWhile_stop {p : UInt8 → Bool} : ∀ (l : List UInt8) (h : (l.takeWhile p).length < l.length), p l[(l.takeWhile p).length] = false
  | [], h => by simp at h
  | x :: r, h => by
    by_cases hx : p x = true
    · have e : (x :: r).takeWhile p = x :: r.takeWhile p := by rw [List.takeWhile_cons, if_pos hx]
      have h3 : (r.takeWhile p).length < r.length := by rw [e, List.length_cons, List.length_cons] at h; omega
      have := takeWhile_stop r h3
      simp only [e, List.length_cons, List.getElem_cons_succ]
      exact this
    · have e : (x :: r).takeWhile p = [] := by rw [List.takeWhile_cons, if_neg hx]
      simp only [e, List.length_nil, List.getElem_cons_zero]
      simpa using hx
/-- The digits at a place, and the numbers on the way. -/
def digsAt (s : ByteArray) (a : Nat) : List UInt8 := (s.data.toList.drop a).takeWhile digitB
def manyAt (s : ByteArray) (a : Nat) : Nat := (digsAt s a).length
def valAtN (s : ByteArray) (a k : Nat) : Nat := valN ((digsAt s a).take k)
theorem many_le {s : ByteArray} {a : Nat} (ha : a ≤ s.size) : a + manyAt s a ≤ s.size := by
  have h1 := takeWhile_len (s.data.toList.drop a) digitB
  rw [List.length_drop, ← Lib.size_eq] at h1
  unfold manyAt digsAt
  omega
theorem digs_get {s : ByteArray} {a i : Nat} (ha : a ≤ s.size) (h : i < manyAt s a) (h2 : a + i < s.size) : digitB s[a + i] = true ∧ (digsAt s a)[i]'h = s[a + i] := by
  obtain ⟨h3, h4, h5⟩ := takeWhile_get (s.data.toList.drop a) i h
  have e : (s.data.toList.drop a)[i] = s[a + i] := by
    rw [List.getElem_drop]
    rfl
  rw [e] at h4 h5
  exact ⟨h5, h4⟩
theorem digs_stop {s : ByteArray} {a : Nat} (h : a + manyAt s a < s.size) : digitB s[a + manyAt s a] = false := by
  have h1 : ((s.data.toList.drop a).takeWhile digitB).length < (s.data.toList.drop a).length := by
    rw [List.length_drop, ← Lib.size_eq]
    unfold manyAt digsAt at h
    omega
  have := takeWhile_stop (p := digitB) (s.data.toList.drop a) h1
  rw [List.getElem_drop] at this
  exact this
theorem valAt_step {s : ByteArray} {a i : Nat} (ha : a ≤ s.size) (h : i < manyAt s a) (h2 : a + i < s.size) : valAtN s a (i + 1) = 10 * valAtN s a i + (s[a + i].toNat - 48) ∧ 48 ≤ s[a + i].toNat ∧ s[a + i].toNat ≤ 57 := by
  obtain ⟨h3, h4⟩ := digs_get ha h h2
  refine ⟨?_, (digit_iff _).1 h3⟩
  unfold valAtN
  rw [valN_take h, h4]
theorem valAt_le {s : ByteArray} {a i : Nat} (h : i ≤ manyAt s a) : valAtN s a i ≤ valAtN s a (manyAt s a) := valN_le h (Nat.le_refl _)
theorem valAt_zero (s : ByteArray) (a : Nat) : valAtN s a 0 = 0 := rfl
theorem take_none {s : ByteArray} {a : Nat} (h : manyAt s a = 0) : takeR s.data.toList a = (0, 0, 2) := by
  show takeD (digsAt s a) a = _
  rw [List.eq_nil_of_length_eq_zero h]
  rfl
theorem take_head {s : ByteArray} {a : Nat} (ha : a ≤ s.size) (h : 1 < manyAt s a) (h2 : a < s.size) (h3 : s[a] = 48) : takeR s.data.toList a = (0, 0, 2) := by
  show takeD (digsAt s a) a = _
  have h4 := (digs_get (i := 0) ha (by omega) (by omega)).2
  simp only [Nat.add_zero, h3] at h4
  unfold takeD
  rw [if_pos]
  unfold plainD
  have h5 : (digsAt s a).head? = some 48 := by
    rw [List.head?_eq_getElem?, List.getElem?_eq_getElem (show 0 < (digsAt s a).length by unfold manyAt at h; omega)]
    exact congrArg some h4
  unfold manyAt at h
  rw [h5]
  simp
  intro
  omega
theorem take_else {s : ByteArray} {a : Nat} (ha : a ≤ s.size) (h : manyAt s a ≠ 0) (h2 : 1 < manyAt s a → ∀ h : a < s.size, s[a] ≠ 48) :
    takeR s.data.toList a = if 2147483647 < valAtN s a (manyAt s a) then (0, 0, 3) else ((valAtN s a (manyAt s a) : Int), ((a + manyAt s a : Nat) : Int), 0) := by
  have h3 := many_le ha
  have h4 := (digs_get (i := 0) ha (by omega) (by omega)).2
  simp only [Nat.add_zero] at h4
  have h5 : (digsAt s a).head? = some (s[a]'(by omega)) := by
    rw [List.head?_eq_getElem?, List.getElem?_eq_getElem (show 0 < (digsAt s a).length by unfold manyAt at h; omega)]
    exact congrArg some h4
  have h6 : plainD (digsAt s a) = true := by
    unfold plainD
    rw [Bool.and_eq_true, Bool.or_eq_true, decide_eq_true_iff, decide_eq_true_iff, h5]
    refine ⟨?_, ?_⟩
    · cases hd : digsAt s a with
      | nil => unfold manyAt at h; rw [hd] at h; exact absurd rfl h
      | cons => rfl
    · by_cases h7 : 1 < manyAt s a
      · exact .inr (fun e => h2 h7 (by omega) (Option.some.inj e))
      · left; unfold manyAt at h7; omega
  have h8 : valAtN s a (manyAt s a) = valN (digsAt s a) := by unfold valAtN manyAt; rw [List.take_length]
  show takeD (digsAt s a) a = _
  unfold takeD
  rw [h6, if_neg (by simp), h8]
  rw [show ((a + manyAt s a : Nat) : Int) = (a : Int) + ((digsAt s a).length : Int) by unfold manyAt; omega]
theorem take_facts {s : ByteArray} {a : Nat} (ha : a ≤ s.size) : ∃ (m : Nat) (V : Nat → Nat), a + m ≤ s.size ∧
    (∀ i (h : a + i < s.size), i < m → digitB s[a + i] = true ∧ V (i + 1) = 10 * V i + (s[a + i].toNat - 48) ∧ 48 ≤ s[a + i].toNat ∧ s[a + i].toNat ≤ 57) ∧
    (∀ h : a + m < s.size, digitB s[a + m] = false) ∧ V 0 = 0 ∧ (∀ i, i ≤ m → V i ≤ V m) ∧ (m = 0 → takeR s.data.toList a = (0, 0, 2)) ∧
    (1 < m → ∀ h : a < s.size, s[a] = 48 → takeR s.data.toList a = (0, 0, 2)) ∧
    (m ≠ 0 → (1 < m → ∀ h : a < s.size, s[a] ≠ 48) → takeR s.data.toList a = if 2147483647 < V m then (0, 0, 3) else ((V m : Int), ((a + m : Nat) : Int), 0)) :=
  ⟨manyAt s a, valAtN s a, many_le ha, fun i h hi => ⟨(digs_get ha hi h).1, valAt_step ha hi h⟩, fun h => digs_stop h, rfl, fun _ h => valAt_le h, take_none, take_head ha, take_else ha⟩
theorem takeWhile_digits (l : List UInt8) : ∀ b ∈ l.takeWhile digitB, digitB b = true := by
  intro b hb
  induction l with
  | nil => simp at hb
  | cons x r ih =>
    rw [List.takeWhile_cons] at hb
    split at hb
    · rename_i h
      rcases List.mem_cons.1 hb with h1 | h1
      · subst h1; exact h
      · exact ih h1
    · simp at hb
theorem whole_num {n : Nat} (h : n ≤ 2147483647) : wholeR (numR n) = ((n : Int), (0 : Int)) := by
  have e : takeR (numR n) 0 = ((n : Int), ((numR n).length : Int), (0 : Int)) := by
    unfold takeR
    rw [List.drop_zero, takeWhile_all (numR_digits n)]
    unfold takeD
    rw [numR_plain, numR_val, if_neg (by simp), if_neg (by omega)]
    simp
  unfold wholeR
  rw [e]
  simp
theorem takeWhile_full {l : List UInt8} {p : UInt8 → Bool} (h : l.length ≤ (l.takeWhile p).length) : l.takeWhile p = l := by
  induction l with
  | nil => rfl
  | cons x r ih =>
    rw [List.takeWhile_cons] at h ⊢
    split
    · rename_i hx
      rw [if_pos hx] at h
      rw [ih (by simpa using h)]
    · rename_i hx
      rw [if_neg hx] at h
      simp at h
/-- What is a number is its digits. -/
theorem whole_of {l : List UInt8} (h : (wholeR l).2 = 0) : ∃ n : Nat, n ≤ 2147483647 ∧ (wholeR l).1 = n ∧ l = numR n := by
  unfold wholeR at h ⊢
  by_cases h1 : (takeR l 0).2.2 ≠ 0
  · rw [if_pos h1] at h; exact absurd h h1
  · rw [if_neg h1] at h ⊢
    by_cases h2 : (takeR l 0).2.1 < (l.length : Int)
    · rw [if_pos h2] at h; cases h
    · rw [if_neg h2]
      unfold takeR at h1 h2 ⊢
      rw [List.drop_zero] at h1 h2 ⊢
      unfold takeD at h1 h2 ⊢
      by_cases hp : plainD (l.takeWhile digitB) = false
      · rw [if_pos hp] at h1; exact absurd (by decide) h1
      · rw [if_neg hp] at h1 h2 ⊢
        by_cases hv : 2147483647 < valN (l.takeWhile digitB)
        · rw [if_pos hv] at h1; exact absurd (by decide) h1
        · rw [if_neg hv] at h2 ⊢
          dsimp only at h2 ⊢
          have hf : l.takeWhile digitB = l := takeWhile_full (by omega)
          refine ⟨valN (l.takeWhile digitB), by omega, rfl, ?_⟩
          have hd := takeWhile_digits l
          rw [hf] at hp hd ⊢
          exact (numR_of _ l rfl hd (by simpa using hp)).symm
theorem whole_cases (l : List UInt8) : ∃ n t f : Int, takeR l 0 = (n, t, f) ∧ (f ≠ 0 → wholeR l = (0, f)) ∧ (f = 0 → t < l.length → wholeR l = (0, 2)) ∧ (f = 0 → ¬ t < l.length → wholeR l = (n, 0)) ∧ (f ≠ 0 → n = 0) := by
  refine ⟨(takeR l 0).1, (takeR l 0).2.1, (takeR l 0).2.2, rfl, fun h => ?_, fun h h2 => ?_, fun h h2 => ?_, fun h => ?_⟩
  · unfold wholeR; rw [if_pos h]
  · unfold wholeR; rw [if_neg (by omega), if_pos h2]
  · unfold wholeR; rw [if_neg (by omega), if_neg h2]
  · unfold takeR takeD at h ⊢
    split
    · rfl
    · rename_i h1
      rw [if_neg h1] at h
      split
      · rfl
      · rename_i h2; rw [if_neg h2] at h; exact absurd rfl h
theorem whole_err {l : List UInt8} (h : (wholeR l).2 ≠ 0) : (wholeR l).1 = 0 := by
  unfold wholeR at h ⊢
  split
  · rfl
  · rename_i h1
    rw [if_neg h1] at h
    split
    · rfl
    · rename_i h2; rw [if_neg h2] at h; exact absurd rfl h
end Go.Inq
