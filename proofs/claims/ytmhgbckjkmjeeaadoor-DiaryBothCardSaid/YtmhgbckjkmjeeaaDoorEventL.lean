/-
  Plain laws of layer 3: a write's line out of its numbers; no program in sight.
-/
import Derived.Test.YtmhgbckjkmjeeaaDoorEventP
set_option linter.unusedVariables false
set_option linter.unusedSimpArgs false
namespace Go.Inq
open Go

theorem nought_plain (n : Nat) : plainD (48 :: numR n) = false := by
  unfold plainD
  have := numR_ne n
  cases h : numR n with
  | nil => exact absurd h this
  | cons a r => simp
theorem nought_word (n : Nat) : wordB (48 :: numR n) = true := by
  have h := num_word n
  unfold wordB at h ⊢
  rw [Bool.and_eq_true] at h ⊢
  refine ⟨rfl, ?_⟩
  rw [List.all_cons, h.2]
  rfl
theorem nought_whole (n : Nat) : wholeR (48 :: numR n) = (0, 2) := by
  have hd : ∀ b ∈ (48 :: numR n : List UInt8), digitB b = true := by
    intro b hb
    rcases List.mem_cons.1 hb with rfl | h
    · rfl
    · exact numR_digits n b h
  have e : (takeR (48 :: numR n) 0).2.2 = 2 := by
    unfold takeR
    rw [List.drop_zero, takeWhile_all hd]
    unfold takeD
    rw [nought_plain, if_pos rfl]
  unfold wholeR
  rw [if_pos (by rw [e]; simp), e]
/-- A write's line. -/
def writeL (a b c : List UInt8) : List UInt8 := [119, 114, 105, 116, 101, 32] ++ a ++ [32] ++ b ++ [32] ++ c
theorem writeL_words (a b c : List UInt8) : writeL a b c = wordK 2 ++ 32 :: (a ++ 32 :: (b ++ 32 :: c)) := by
  unfold writeL
  simp [wordK]
theorem write_parse {s k v : Nat} (hs : s ≤ 2147483647) (hk : k ≤ 2147483647) (hv : v ≤ 2147483647) :
    parseR (writeL (numR s) (numR k) (numR v)) = if (7 : Int) < s ∨ (15 : Int) < k then (Ev.zero, 4) else (⟨2, s, k, v⟩, 0) := by
  rw [writeL_words]
  unfold parseR
  rw [words_4 (word_sign 2) (num_word s) (num_word k) (num_word v), if_neg (by simp)]
  have hn : numsR [numR s, numR k, numR v] = ([(s : Int), (k : Int), (v : Int)], 0) := by
    simp [numsR, whole_num hs, whole_num hk, whole_num hv]
  unfold evR
  simp only [List.getElem?_cons_zero, Option.getD_some, kind_word (show 2 < 5 by decide), List.drop_succ_cons, List.drop_zero, hn, List.length_cons, List.length_nil, List.getElem?_cons_succ]
  rw [if_neg (show ¬ (((2 : Nat) : Int) < 0 ∨ _) by unfold manyK itemB; simp), if_neg (by simp)]
  rfl
theorem write_nought {s k v : Nat} (hs : s ≤ 2147483647) : (parseR (writeL (numR s) (48 :: numR k) (numR v))).2 = 2 := by
  rw [writeL_words]
  unfold parseR
  rw [words_4 (word_sign 2) (num_word s) (nought_word k) (num_word v), if_neg (by simp)]
  have hn : (numsR [numR s, 48 :: numR k, numR v]).2 = 2 := by
    simp [numsR, whole_num hs, nought_whole]
  unfold evR
  simp only [List.getElem?_cons_zero, Option.getD_some, kind_word (show 2 < 5 by decide), List.drop_succ_cons, List.drop_zero, hn, List.length_cons, List.length_nil, List.getElem?_cons_succ]
  rw [if_neg (show ¬ (((2 : Nat) : Int) < 0 ∨ _) by unfold manyK itemB; simp), if_pos (by simp)]
theorem writeL_len {s k v : Nat} (hs : s ≤ 2147483647) (hk : k ≤ 2147483647) (hv : v ≤ 2147483647) : (writeL (numR s) (numR k) (numR v)).length ≤ 100 ∧ (writeL (numR s) (48 :: numR k) (numR v)).length ≤ 100 := by
  have l1 := numR_ten hs
  have l2 := numR_ten hk
  have l3 := numR_ten hv
  unfold writeL
  constructor <;> (simp only [List.length_append, List.length_cons, List.length_nil]; omega)
/-- A number that may be shown is shown in digits. -/
theorem showN_ok {n : Int} (h : (showN n).2 = 0) : ∃ m : Nat, m ≤ 2147483647 ∧ n = m ∧ showN n = (numR m, 0) := by
  unfold showN at h ⊢
  split
  · rename_i h1
    exact ⟨n.toNat, by omega, by omega, rfl⟩
  · rename_i h1; rw [if_neg h1] at h; exact absurd h (by decide)
theorem right_write {s k v : Int} (h : (showN s).2 ≠ 0 ∨ (showN k).2 ≠ 0 ∨ (showN v).2 ≠ 0) : (Ev.mk 2 s k v).right = false := by
  cases hr : (Ev.mk 2 s k v).right with
  | false => rfl
  | true =>
    obtain ⟨-, ⟨x, hx, ex⟩, hc⟩ := right_facts hr
    simp only at ex hc
    have hi : itemB 2 = true := rfl
    rcases hc with ⟨-, ⟨y, hy, ey⟩, z, hz, ez⟩ | ⟨h1, -⟩
    · subst ex ey ez
      unfold showN at h
      rw [if_pos (by omega), if_pos (by omega), if_pos (by omega)] at h
      simp at h
    · rw [hi] at h1; cases h1
theorem showR_bad {e : Ev} (h : e.right = false) : showR e = ([], 1) := by unfold showR; rw [if_pos h]
theorem showR_err {e : Ev} (h : e.right = true) : (showR e).2 = 0 := by unfold showR; rw [if_neg (by rw [h]; simp)]
theorem wordK_len (k : Nat) : (wordK k).length ≤ 10 := by
  unfold wordK
  split <;> decide
theorem showR_len (e : Ev) : (showR e).1.length ≤ 100 := by
  cases h : e.right with
  | false => rw [showR_bad h]; simp
  | true =>
    obtain ⟨⟨k, hk, ek⟩, ⟨s, hs, es⟩, hc⟩ := right_facts h
    have l0 := wordK_len e.kind.toNat
    have l1 := numR_ten (n := e.sess.toNat) (by omega)
    unfold showR
    rw [if_neg (by rw [h]; simp)]
    dsimp only
    have l2 := numR_ten (n := e.key.toNat) (by rcases hc with ⟨-, ⟨y, hy, ey⟩, -⟩ | ⟨-, ey, -⟩ <;> omega)
    have l3 := numR_ten (n := e.val.toNat) (by rcases hc with ⟨-, -, ⟨y, hy, ey⟩⟩ | ⟨-, -, ey⟩ <;> omega)
    split <;> (simp only [List.length_append, List.length_cons, List.length_nil]; omega)
theorem parseR_err {l : List UInt8} (h : (parseR l).2 ≠ 0) : (parseR l).1 = Ev.zero := by
  unfold parseR at h ⊢
  by_cases h1 : (wordsR l).2 ≠ 0
  · rw [if_pos h1]
  rw [if_neg h1] at h ⊢
  unfold evR at h ⊢
  dsimp only at h ⊢
  split
  · rfl
  · rename_i h2
    rw [if_neg h2] at h
    split
    · rfl
    · rename_i h3
      rw [if_neg h3] at h
      split
      · rfl
      · rename_i h4; rw [if_neg h4] at h; exact absurd rfl h
end Go.Inq
