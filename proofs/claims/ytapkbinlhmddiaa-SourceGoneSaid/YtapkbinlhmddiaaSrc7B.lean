/-
  Layer 7: what note leaves is the next transactions' map.
-/
import Derived.Test.YtapkbinlhmddiaaSrc7N
set_option linter.unusedVariables false
set_option linter.unusedSimpArgs false
namespace Go.Proofs.Ytapkbinlhmddiaa
open Go.RowKit Go.Inq

theorem noteE_op (l : List Tx) (i : Nat) (ops : List Ev) (j : Nat) : noteE (sumW l i) ops j = opE l i ops j := by
  unfold noteE opE
  cases ops[j]? <;> rfl
theorem noteR_op {l : List Tx} {i : Nat} (hi : i < l.length) : noteR (sumW l i) l[i].ops = unlikeR l i := by
  have e : noteE (sumW l i) l[i].ops = opE l i l[i].ops := funext fun j => noteE_op l i _ j
  unfold noteR unlikeR
  rw [List.getElem?_eq_getElem hi, e]
  dsimp only
  cases firstN l[i].ops.length (opE l i l[i].ops) <;> rfl
theorem who_take_some {l : List Tx} {i : Nat} {x : It} : (whoR (l.take i) x).isSome = decide (0 < sumW l i x) := by
  rw [Bool.eq_iff_iff, decide_eq_true_iff]
  constructor
  · intro h
    cases hw : whoR (l.take i) x with
    | none => rw [hw] at h; cases h
    | some k =>
      obtain ⟨t, ht, hp⟩ := who_some hw
      rw [List.getElem?_take] at ht
      split at ht
      · exact sumW_pos.2 ⟨k, t, by assumption, ht, hp⟩
      · cases ht
  · intro h
    obtain ⟨k, t, hk, ht, hp⟩ := sumW_pos.1 h
    cases hw : whoR (l.take i) x with
    | some k => rfl
    | none =>
      have := who_none hw t (List.mem_of_getElem? (i := k) (by rw [List.getElem?_take, if_pos hk, ht]))
      omega
theorem byF_some (l : List Tx) (i : Nat) (x : It) : (byF l i x).isSome = decide (0 < sumW l i x) := by
  rw [← who_take_some]
  unfold byF
  cases whoR (l.take i) x <;> rfl
theorem who_step {l : List Tx} {i : Nat} (hi : i < l.length) (x : It) : whoR (l.take (i + 1)) x = match whoR (l.take i) x with | some k => some k | none => if 0 < wrT l[i] x then some i else none := by
  unfold whoR
  rw [List.take_succ_eq_append_getElem hi, List.findIdx?_append, List.length_take, Nat.min_eq_left (by omega)]
  cases List.findIdx? (fun t => decide (0 < wrT t x)) (l.take i) with
  | some k => rfl
  | none =>
    by_cases h : 0 < wrT l[i] x
    · simp [h]
    · simp [h]
/-- Who writes, told as the program's map has it. -/
def writerOf (l : List Tx) (i : Nat) (t : Tx) : Int × Int := ((i : Int), if t.done = true then (numR7 l i : Int) else -1)
theorem byF_next {l : List Tx} {i : Nat} (hi : i < l.length) (hu : unlikeR l i = 0) (x : It) : noted (byF l i) (writerOf l i l[i]) l[i].ops l[i].ops.length x = byF l (i + 1) x := by
  have hi' : l[i]? = some l[i] := List.getElem?_eq_getElem hi
  unfold noted
  by_cases h : 0 < Go.Inq.wr l[i].ops l[i].ops.length x
  · rw [if_pos h]
    have hs := (unlike_write hi' hu (x := x) h).2
    have hw : whoR (l.take i) x = none := by
      have := who_take_some (l := l) (i := i) (x := x)
      rw [hs] at this
      cases hw : whoR (l.take i) x with
      | none => rfl
      | some k => rw [hw] at this; cases this
    have h2 : 0 < wrT l[i] x := h
    unfold byF
    rw [who_step hi, hw]
    dsimp only
    rw [if_pos h2]
    simp [hi', writerOf]
  · rw [if_neg h]
    have h2 : ¬ 0 < wrT l[i] x := h
    unfold byF
    rw [who_step hi]
    cases whoR (l.take i) x with
    | some k => rfl
    | none => dsimp only; rw [if_neg h2]
theorem byF_zero (l : List Tx) (x : It) : byF l 0 x = none := by
  unfold byF whoR
  simp
theorem byF_none {l : List Tx} {x : It} (h : whoR l x = none) : byF l l.length x = none := by
  unfold byF
  rw [List.take_length, h]
  rfl
theorem byF_hit {l : List Tx} {x : It} {k : Nat} (hk : k < l.length) (h : whoR l x = some k) : byF l l.length x = some (writerOf l k l[k]) := by
  unfold byF
  rw [List.take_length, h]
  simp [List.getElem?_eq_getElem hk, writerOf]
end Go.Proofs.Ytapkbinlhmddiaa
