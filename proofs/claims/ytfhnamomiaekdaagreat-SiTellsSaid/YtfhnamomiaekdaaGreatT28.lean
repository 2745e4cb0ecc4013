/-
  Walks: layer 18: who reads ahead of whose write.
-/
import Derived.Test.YtfhnamomiaekdaaGreatT27
set_option linter.unusedVariables false
set_option linter.unusedSimpArgs false
namespace Go.Proofs.YtfhnamomiaekdaaGreat
open Go.RowKit Go.Inq
set_option maxHeartbeats 4000000
attribute [local go_sem ↓] Go.wp_at_zero Go.wp_at_succ

/-- Does one read what a choice's first wrote, and is not its second? -/
def seesB (H : List Txn) (c : Cho) : Edges := fun x y => decide (c.b = (y : Int)) && decide (x ≠ y) && (txnAt H x).reads.any fun r => decide (r.a = c.key) && decide (r.b = c.a)
theorem rwE_eq (H : List Txn) (l : List Cho) : rwE H l = fun x y => initE H x y || l.any fun c => seesB H c x y := rfl
def rwMid (H : List Txn) (l : List Cho) (c : Cho) (t : Nat) : Edges := fun x y => rwE H l x y || (decide (x < t) && seesB H c x y)
theorem rwMid_zero (H : List Txn) (l : List Cho) (c : Cho) : rwMid H l c 0 = rwE H l := by funext x y; simp [rwMid]
theorem rwMid_end (H : List Txn) {l : List Cho} {k n : Nat} (hk : k < l.length) {x y : Nat} (hx : x < n) : rwMid H (l.take k) l[k] n x y = rwE H (l.take (k + 1)) x y := by
  unfold rwMid
  rw [rwE_eq, rwE_eq, take_snoc' hk]
  simp only [List.any_append, List.any_cons, List.any_nil, Bool.or_false, decide_eq_true hx, Bool.true_and, Bool.or_assoc]
theorem rwMid_yes {H : List Txn} {l : List Cho} {c : Cho} {t b : Nat} (hb : c.b = b) (hne : t ≠ b) (hs : ((txnAt H t).reads.any fun r => decide (r.a = c.key) && decide (r.b = c.a)) = true) : orE (rwMid H l c t) (oneE t b) = rwMid H l c (t + 1) := by
  funext x y
  unfold orE rwMid oneE
  rw [Bool.or_assoc]
  congr 1
  by_cases e1 : x = t
  · subst e1
    by_cases e2 : y = b
    · subst e2; simp [seesB, hb, hne, hs]
    · have : decide (c.b = (y : Int)) = false := by rw [hb]; simp; omega
      simp [seesB, e2, this]
  · have : decide (x < t + 1) = decide (x < t) := by simp; omega
    simp [e1, this]
theorem rwMid_no {H : List Txn} {l : List Cho} {c : Cho} {t b : Nat} (hb : c.b = b) (h : t = b ∨ ((txnAt H t).reads.any fun r => decide (r.a = c.key) && decide (r.b = c.a)) = false) : rwMid H l c t = rwMid H l c (t + 1) := by
  funext x y
  unfold rwMid
  congr 1
  by_cases e1 : x = t
  · subst e1
    have : seesB H c x y = false := by
      unfold seesB
      rcases h with h | h
      · subst h
        by_cases e2 : y = x
        · subst e2; simp
        · have : decide (c.b = (y : Int)) = false := by rw [hb]; simp; omega
          simp [this]
      · rw [h]; simp
    simp [this]
  · have : decide (x < t + 1) = decide (x < t) := by simp; omega
    rw [this]
theorem rwE_nil (H : List Txn) (x y : Nat) : initE H x y = rwE H [] x y := by simp [rwE]
end Go.Proofs.YtfhnamomiaekdaaGreat
