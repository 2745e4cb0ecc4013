/-
  A region that puts a choice, both ways round, into a map: what is so whatever was done of it.
-/
import Derived.Carry
import Derived.Test.YtjomijnbnbideaaGreatDoorM30
import Derived.Test.YtjomijnbnbideaaGreatDoorM02
set_option linter.unusedVariables false
set_option linter.unusedSimpArgs false
namespace Go.Proofs.YtjomijnbnbideaaGreatDoor
open Go Go.RowKit Go.Inq
set_option maxHeartbeats 1000000

theorem grown_below {w w1 w2 : World} {row : Option Nat} (h : w.grownBy w1 row) (hb : Below w1.heap.size w1 w2) : w.grownBy w2 row :=
  ⟨hb.os.trans h.os, hb.tape.trans h.tape, hb.output.trans h.output, Nat.le_trans h.size hb.size, fun k hk hr => (hb.block k (Nat.lt_of_lt_of_le hk h.size)).trans (h.block k hk hr)⟩
theorem grown_map {w w1 : World} {g : Nat} (h : w.grownBy w1 (some g)) (o : Obj) : w.grownBy (ChangeMaps.setBlock w1 g o) (some g) :=
  ⟨h.os, h.tape, h.output, by unfold ChangeMaps.setBlock; simpa using h.size, fun k hk hr => by
    have hne : k ≠ g := fun e => hr (by rw [e])
    have : (ChangeMaps.setBlock w1 g o).heap[k]? = w1.heap[k]? := by
      unfold ChangeMaps.setBlock
      simp [Array.getElem?_setIfInBounds, Ne.symm hne]
    exact this.trans (h.block k hk hr)⟩
theorem wpList_unguard {P : Program} {ops : Array Oper} {Q : Exit → Act → World → Prop} {a : Act} {w : World} {rest : List Oper} {o : Oper} (hw : Region.wanted o (yielded ops a.tmps) = true) (h : wpList P ops Q ({ o with guard := none } :: rest) a w) : wpList P ops Q (o :: rest) a w := by
  unfold wpList at h ⊢
  rw [if_pos hw]
  have h2 : Region.wanted { o with guard := none } (yielded ops a.tmps) = true := rfl
  simp only [h2, if_true] at h
  exact h
def putF (B : Cho → Option Bool) (x : Cho) (p q : Bool) (y : Cho) : Option Bool := if (p && decide (y = x) || q && decide (y = turnB x)) = true then some true else B y
theorem putF_one (B : Cho → Option Bool) (x : Cho) (q : Bool) (y : Cho) : (if y = x then some true else putF B x false q y) = putF B x true q y := by
  unfold putF
  by_cases h : y = x
  · rw [if_pos h, decide_eq_true h]; simp
  · rw [if_neg h, decide_eq_false h]; simp
theorem putF_two (B : Cho → Option Bool) (x : Cho) (p : Bool) (y : Cho) : (if y = turnB x then some true else putF B x p false y) = putF B x p true y := by
  unfold putF
  by_cases h : y = turnB x
  · rw [if_pos h, decide_eq_true h]; simp
  · rw [if_neg h, decide_eq_false h]; simp
theorem putF_all (B : Cho → Option Bool) (x y : Cho) : putF B x true true y = if y = turnB x then some true else if y = x then some true else B y := by
  rw [← putF_two, ← putF_one]
  unfold putF
  simp
def knV (gm gq : Nat) (x : Cho) : Nat → Value
  | 0 => .map (some gm) | 1 => .pointer (some ⟨gq, 0, none⟩) | 2 => .agg #[.int .i64 x.key, .int .i64 x.a, .int .i64 x.b]
  | 3 => .map (some gm) | 4 => .pointer (some ⟨gq, 0, none⟩) | 5 => .agg #[.int .i64 x.key, .int .i64 x.a, .int .i64 x.b] | 6 => .agg #[.int .i64 x.key, .int .i64 x.b, .int .i64 x.a]
  | _ => undef
def knD : Nat → List Nat
  | 2 => [1] | 5 => [4] | 6 => [5] | 7 => [0, 2] | 8 => [3, 6]
  | _ => []
structure InvK (gm : Nat) (W0 : World) (val : Nat → Value) (B : Cho → Option Bool) (x : Cho) (L : Nat → Bool) (vs : Nat → Value) (W : World) : Prop where
  gr : W0.grownBy W (some gm)
  v : ∀ k, k < 7 → L k = true → vs k = val k
  m : MapC encB31 W gm (putF B x (L 7) (L 8))
section
variable {gm : Nat} {W0 W W' : World} {val : Nat → Value} {B : Cho → Option Bool} {x : Cho} {L : Nat → Bool} {vs : Nat → Value}
theorem InvK.start (h : MapC encB31 W0 gm B) : InvK gm W0 val B x (fun _ => false) (fun _ => undef) W0.drew := by
  refine ⟨⟨rfl, rfl, rfl, Nat.le_refl _, fun _ _ _ => rfl⟩, fun k _ h => (by cases h), ?_⟩
  exact (h.agree (w' := W0.drew) rfl).same fun y => by unfold putF; simp
theorem InvK.calm (h : InvK gm W0 val B x L vs W) {k : Nat} (hk : k < 7) (hb : Below W.heap.size W W') : InvK gm W0 val B x (fun j => L j || decide (j = k)) (updV vs k (val k)) W' := by
  refine ⟨grown_below h.gr hb, fun j hj hl => ?_, ?_⟩
  · by_cases e : j = k
    · subst e; unfold updV; rw [if_pos rfl]
    · unfold updV
      rw [if_neg e]
      exact h.v j hj (by simpa [e] using hl)
  · have e7 : (L 7 || decide (7 = k)) = L 7 := by rw [decide_eq_false (by omega)]; simp
    have e8 : (L 8 || decide (8 = k)) = L 8 := by rw [decide_eq_false (by omega)]; simp
    simp only [e7, e8]
    exact h.m.below hb h.m.lt
theorem InvK.val_ (h : InvK gm W0 val B x L vs W) {k : Nat} (hk : k < 7) : InvK gm W0 val B x (fun j => L j || decide (j = k)) (updV vs k (val k)) W := h.calm hk (Below.refl _ _)
theorem InvK.one (h : InvK gm W0 val B x L vs W) (hl : L 7 = false) (u : Value) : ∃ es c, (Instr.mapUpdate 166 (.map (some gm)) (.agg #[.int .i64 x.key, .int .i64 x.a, .int .i64 x.b]) (.bool true)).run Tryz.prog W = .ok () (ChangeMaps.setBlock W gm (.map es c)) ∧ InvK gm W0 val B x (fun j => L j || decide (j = 7)) (updV vs 7 u) (ChangeMaps.setBlock W gm (.map es c)) := by
  obtain ⟨es, c, h1, h2⟩ := h.m.update choKey Tryz.underlying166 x true
  refine ⟨es, c, h1, grown_map h.gr _, fun j hj g => ?_, ?_⟩
  · unfold updV
    rw [if_neg (by omega)]
    exact h.v j hj (by simpa [show j ≠ 7 by omega] using g)
  · refine h2.same fun y => ?_
    rw [hl, putF_one]
    simp
theorem InvK.two (h : InvK gm W0 val B x L vs W) (hl : L 8 = false) (u : Value) : ∃ es c, (Instr.mapUpdate 166 (.map (some gm)) (.agg #[.int .i64 x.key, .int .i64 x.b, .int .i64 x.a]) (.bool true)).run Tryz.prog W = .ok () (ChangeMaps.setBlock W gm (.map es c)) ∧ InvK gm W0 val B x (fun j => L j || decide (j = 8)) (updV vs 8 u) (ChangeMaps.setBlock W gm (.map es c)) := by
  obtain ⟨es, c, h1, h2⟩ := h.m.update choKey Tryz.underlying166 (turnB x) true
  refine ⟨es, c, h1, grown_map h.gr _, fun j hj g => ?_, ?_⟩
  · unfold updV
    rw [if_neg (by omega)]
    exact h.v j hj (by simpa [show j ≠ 8 by omega] using g)
  · refine h2.same fun y => ?_
    rw [hl, putF_two]
    simp
end
end Go.Proofs.YtjomijnbnbideaaGreatDoor
