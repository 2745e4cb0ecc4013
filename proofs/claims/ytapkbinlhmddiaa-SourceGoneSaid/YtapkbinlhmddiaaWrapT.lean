/-
  The wrapping of the statements of layer 7: transactions opened to lists.
-/
import Derived.Test.YtapkbinlhmddiaaWrap
import Derived.Test.YtapkbinlhmddiaaSrc0
set_option linter.unusedVariables false
set_option linter.unusedSimpArgs false
namespace Go.Proofs.Ytapkbinlhmddiaa
open Go.Joins Go.ChangeShapes Go.WideShapes Go.ChangeAt Go.RowKit Go.Deep Go.Inq
section
variable {H : Type} {enc : TypeId × Value → H} {w : World} {base : Nat} {spare : Nat → Bool} {held : Bool}

/-- Four cells that read as a transaction. -/
theorem open_tx {n : Nat} {cs : List Value} {x : DataW H × List MemPlace} (hC : Try.prog.cellsOf 37 = 4) (h : DataW.trod enc Try.prog w base spare held n 37 cs = some x) :
    ∃ t : Tx, TxR w (Old w) cs t ∧ t.ops.length ≤ maxLen := by
  obtain ⟨y0, y1, y2, y3, n', _, hl, h0, h1, h2, h3⟩ := trod_struct4 Try.underlying37 h
  rw [hC] at hl
  have e1 : Try.prog.cellsOf 3 = 1 := by kernel_rfl
  have e2 : Try.prog.cellsOf 4 = 1 := by kernel_rfl
  have e3 : Try.prog.cellsOf 35 = 1 := by kernel_rfl
  simp only [e1, e2, e3] at h0 h1 h2 h3
  match cs, hl with
  | [a, b, c, d], _ =>
    obtain ⟨k0, e0, _⟩ := DataW.trod_int Try.underlying3 h0
    obtain ⟨k1, e1, _⟩ := DataW.trod_bool Try.underlying4 h1
    obtain ⟨k2, e2, _⟩ := DataW.trod_int Try.underlying3 h2
    simp at e0 e1 e2
    have h3' : DataW.trod enc Try.prog w base spare held n' 35 [d] = some y3 := by simpa using h3
    obtain ⟨A, c', l, hv, hev, hlen⟩ := open_events h3'
    exact ⟨⟨k0, k1, k2, l⟩, ⟨d, by rw [e0, e1, e2], by rw [hv]; exact hev⟩, hlen⟩

/-- A slice of transactions, opened to a list. -/
theorem open_txs {n : Nat} {v : Value} {x : DataW H × List MemPlace} (h : DataW.trod enc Try.prog w base spare held n 22 [v] = some x) :
    ∃ (A : Option Addr) (c : Nat) (l : List Tx), v = .slice A l.length c ∧ TxS w (Old w) (.slice A l.length c) l ∧ l.length ≤ maxLen := by
  have hC : Try.prog.cellsOf 37 = 4 := by kernel_rfl
  rcases open_slice Try.underlying22 h with ⟨h1, _⟩ | ⟨a, len, cap, m, n', D, Pl, h1, _, hl, hm, hmm, hx, hi⟩
  · injection h1 with h1
    exact ⟨none, 0, [], h1, SlR.nil _ _ _ _ _ _, Nat.zero_le _⟩
  · injection h1 with h1
    subst h1
    rw [hC] at hi
    have hlm : len ≤ m := by rw [hmm]; split <;> omega
    have hex : ∀ i, ∃ p : Tx × List Value, i < len → p.2.length = 4 ∧ TxR w (Old w) p.2 p.1 ∧ ∀ j u, p.2[j]? = some u → w.cell? (a.add (i * 4 + j)) = some u := fun i => by
      by_cases hil : i < len
      · obtain ⟨cs, hc, ht⟩ := hi i (by omega)
        obtain ⟨t, hR, _⟩ := open_tx hC ht
        obtain ⟨_, hcl, hat⟩ := World.cells?_some hc
        refine ⟨(t, cs), fun _ => ⟨by simpa using hcl, hR, fun j u hj => ?_⟩⟩
        have hj4 : j < 4 := by
          rcases Nat.lt_or_ge j 4 with h | h
          · exact h
          · rw [List.getElem?_eq_none (by dsimp only; omega)] at hj; cases hj
        rw [← Go.Deep.add_add, hat j hj4]
        exact hj
      · exact ⟨(⟨0, false, 0, []⟩, []), fun h => absurd h hil⟩
    obtain ⟨f, hf⟩ := Classical.axiomOfChoice hex
    have hlen : ((List.range len).map fun i => (f i).1).length = len := by simp
    refine ⟨some a, cap, (List.range len).map fun i => (f i).1, by rw [hlen], ⟨some a, cap, (List.range len).map fun i => (f i).2, rfl, by omega, by simp, fun i cs x h1 h2 => ?_, fun h0 => ?_⟩, by omega⟩
    · simp only [List.getElem?_map] at h1 h2
      cases hr : (List.range len)[i]? with
      | none => rw [hr] at h1; cases h1
      | some k =>
        rw [hr] at h1 h2
        simp at h1 h2
        subst h1 h2
        have hk : k < len := by
          rw [List.getElem?_eq_some_iff] at hr
          obtain ⟨h3, h4⟩ := hr
          simp at h3 h4
          omega
        exact ⟨(hf k hk).1, (hf k hk).2.1⟩
    · rw [hlen] at h0
      obtain ⟨vo, hcs, _⟩ := (hf 0 h0).2.1
      have hc0 := (hf 0 h0).2.2 0 (.int .i64 (f 0).1.sess) (by rw [hcs]; rfl)
      obtain ⟨_, _, _, _, hs⟩ := World.shape?_of_cell? hc0
      obtain ⟨b, o, sp⟩ := a
      have hsp : sp = none := by
        cases sp with
        | none => rfl
        | some q => simp [Addr.add] at hs
      subst hsp
      refine ⟨b, o, rfl, block_lt_of_cell hc0, fun i j cs u h1 h2 => ?_⟩
      simp only [List.getElem?_map] at h1
      cases hr : (List.range len)[i]? with
      | none => rw [hr] at h1; cases h1
      | some k =>
        rw [hr] at h1
        simp at h1
        subst h1
        have hk : k = i ∧ i < len := by
          rw [List.getElem?_eq_some_iff] at hr
          obtain ⟨h3, h4⟩ := hr
          simp at h3 h4
          exact ⟨h4.symm, h3⟩
        have := (hf i hk.2).2.2 j u (by rw [← hk.1]; exact h2)
        rw [Addr.add_lit, ← Nat.add_assoc] at this
        exact this
end
end Go.Proofs.Ytapkbinlhmddiaa
