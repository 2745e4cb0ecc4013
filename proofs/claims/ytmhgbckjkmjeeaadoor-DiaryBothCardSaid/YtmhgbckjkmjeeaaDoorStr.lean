/-
  Slices of strings that read as lists; no program in sight.
-/
import Derived.Test.YtmhgbckjkmjeeaaDoorApp
import Derived.Test.YtmhgbckjkmjeeaaDoorLineP
set_option linter.unusedVariables false
set_option linter.unusedSimpArgs false
namespace Go.Inq
open Go Go.RowKit

def encS (s : ByteArray) : List Value := [.string s]
/-- A slice of strings. -/
def StrS (w : World) (K : Nat → Prop) (v : Value) (l : List ByteArray) : Prop := SlR 1 (Flat encS) w K v l

section
variable {w w' : World} {K K' : Nat → Prop} {v : Value} {l : List ByteArray}
theorem StrS.keep (h : StrS w K v l) (ha : Agree K w w') (hk : ∀ b, K b → K' b) : StrS w' K' v l := SlR.keep (Flat.stab _) h ha hk
theorem StrS.below (h : StrS w (Old w) v l) (hb : Below w.heap.size w w') : StrS w' (Old w') v l := SlR.below (Flat.stab _) h hb
theorem StrS.fit (h : StrS w K v l) (hk : ∀ b, K b → K' b) : StrS w K' v l := SlR.fit (Flat.stab _) h hk
theorem StrS.form (h : StrS w K v l) : ∃ A c, v = .slice A l.length c := by
  obtain ⟨A, c, hv, _⟩ := SlR.len h
  exact ⟨A, c, hv⟩
theorem StrS.at_ {A : Option Addr} {n c : Nat} (h : StrS w K (.slice A n c) l) {i : Nat} (hi : i < l.length) : ∃ b off, A = some ⟨b, off, none⟩ ∧ K b ∧ w.cell? ⟨b, off + i, none⟩ = some (.string l[i]) := by
  obtain ⟨b, off, cs, hA, hK, _, hR, hc⟩ := SlR.at_ h hi
  unfold Flat at hR
  subst hR
  have := hc 0 _ rfl
  rw [Nat.mul_one, Nat.add_zero] at this
  exact ⟨b, off, hA, hK, this⟩
theorem StrS.cells {b off n c : Nat} (h : StrS w K (.slice (some ⟨b, off, none⟩) n c) l) {i : Nat} (hi : i < l.length) : K b ∧ w.cell? ⟨b, off + i, none⟩ = some (.string l[i]) := by
  obtain ⟨cs, hK, _, hR, hc⟩ := SlR.cells h hi
  unfold Flat at hR
  subst hR
  have := hc 0 _ rfl
  rw [Nat.mul_one, Nat.add_zero] at this
  exact ⟨hK, this⟩
theorem StrS.nil (w : World) (K : Nat → Prop) (A : Option Addr) (c : Nat) : StrS w K (.slice A 0 c) [] := SlR.nil _ _ _ _ _ _
theorem StrS.take {A : Option Addr} {n c : Nat} (h : StrS w K (.slice A n c) l) {k : Nat} (hk : k ≤ l.length) : StrS w K (.slice A k c) (l.take k) := SlR.take h hk
/-- A block of strings, whole. -/
theorem StrS.of_blk {g : Nat} {t : TypeId} (h : Blk w g t (l.map Value.string).toArray) (hK : K g) : StrS w K (.slice (some ⟨g, 0, none⟩) l.length l.length) l := by
  refine ⟨some ⟨g, 0, none⟩, l.length, l.map encS, rfl, Nat.le_refl _, by simp, fun i cs x h1 h2 => ?_, fun _ => ⟨g, 0, rfl, hK, fun i j cs u h1 h2 => ?_⟩⟩
  · rw [List.getElem?_map, h2] at h1
    injection h1 with h1
    exact ⟨by rw [← h1]; rfl, h1.symm⟩
  · rw [List.getElem?_map] at h1
    cases hl : l[i]? with
    | none => rw [hl] at h1; cases h1
    | some x =>
      rw [hl] at h1
      injection h1 with h1
      subst h1
      cases j with
      | zero =>
        injection h2 with h2
        rw [Nat.zero_add, Nat.mul_one, Nat.add_zero, h.cell, List.getElem?_toArray, List.getElem?_map, hl, ← h2]
        rfl
      | succ j => simp [encS] at h2
end
theorem encS_one : ∀ (x : ByteArray), ∀ u ∈ encS x, u.oneCell' = true := by
  intro x u hu
  simp [encS] at hu
  subst hu
  rfl
theorem bytes_eq {a b : ByteArray} : (a.toList == b.toList) = decide (a = b) := by
  rw [Bool.eq_iff_iff, beq_iff_eq, decide_eq_true_iff, Lib.toList_data, Lib.toList_data]
  exact ⟨bytes_inj, fun h => by rw [h]⟩
end Go.Inq
