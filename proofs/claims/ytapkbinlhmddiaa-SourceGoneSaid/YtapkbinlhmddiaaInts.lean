/-
  Slices of numbers that read as lists; no program in sight.
-/
import Derived.Test.YtapkbinlhmddiaaApp
set_option linter.unusedVariables false
set_option linter.unusedSimpArgs false
namespace Go.Inq
open Go Go.RowKit

def encI (n : Int) : List Value := [.int .i64 n]
/-- A slice of numbers. -/
def IntS (w : World) (K : Nat → Prop) (v : Value) (l : List Int) : Prop := SlR 1 (Flat encI) w K v l

section
variable {w w' : World} {K K' : Nat → Prop} {v : Value} {l : List Int}
theorem IntS.keep (h : IntS w K v l) (ha : Agree K w w') (hk : ∀ b, K b → K' b) : IntS w' K' v l := SlR.keep (Flat.stab _) h ha hk
theorem IntS.below (h : IntS w (Old w) v l) (hb : Below w.heap.size w w') : IntS w' (Old w') v l := SlR.below (Flat.stab _) h hb
theorem IntS.fit (h : IntS w K v l) (hk : ∀ b, K b → K' b) : IntS w K' v l := SlR.fit (Flat.stab _) h hk
theorem IntS.form (h : IntS w K v l) : ∃ A c, v = .slice A l.length c := by
  obtain ⟨A, c, hv, _⟩ := SlR.len h
  exact ⟨A, c, hv⟩
theorem IntS.at_ {A : Option Addr} {n c : Nat} (h : IntS w K (.slice A n c) l) {i : Nat} (hi : i < l.length) : ∃ b off, A = some ⟨b, off, none⟩ ∧ K b ∧ w.cell? ⟨b, off + i, none⟩ = some (.int .i64 l[i]) := by
  obtain ⟨b, off, cs, hA, hK, _, hR, hc⟩ := SlR.at_ h hi
  unfold Flat at hR
  subst hR
  have := hc 0 _ rfl
  rw [Nat.mul_one, Nat.add_zero] at this
  exact ⟨b, off, hA, hK, this⟩
theorem IntS.cells {b off n c : Nat} (h : IntS w K (.slice (some ⟨b, off, none⟩) n c) l) {i : Nat} (hi : i < l.length) : K b ∧ w.cell? ⟨b, off + i, none⟩ = some (.int .i64 l[i]) := by
  obtain ⟨cs, hK, _, hR, hc⟩ := SlR.cells h hi
  unfold Flat at hR
  subst hR
  have := hc 0 _ rfl
  rw [Nat.mul_one, Nat.add_zero] at this
  exact ⟨hK, this⟩
theorem IntS.nil (w : World) (K : Nat → Prop) (A : Option Addr) (c : Nat) : IntS w K (.slice A 0 c) [] := SlR.nil _ _ _ _ _ _
/-- A block of numbers, whole. -/
theorem IntS.of_blk {g : Nat} {t : TypeId} (h : Blk w g t (l.map (Value.int .i64)).toArray) (hK : K g) : IntS w K (.slice (some ⟨g, 0, none⟩) l.length l.length) l := by
  refine ⟨some ⟨g, 0, none⟩, l.length, l.map encI, rfl, Nat.le_refl _, by simp, fun i cs x h1 h2 => ?_, fun _ => ⟨g, 0, rfl, hK, fun i j cs u h1 h2 => ?_⟩⟩
  · rw [List.getElem?_map, h2] at h1
    injection h1 with h1
    exact ⟨by rw [← h1]; rfl, h1.symm⟩
  · rw [List.getElem?_map] at h1
    cases hl : l[i]? with
    | none => rw [hl] at h1; cases h1
    | some x =>
      rw [hl] at h1
      injection h1 with h1
      subst h1
      cases j with
      | zero =>
        injection h2 with h2
        rw [Nat.zero_add, Nat.mul_one, Nat.add_zero, h.cell, List.getElem?_toArray, List.getElem?_map, hl, ← h2]
        rfl
      | succ j => simp [encI] at h2
end
theorem encI_one : ∀ (x : Int), ∀ u ∈ encI x, u.oneCell' = true := by
  intro x u hu
  simp [encI] at hu
  subst hu
  rfl
end Go.Inq
