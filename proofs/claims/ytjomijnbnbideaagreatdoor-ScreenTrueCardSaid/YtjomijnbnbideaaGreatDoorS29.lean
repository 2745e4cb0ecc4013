/-
  A frame of 85 slots, told slot by slot: a loop's relation over the whole activation names the slots that matter.
-/
import Derived.Test.YtjomijnbnbideaaGreatDoorS28
import Derived.Test.YtjomijnbnbideaaGreatDoorS02
set_option linter.unusedVariables false
set_option linter.unusedSimpArgs false
namespace Go.Proofs.YtjomijnbnbideaaGreatDoor
open Go.RowKit Go.Inq

theorem arr_eta {t : Array Value} {n : Nat} (h : t.size = n) : t = ((List.range n).map fun i => t.getD i undef).toArray := by
  subst h
  refine Array.ext (by simp) fun i h1 h2 => ?_
  simp [Array.getD, h1]
set_option maxRecDepth 100000 in
theorem frame85 (t : Array Value) (h : t.size = 85) : ∃ u : Nat → Value, (∀ i, t.getD i undef = u i) ∧ t = #[u 0, u 1, u 2, u 3, u 4, u 5, u 6, u 7, u 8, u 9, u 10, u 11, u 12, u 13, u 14, u 15, u 16, u 17, u 18, u 19, u 20, u 21, u 22, u 23, u 24, u 25, u 26, u 27, u 28, u 29, u 30, u 31, u 32, u 33, u 34, u 35, u 36, u 37, u 38, u 39, u 40, u 41, u 42, u 43, u 44, u 45, u 46, u 47, u 48, u 49, u 50, u 51, u 52, u 53, u 54, u 55, u 56, u 57, u 58, u 59, u 60, u 61, u 62, u 63, u 64, u 65, u 66, u 67, u 68, u 69, u 70, u 71, u 72, u 73, u 74, u 75, u 76, u 77, u 78, u 79, u 80, u 81, u 82, u 83, u 84] :=
  ⟨fun i => t.getD i undef, fun _ => rfl, (arr_eta h).trans rfl⟩
/-- The outer loop's slots. -/
structure Fr28 (f0 f1 f2 f3 f4 f11 f48 f49 f50 : Value) (t : Array Value) : Prop where
  size : t.size = 85
  s0 : t.getD 0 undef = f0
  s1 : t.getD 1 undef = f1
  s2 : t.getD 2 undef = f2
  s3 : t.getD 3 undef = f3
  s4 : t.getD 4 undef = f4
  s11 : t.getD 11 undef = f11
  s48 : t.getD 48 undef = f48
  s49 : t.getD 49 undef = f49
  s50 : t.getD 50 undef = f50
theorem Fr28.open {f0 f1 f2 f3 f4 f11 f48 f49 f50 : Value} {t : Array Value} (h : Fr28 f0 f1 f2 f3 f4 f11 f48 f49 f50 t) : ∃ u : Nat → Value, t = #[f0, f1, f2, f3, f4, u 5, u 6, u 7, u 8, u 9, u 10, f11, u 12, u 13, u 14, u 15, u 16, u 17, u 18, u 19, u 20, u 21, u 22, u 23, u 24, u 25, u 26, u 27, u 28, u 29, u 30, u 31, u 32, u 33, u 34, u 35, u 36, u 37, u 38, u 39, u 40, u 41, u 42, u 43, u 44, u 45, u 46, u 47, f48, f49, f50, u 51, u 52, u 53, u 54, u 55, u 56, u 57, u 58, u 59, u 60, u 61, u 62, u 63, u 64, u 65, u 66, u 67, u 68, u 69, u 70, u 71, u 72, u 73, u 74, u 75, u 76, u 77, u 78, u 79, u 80, u 81, u 82, u 83, u 84] := by
  obtain ⟨u, hu, ht⟩ := frame85 t h.size
  refine ⟨u, ?_⟩
  rw [← h.s0, ← h.s1, ← h.s2, ← h.s3, ← h.s4, ← h.s11, ← h.s48, ← h.s49, ← h.s50]
  simp only [hu]
  exact ht
/-- The inner loop's slots. -/
structure Fr28b (f0 f1 f2 f3 f4 f11 f13 f48 f49 f50 f62 f63 f64 : Value) (t : Array Value) : Prop where
  size : t.size = 85
  s0 : t.getD 0 undef = f0
  s1 : t.getD 1 undef = f1
  s2 : t.getD 2 undef = f2
  s3 : t.getD 3 undef = f3
  s4 : t.getD 4 undef = f4
  s11 : t.getD 11 undef = f11
  s13 : t.getD 13 undef = f13
  s48 : t.getD 48 undef = f48
  s49 : t.getD 49 undef = f49
  s50 : t.getD 50 undef = f50
  s62 : t.getD 62 undef = f62
  s63 : t.getD 63 undef = f63
  s64 : t.getD 64 undef = f64
theorem Fr28b.open {f0 f1 f2 f3 f4 f11 f13 f48 f49 f50 f62 f63 f64 : Value} {t : Array Value} (h : Fr28b f0 f1 f2 f3 f4 f11 f13 f48 f49 f50 f62 f63 f64 t) : ∃ u : Nat → Value, t = #[f0, f1, f2, f3, f4, u 5, u 6, u 7, u 8, u 9, u 10, f11, u 12, f13, u 14, u 15, u 16, u 17, u 18, u 19, u 20, u 21, u 22, u 23, u 24, u 25, u 26, u 27, u 28, u 29, u 30, u 31, u 32, u 33, u 34, u 35, u 36, u 37, u 38, u 39, u 40, u 41, u 42, u 43, u 44, u 45, u 46, u 47, f48, f49, f50, u 51, u 52, u 53, u 54, u 55, u 56, u 57, u 58, u 59, u 60, u 61, f62, f63, f64, u 65, u 66, u 67, u 68, u 69, u 70, u 71, u 72, u 73, u 74, u 75, u 76, u 77, u 78, u 79, u 80, u 81, u 82, u 83, u 84] := by
  obtain ⟨u, hu, ht⟩ := frame85 t h.size
  refine ⟨u, ?_⟩
  rw [← h.s0, ← h.s1, ← h.s2, ← h.s3, ← h.s4, ← h.s11, ← h.s13, ← h.s48, ← h.s49, ← h.s50, ← h.s62, ← h.s63, ← h.s64]
  simp only [hu]
  exact ht
end Go.Proofs.YtjomijnbnbideaaGreatDoor

namespace Go.Proofs.YtjomijnbnbideaaGreatDoor
open Go.RowKit Go.Inq
set_option maxHeartbeats 1000000

/-- As SlR.of_blk of Src7A, without what that text imports. -/
theorem slr_blk {α : Type} {size : Nat} {R : World → (Nat → Prop) → List Value → α → Prop} {w : World} {K : Nat → Prop} {g : Nat} {t : TypeId} {l : List α} (ys : List (List Value)) (h : Blk w g t ys.flatten.toArray) (hl : ys.length = l.length)
    (hR : ∀ (i : Nat) cs x, ys[i]? = some cs → l[i]? = some x → cs.length = size ∧ R w K cs x) (hK : K g) (hn : l.length ≤ 1000000) : SlR size R w K (.slice (some ⟨g, 0, none⟩) l.length l.length) l := by
  have hlen : ∀ (ys : List (List Value)), (∀ cs ∈ ys, cs.length = size) → ys.flatten.length = ys.length * size := by
    intro ys
    induction ys with
    | nil => intro _; simp
    | cons y r ih =>
      intro hs
      rw [List.flatten_cons, List.length_append, ih fun cs hc => hs cs (List.mem_cons_of_mem _ hc), hs y (by simp), List.length_cons, Nat.add_mul]
      omega
  have h1 := hlen ys fun cs hc => by
    obtain ⟨i, hi⟩ := List.getElem?_of_mem hc
    have hil : i < l.length := by
      rcases Nat.lt_or_ge i ys.length with h | h
      · omega
      · rw [List.getElem?_eq_none h] at hi; cases hi
    exact (hR i cs l[i] hi (List.getElem?_eq_getElem hil)).1
  refine SlR.of_own (base := g) (e := t) (n := l.length) (xs := ys.flatten) (ys := ys) ⟨by rw [h1, hl], .inr ⟨g, l.length, _, rfl, Nat.le_refl _, h, Nat.le_refl _, by unfold maxLen; omega, by simp [h1, hl], List.take_of_length_le (by simp [h1, hl])⟩⟩ rfl rfl hl hR (fun g' hg => ?_)
  have : g = g' := by simpa [Value.ownBlock] using hg
  exact this ▸ hK
end Go.Proofs.YtjomijnbnbideaaGreatDoor
