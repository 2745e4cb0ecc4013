/-
  Plain law of layer 30: what WidenWide asks of one step.
-/
import Derived.Test.YtfodlklpfffaaaaDoorC05
import Derived.Test.YtfodlklpfffaaaaDoorC22
import Derived.Test.YtfodlklpfffaaaaDoorC15
set_option linter.unusedVariables false
set_option linter.unusedSimpArgs false
namespace Go.Inq

theorem putW_width (H : List Txn) (s : Wd) : (putW H s).width = s.width := rfl
theorem putW_left (H : List Txn) (s : Wd) : (putW H s).left ≠ [] := by unfold putW; simp

theorem wide_step (H : List Txn) (level : Int) (s : Wd) :
    let r := stepW H level s
    (r.2.1 ≠ 0 → r.2.1 = 1 ∨ r.1 = s) ∧
    (r.2.1 = 0 → (r.1.width = s.width ∧ r.1.left ≠ []) ∨ (r.1.width = s.width + 1 ∧ s.cut = true ∧ r.1.cut = false ∧ r.1.path = [] ∧ r.1.left = [])) ∧
    (1 ≤ s.width ∧ s.width ≤ 32 → 1 ≤ r.1.width ∧ r.1.width ≤ 32) := by
  unfold stepW
  split
  · exact ⟨fun _ => .inr rfl, fun h => by simp at h, fun h => h⟩
  · split
    · exact ⟨fun _ => .inl rfl, fun h => by simp at h, fun h => h⟩
    · split
      · exact ⟨fun h => absurd rfl h, fun _ => .inl ⟨rfl, putW_left _ _⟩, fun h => h⟩
      · split
        · rename_i hl
          refine ⟨fun h => absurd rfl h, fun _ => .inl ⟨rfl, ?_⟩, fun h => h⟩
          intro e
          have := congrArg List.length e
          simp at this
          omega
        · split
          · rename_i hc
            refine ⟨fun h => absurd rfl h, fun _ => .inr ⟨rfl, hc.1, rfl, rfl, rfl⟩, fun h => ⟨by dsimp only; omega, by dsimp only; omega⟩⟩
          · exact ⟨fun _ => .inr rfl, fun h => by simp at h, fun h => h⟩
      · dsimp only
        split
        · exact ⟨fun h => absurd rfl h, fun _ => .inl ⟨rfl, by simp⟩, fun h => h⟩
        · split
          · exact ⟨fun _ => .inl rfl, fun h => by simp at h, fun h => h⟩
          · exact ⟨fun h => absurd rfl h, fun _ => .inl ⟨rfl, putW_left _ _⟩, fun h => h⟩
end Go.Inq

namespace Go.Proofs.YtfodlklpfffaaaaDoor
open Go.RowKit Go.Inq
set_option maxHeartbeats 8000000
attribute [local go_sem ↓] Go.wp_at_zero Go.wp_at_succ

set_option maxRecDepth 100000 in
theorem plain30_any (v : Value) (s : Wd) (K : Nat → Prop) (w : World) (hv : WdS w K v s) :
    Calls Tryd.prog 9 #[v] w fun e w' => e = .returned v ∧ Below w.heap.size w w' := by
  obtain ⟨Ap, cp, Al, cl, rfl, -, -⟩ := hv.form
  obtain ⟨W0, hW0⟩ : ∃ W0, (w.alloc (.cells #[.int .i64 s.width, .bool s.cut, .slice Ap s.path.length cp, .slice Al s.left.length cl] 30)).alloc (.cells #[.int .i64 0, .bool false, .slice none 0 0, .slice none 0 0] 39) = W0 := ⟨_, rfl⟩
  have hb := below_two hW0
  have k1 := Blk.two1 hW0
  have k2 := Blk.two2 hW0
  have e0 := k1.cell 0
  have e1 := k1.cell 1
  have e2 := k1.cell 2
  have e3 := k1.cell 3
  have d0 := k2.cell 0
  have d1 := k2.cell 1
  have d2 := k2.cell 2
  have d3 := k2.cell 3
  have f0 := k2.frozen 0
  have f1 := k2.frozen 1
  have f2 := k2.frozen 2
  have f3 := k2.frozen 3
  simp only [List.getElem?_toArray, List.getElem?_cons_zero, List.getElem?_cons_succ] at e0 e1 e2 e3 d0 d1 d2 d3
  go_enter Tryd.func9, Tryd.ntmps9
  go_wp2_with fail
  clear hW0
  have hz := set4_blk (a := .int .i64 s.width) (b := .bool s.cut) (c := .slice Ap s.path.length cp) (d := .slice Al s.left.length cl) k2
  have hzb := set4_below (p := w.heap.size + 1) (a := .int .i64 s.width) (b := .bool s.cut) (c := .slice Ap s.path.length cp) (d := .slice Al s.left.length cl) hb (by omega)
  have y0 := hz.cell 0
  have y1 := hz.cell 1
  have y2 := hz.cell 2
  have y3 := hz.cell 3
  simp only [List.getElem?_toArray, List.getElem?_cons_zero, List.getElem?_cons_succ] at y0 y1 y2 y3
  unfold set4 at y0 y1 y2 y3
  exact bodyPost_ret (v := .agg #[.int .i64 s.width, .bool s.cut, .slice Ap s.path.length cp, .slice Al s.left.length cl]) (by simp [results, Tryd.results9, go_sem, y0, y1, y2, y3]) rfl ⟨rfl, hzb⟩
theorem riseW_tail : ∀ {a : Int} {l : List Int}, riseW (a :: l) = true → riseW l = true
  | a, [], _ => rfl
  | a, b :: r, h => by unfold riseW at h; rw [Bool.and_eq_true] at h; exact h.2
/-- What a state of WidenWide may hold behind k steps. -/
def GrowW (n k : Nat) (s : Wd) : Prop := s.path.length ≤ k ∧ s.left.length ≤ k ∧ ∀ l ∈ s.left, l.length ≤ n
theorem comeW_len (H : List Txn) (path : List Int) : (comeW H path).length ≤ H.length := by
  unfold comeW
  rw [List.length_map]
  exact Nat.le_trans (List.length_filter_le _ _) (by simp)
theorem putW_grow {H : List Txn} {k : Nat} {s : Wd} (h : GrowW H.length k s) : GrowW H.length (k + 1) (putW H s) := by
  obtain ⟨h1, h2, h3⟩ := h
  refine ⟨Nat.le_succ_of_le h1, by unfold putW; simp; exact h2, fun l hl => ?_⟩
  unfold putW at hl
  simp only [List.mem_append, List.mem_singleton] at hl
  rcases hl with hl | rfl
  · exact h3 l hl
  · exact Nat.le_trans (by rw [List.length_take]; exact Nat.min_le_right _ _) (comeW_len H _)
theorem stepW_grow {H : List Txn} {level : Int} {k : Nat} {s : Wd} (h : GrowW H.length k s) : GrowW H.length (k + 1) (stepW H level s).1 := by
  have hk : GrowW H.length (k + 1) s := ⟨Nat.le_succ_of_le h.1, Nat.le_succ_of_le h.2.1, h.2.2⟩
  unfold stepW
  split
  · exact hk
  · split
    · exact hk
    · split
      · exact putW_grow h
      · split
        · refine ⟨?_, ?_, fun l hl => h.2.2 l ((List.dropLast_sublist _).subset hl)⟩
          · simp; have := h.1; omega
          · simp; have := h.2.1; omega
        · split
          · exact ⟨by simp, by simp, by simp⟩
          · exact hk
      · rename_i t r heq
        have hm : (t :: r) ∈ s.left := List.mem_of_mem_getLast? heq
        have hr : r.length ≤ H.length := by have := h.2.2 _ hm; simp at this; omega
        have hl0 : 0 < s.left.length := List.length_pos_iff.2 (List.ne_nil_of_mem hm)
        have hd : ∀ l ∈ s.left.dropLast ++ [r], l.length ≤ H.length := fun l hl => by
          simp only [List.mem_append, List.mem_singleton] at hl
          rcases hl with hl | rfl
          · exact h.2.2 l ((List.dropLast_sublist _).subset hl)
          · exact hr
        have hdl : (s.left.dropLast ++ [r]).length ≤ k := by simp; have := h.2.1; omega
        dsimp only
        split
        · exact ⟨Nat.le_succ_of_le h.1, Nat.le_succ_of_le hdl, hd⟩
        · split
          · exact ⟨Nat.le_succ_of_le h.1, Nat.le_succ_of_le hdl, hd⟩
          · refine ⟨?_, ?_, fun l hl => ?_⟩
            · unfold putW; simp; exact h.1
            · unfold putW; simp; have := h.2.1; omega
            · unfold putW at hl
              simp only [List.mem_append, List.mem_singleton] at hl
              rcases hl with hl | rfl
              · exact hd l (by simpa using hl)
              · exact Nat.le_trans (by rw [List.length_take]; exact Nat.min_le_right _ _) (comeW_len H _)
end Go.Proofs.YtfodlklpfffaaaaDoor
