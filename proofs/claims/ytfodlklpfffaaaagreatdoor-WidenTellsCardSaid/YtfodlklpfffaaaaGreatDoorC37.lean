/-
  Plain law of layer 30: what WidenWide asks of one step.
-/
import Derived.Test.YtfodlklpfffaaaaGreatDoorC02
import Derived.Test.YtfodlklpfffaaaaGreatDoorC35
import Derived.Test.YtfodlklpfffaaaaGreatDoorC32
import Derived.Test.YtfodlklpfffaaaaGreatDoorC16
set_option linter.unusedVariables false
set_option linter.unusedSimpArgs false
namespace Go.Inq

theorem putW_width (H : List Txn) (s : Wd) : (putW H s).width = s.width := rfl
theorem putW_left (H : List Txn) (s : Wd) : (putW H s).left ≠ [] := by unfold putW; simp

theorem wide_step (H : List Txn) (level : Int) (s : Wd) :
    let r := stepW H level s
    (r.2.1 ≠ 0 → r.2.1 = 1 ∨ r.1 = s) ∧
    (r.2.1 = 0 → (r.1.width = s.width ∧ r.1.left ≠ []) ∨ (r.1.width = s.width + 1 ∧ s.cut = true ∧ r.1.cut = false ∧ r.1.path = [] ∧ r.1.left = [])) ∧
    (1 ≤ s.width ∧ s.width ≤ 32 → 1 ≤ r.1.width ∧ r.1.width ≤ 32) := by
  unfold stepW
  split
  · exact ⟨fun _ => .inr rfl, fun h => by simp at h, fun h => h⟩
  · split
    · exact ⟨fun _ => .inl rfl, fun h => by simp at h, fun h => h⟩
    · split
      · exact ⟨fun h => absurd rfl h, fun _ => .inl ⟨rfl, putW_left _ _⟩, fun h => h⟩
      · split
        · rename_i hl
          refine ⟨fun h => absurd rfl h, fun _ => .inl ⟨rfl, ?_⟩, fun h => h⟩
          intro e
          have := congrArg List.length e
          simp at this
          omega
        · split
          · rename_i hc
            refine ⟨fun h => absurd rfl h, fun _ => .inr ⟨rfl, hc.1, rfl, rfl, rfl⟩, fun h => ⟨by dsimp only; omega, by dsimp only; omega⟩⟩
          · exact ⟨fun _ => .inr rfl, fun h => by simp at h, fun h => h⟩
      · dsimp only
        split
        · exact ⟨fun h => absurd rfl h, fun _ => .inl ⟨rfl, by simp⟩, fun h => h⟩
        · split
          · exact ⟨fun _ => .inl rfl, fun h => by simp at h, fun h => h⟩
          · exact ⟨fun h => absurd rfl h, fun _ => .inl ⟨rfl, putW_left _ _⟩, fun h => h⟩
end Go.Inq

namespace Go.Proofs.YtfodlklpfffaaaaGreatDoor
open Go.RowKit Go.Inq
set_option maxHeartbeats 8000000
attribute [local go_sem ↓] Go.wp_at_zero Go.wp_at_succ

set_option maxRecDepth 100000 in
theorem plain30_any (v : Value) (s : Wd) (K : Nat → Prop) (w : World) (hv : WdS w K v s) :
    Calls Tryz.prog 12 #[v] w fun e w' => e = .returned v ∧ Below w.heap.size w w' := by
  obtain ⟨Ap, cp, Al, cl, rfl, -, -⟩ := hv.form
  obtain ⟨W0, hW0⟩ : ∃ W0, (w.alloc (.cells #[.int .i64 s.width, .bool s.cut, .slice Ap s.path.length cp, .slice Al s.left.length cl] 28)).alloc (.cells #[.int .i64 0, .bool false, .slice none 0 0, .slice none 0 0] 32) = W0 := ⟨_, rfl⟩
  have hb := below_two hW0
  have k1 := Blk.two1 hW0
  have k2 := Blk.two2 hW0
  have e0 := k1.cell 0
  have e1 := k1.cell 1
  have e2 := k1.cell 2
  have e3 := k1.cell 3
  have d0 := k2.cell 0
  have d1 := k2.cell 1
  have d2 := k2.cell 2
  have d3 := k2.cell 3
  have f0 := k2.frozen 0
  have f1 := k2.frozen 1
  have f2 := k2.frozen 2
  have f3 := k2.frozen 3
  simp only [List.getElem?_toArray, List.getElem?_cons_zero, List.getElem?_cons_succ] at e0 e1 e2 e3 d0 d1 d2 d3
  go_enter Tryz.func12, Tryz.ntmps12
  go_wp2_with fail
  clear hW0
  have hz := set4_blk (a := .int .i64 s.width) (b := .bool s.cut) (c := .slice Ap s.path.length cp) (d := .slice Al s.left.length cl) k2
  have hzb := set4_below (p := w.heap.size + 1) (a := .int .i64 s.width) (b := .bool s.cut) (c := .slice Ap s.path.length cp) (d := .slice Al s.left.length cl) hb (by omega)
  have y0 := hz.cell 0
  have y1 := hz.cell 1
  have y2 := hz.cell 2
  have y3 := hz.cell 3
  simp only [List.getElem?_toArray, List.getElem?_cons_zero, List.getElem?_cons_succ] at y0 y1 y2 y3
  unfold set4 at y0 y1 y2 y3
  exact bodyPost_ret (v := .agg #[.int .i64 s.width, .bool s.cut, .slice Ap s.path.length cp, .slice Al s.left.length cl]) (by simp [results, Tryz.results12, go_sem, y0, y1, y2, y3]) rfl ⟨rfl, hzb⟩
theorem riseW_tail : ∀ {a : Int} {l : List Int}, riseW (a :: l) = true → riseW l = true
  | a, [], _ => rfl
  | a, b :: r, h => by unfold riseW at h; rw [Bool.and_eq_true] at h; exact h.2
/-- What a state of WidenWide may hold behind k steps. -/
def GrowW (n k : Nat) (s : Wd) : Prop := s.path.length ≤ k ∧ s.left.length ≤ k ∧ ∀ l ∈ s.left, l.length ≤ n
theorem comeW_len (H : List Txn) (path : List Int) : (comeW H path).length ≤ H.length := by
  unfold comeW
  rw [List.length_map]
  exact Nat.le_trans (List.length_filter_le _ _) (by simp)
theorem putW_grow {H : List Txn} {k : Nat} {s : Wd} (h : GrowW H.length k s) : GrowW H.length (k + 1) (putW H s) := by
  obtain ⟨h1, h2, h3⟩ := h
  refine ⟨Nat.le_succ_of_le h1, by unfold putW; simp; exact h2, fun l hl => ?_⟩
  unfold putW at hl
  simp only [List.mem_append, List.mem_singleton] at hl
  rcases hl with hl | rfl
  · exact h3 l hl
  · exact Nat.le_trans (by rw [List.length_take]; exact Nat.min_le_right _ _) (comeW_len H _)
theorem stepW_grow {H : List Txn} {level : Int} {k : Nat} {s : Wd} (h : GrowW H.length k s) : GrowW H.length (k + 1) (stepW H level s).1 := by
  have hk : GrowW H.length (k + 1) s := ⟨Nat.le_succ_of_le h.1, Nat.le_succ_of_le h.2.1, h.2.2⟩
  unfold stepW
  split
  · exact hk
  · split
    · exact hk
    · split
      · exact putW_grow h
      · split
        · refine ⟨?_, ?_, fun l hl => h.2.2 l ((List.dropLast_sublist _).subset hl)⟩
          · simp; have := h.1; omega
          · simp; have := h.2.1; omega
        · split
          · exact ⟨by simp, by simp, by simp⟩
          · exact hk
      · rename_i t r heq
        have hm : (t :: r) ∈ s.left := List.mem_of_mem_getLast? heq
        have hr : r.length ≤ H.length := by have := h.2.2 _ hm; simp at this; omega
        have hl0 : 0 < s.left.length := List.length_pos_iff.2 (List.ne_nil_of_mem hm)
        have hd : ∀ l ∈ s.left.dropLast ++ [r], l.length ≤ H.length := fun l hl => by
          simp only [List.mem_append, List.mem_singleton] at hl
          rcases hl with hl | rfl
          · exact h.2.2 l ((List.dropLast_sublist _).subset hl)
          · exact hr
        have hdl : (s.left.dropLast ++ [r]).length ≤ k := by simp; have := h.2.1; omega
        dsimp only
        split
        · exact ⟨Nat.le_succ_of_le h.1, Nat.le_succ_of_le hdl, hd⟩
        · split
          · exact ⟨Nat.le_succ_of_le h.1, Nat.le_succ_of_le hdl, hd⟩
          · refine ⟨?_, ?_, fun l hl => ?_⟩
            · unfold putW; simp; exact h.1
            · unfold putW; simp; have := h.2.1; omega
            · unfold putW at hl
              simp only [List.mem_append, List.mem_singleton] at hl
              rcases hl with hl | rfl
              · exact hd l (by simpa using hl)
              · exact Nat.le_trans (by rw [List.length_take]; exact Nat.min_le_right _ _) (comeW_len H _)
end Go.Proofs.YtfodlklpfffaaaaGreatDoor

namespace Go.Inq
open Go
section
variable {ops : Array Oper}
def hasM (ms : List Nat) (i j : Nat) : Bool := (ms.getD i 0).testBit j
/-- Each bit of a mask has its reason. -/
def maskB (ops : Array Oper) (ms : List Nat) : Bool := (List.range ops.size).all fun n => (List.range n).all fun i => !hasM ms n i || (match ops[n]? with
  | some o => o.after.any fun e => Region.binds .any e && (decide (e.on < n) && (e.on == i || (decide (i < e.on) && hasM ms e.on i)))
  | none => false)
theorem waits_mono {md : Region.Mode} : ∀ {f f' j i : Nat}, waitsT md ops f j i = true → f ≤ f' → waitsT md ops f' j i = true
  | 0, _, _, _, h, _ => by simp [waitsT] at h
  | f + 1, 0, _, _, _, hf => by omega
  | f + 1, f' + 1, j, i, h, hf => by
    unfold waitsT at h ⊢
    cases ho : ops[j]? with
    | none => rw [ho] at h; exact h
    | some o =>
      rw [ho] at h
      dsimp only at h ⊢
      rw [← Array.any_toList, List.any_eq_true] at h ⊢
      obtain ⟨e, he, h2⟩ := h
      refine ⟨e, he, ?_⟩
      rw [Bool.and_eq_true, Bool.or_eq_true] at h2 ⊢
      exact ⟨h2.1, h2.2.imp id fun g => waits_mono g (by omega)⟩
theorem mask_waits {ms : List Nat} (h : maskB ops ms = true) : ∀ (n : Nat), n < ops.size → ∀ i, i < n → hasM ms n i = true → waitsT .any ops (n + 1) n i = true := by
  intro n
  induction n using Nat.strongRecOn with
  | ind n ih =>
    intro hn i hi hm
    unfold maskB at h
    have h1 := List.all_eq_true.1 (List.all_eq_true.1 h n (List.mem_range.2 hn)) i (List.mem_range.2 hi)
    rw [hm] at h1
    unfold waitsT
    cases ho : ops[n]? with
    | none => rw [ho] at h1; simp at h1
    | some o =>
      rw [ho] at h1
      dsimp only at h1 ⊢
      simp only [Bool.not_true, Bool.false_or] at h1
      rw [← Array.any_toList, List.any_eq_true] at h1 ⊢
      obtain ⟨e, he, h2⟩ := h1
      refine ⟨e, he, ?_⟩
      rw [Bool.and_eq_true, Bool.and_eq_true, decide_eq_true_eq, Bool.or_eq_true, Bool.and_eq_true, decide_eq_true_eq] at h2
      rw [Bool.and_eq_true, Bool.or_eq_true]
      refine ⟨h2.1, h2.2.2.imp id fun g => ?_⟩
      exact waits_mono (ih e.on h2.2.1 (by omega) i g.1 g.2) (by omega)
def floatB2 (ops : Array Oper) (ms : List Nat) : Bool := maskB ops ms && (Region.noSelect ops && (List.range ops.size).all fun i => match ops[i]? with
    | none => true
    | some o => (o.after.all fun e => !Region.binds .any e || decide (e.on < i)) &&
      (List.range ops.size).all fun j => match ops[j]? with
        | none => true
        | some oj => match oj.dst with
          | none => true
          | some t => (i == j || o.dst != some t) && (!(readsT ops o).contains t || (decide (j < i) && hasM ms i j) || (decide (i < j) && hasM ms j i) || i == j))
theorem floatB_of {ms : List Nat} (h : floatB2 ops ms = true) : floatB ops = true := by
  unfold floatB2 at h
  rw [Bool.and_eq_true, Bool.and_eq_true] at h
  obtain ⟨hm, hs, hall⟩ := h
  have hw := mask_waits hm
  unfold floatB
  rw [Bool.and_eq_true]
  refine ⟨hs, List.all_eq_true.2 fun i hi => ?_⟩
  have hi' := List.mem_range.1 hi
  have h1 := List.all_eq_true.1 hall i hi
  cases ho : ops[i]? with
  | none => rfl
  | some o =>
    rw [ho] at h1
    dsimp only at h1 ⊢
    rw [Bool.and_eq_true] at h1 ⊢
    refine ⟨h1.1, List.all_eq_true.2 fun j hj => ?_⟩
    have hj' := List.mem_range.1 hj
    have h2 := List.all_eq_true.1 h1.2 j hj
    cases hoj : ops[j]? with
    | none => rfl
    | some oj =>
      rw [hoj] at h2
      dsimp only at h2 ⊢
      cases ht : oj.dst with
      | none => rfl
      | some t =>
        rw [ht] at h2
        dsimp only at h2 ⊢
        rw [Bool.and_eq_true] at h2 ⊢
        refine ⟨h2.1, ?_⟩
        have h3 := h2.2
        rw [Bool.or_eq_true, Bool.or_eq_true, Bool.or_eq_true, Bool.and_eq_true, Bool.and_eq_true, decide_eq_true_eq, decide_eq_true_eq] at h3 ⊢
        rcases h3 with ((g | g) | g) | g
        · exact .inl (.inl (.inl g))
        · exact .inl (.inl (.inr ⟨g.1, waits_mono (hw i hi' j g.1 g.2) (by omega)⟩))
        · exact .inl (.inr ⟨g.1, waits_mono (hw j hj' i g.1 g.2) (by omega)⟩)
        · exact .inr g
end
end Go.Inq
