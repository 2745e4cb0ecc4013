/-
  Walks: layer 18: choices, or a level, that may not be.
-/
import Derived.Deep.WholeRow
import Derived.Test.YtjomijnbnbideaaGreatDoorT13
import Derived.Test.YtjomijnbnbideaaGreatDoorT04
import Derived.Test.YtjomijnbnbideaaGreatDoorT05
import Derived.Test.YtjomijnbnbideaaGreatDoorT08
set_option linter.unusedVariables false
set_option linter.unusedSimpArgs false
namespace Go.Proofs.YtjomijnbnbideaaGreatDoor
open Go.RowKit Go.Inq
set_option maxHeartbeats 8000000
attribute [local go_sem ↓] Go.wp_at_zero Go.wp_at_succ

theorem full18_bad (A : Option Addr) (c : Nat) (H : List Txn) (level : Int) (Al : Option Addr) (cl : Nat) (l : List Cho) (w : World) (h : TxnS w (Old w) (.slice A H.length c) H) (hn : SmallH H) (hl : ChoS w (Old w) (.slice Al l.length cl) l) (hln : l.length ≤ 1000000000) (hb : (rightC H l && (decide (level = 0) || decide (level = 1))) = false) :
    Calls Tryz.prog 27 #[.agg #[.slice A H.length c], .int .i64 level, .slice Al l.length cl] w fun e w' => e = .returned (.tuple #[.agg #[.int .i64 0, .slice none 0 0], .int .i64 1]) ∧ Below w.heap.size w w' := by
  obtain ⟨W0, hW0⟩ : ∃ W0, (w.alloc (.cells #[.slice A H.length c] 24)).alloc (.cells #[.int .i64 0, .slice none 0 0] 56) = W0 := ⟨_, rfl⟩
  have hB := below_two hW0
  have k0 := Blk.two1 hW0
  have k1 := Blk.two2 hW0
  have hrc := hide (right18_any A c H Al cl l W0 (h.below hB) hn (hl.below hB) hln)
  have c0 := k0.cell 0
  simp only [List.getElem?_toArray, List.getElem?_cons_zero, List.getElem?_cons_succ] at c0
  generalize rightC H l = q at *
  clear h hl
  have hways : q = false ∨ (q = true ∧ (level != 0) = true ∧ (level != 1) = true) := by
    cases q with
    | false => exact .inl rfl
    | true =>
      right
      rw [Bool.true_and, Bool.or_eq_false_iff] at hb
      exact ⟨rfl, by simpa using hb.1, by simpa using hb.2⟩
  clear hb
  go_enter Tryz.func27, Tryz.ntmps27
  go_wp2_with fail
  clear hW0 c0
  refine hrc.out.mono ?_
  rintro e w1 ⟨rfl, hb1⟩
  replace k1 := k1.below hb1 k1.lt
  have hb2 := hB.trans (hb1.mono hB.size)
  have d0 := k1.cell 0
  have d1 := k1.cell 1
  have f0 := k1.frozen 0
  have f1 := k1.frozen 1
  simp only [List.getElem?_toArray, List.getElem?_cons_zero, List.getElem?_cons_succ] at d0 d1
  have hz := hide (((hb2.setCell (p := ⟨w.heap.size + 1, 0, none⟩) (Nat.le_succ _) (.int .i64 0)).setCell (p := ⟨w.heap.size + 1, 1, none⟩) (Nat.le_succ _) (.slice none 0 0)))
  have hq := (k1.set_ 0 (.int .i64 0)).set_ 1 (.slice none 0 0)
  simp only [List.setIfInBounds_toArray, List.set_cons_zero, List.set_cons_succ] at hq
  have y0 := hq.cell 0
  have y1 := hq.cell 1
  simp only [List.getElem?_toArray, List.getElem?_cons_zero, List.getElem?_cons_succ] at y0 y1
  rcases hways with rfl | ⟨rfl, g1, g2⟩
  all_goals
    go_wp2_with fail
    exact bodyPost_ret (v := .tuple #[.agg #[.int .i64 0, .slice none 0 0], .int .i64 1]) (by simp [results, Tryz.results27, go_sem, y0, y1]) rfl ⟨rfl, hz.out⟩
end Go.Proofs.YtjomijnbnbideaaGreatDoor

namespace Go.Inq
open Go Go.RowKit

/-- An array of 64 numbers. -/
def arrN (D : Nat → Nat) : Array Value := ((List.range 64).map fun x => Value.int .i64 ((D x : Nat) : Int)).toArray
theorem arrN_size (D : Nat → Nat) : (arrN D).size = 64 := by simp [arrN]
theorem arrN_at {D : Nat → Nat} {x : Nat} (h : x < 64) : (arrN D)[x]? = some (.int .i64 ((D x : Nat) : Int)) := by
  unfold arrN
  rw [List.getElem?_toArray, List.getElem?_map, List.getElem?_range h]; rfl
theorem arrN_set {D : Nat → Nat} {x v : Nat} (h : x < 64) : (arrN D).setIfInBounds x (.int .i64 ((v : Nat) : Int)) = arrN (fun y => if y = x then v else D y) := by
  unfold arrN
  rw [List.setIfInBounds_toArray]
  congr 1
  refine List.ext_getElem (by simp) fun i h1 h2 => ?_
  rw [List.getElem_set, List.getElem_map, List.getElem_map, List.getElem_range]
  dsimp only
  by_cases e : x = i
  · rw [if_pos e, if_pos e.symm]
  · rw [if_neg e, if_neg (Ne.symm e)]
theorem arrN_put {D : Nat → Nat} {x k : Nat} (h : x < 64) : (arrN D).setIfInBounds x (.int .i64 ((k : Int) + 1)) = arrN (fun y => if y = x then k + 1 else D y) := by
  rw [← arrN_set h]
  rfl
theorem arrN_one (D : Nat → Nat) : (arrN D).all (·.oneCell') = true := by
  rw [Array.all_eq_true]
  intro i hi
  simp [arrN, Value.oneCell']
theorem arrN_ext {D F : Nat → Nat} (h : ∀ x, D x = F x) : arrN D = arrN F := by rw [show D = F from funext h]
/-- A whole array out of its block, and back. -/
theorem run_load_blk {P : Program} {W : World} {g : Nat} {t : TypeId} {cs : Array Value} (hk : Blk W g t cs) {n : Nat} (hn : cs.size = n) : (loadCellsFrom ⟨g, 0, none⟩ 0 n #[]).run P W = .ok cs W := by
  subst hn
  have := run_loadCells_list (P := P) W ⟨g, 0, none⟩ cs.toList (fun j v hv => by
    have hadd : (⟨g, 0, none⟩ : Addr).add j = ⟨g, j, none⟩ := by unfold Addr.add; split <;> simp_all
    rw [hadd, hk.cell]
    simpa using hv)
  simpa [loadCells] using this
theorem setRow_blk {W : World} {g : Nat} {t : TypeId} {cs c' : Array Value} (hk : Blk W g t cs) : Blk (W.setRow g c') g t c' := by
  unfold Blk at hk ⊢
  simp [World.setRow, Array.getElem?_modify, hk]
theorem setRow_same {W : World} {g : Nat} {t : TypeId} {cs : Array Value} (hk : Blk W g t cs) : W.setRow g cs = W := by
  unfold Blk at hk
  have h2 : ∀ i, (W.setRow g cs).heap[i]? = W.heap[i]? := fun i => by
    unfold World.setRow
    dsimp only
    rw [Array.getElem?_modify]
    by_cases e : g = i
    · subst e
      rw [if_pos rfl, hk]
      rfl
    · rw [if_neg e]
  have h3 : (W.setRow g cs).heap = W.heap := Array.ext_getElem? h2
  unfold World.setRow at h3 ⊢
  dsimp only at h3
  rw [h3]
theorem run_store_blk {P : Program} {W : World} {g : Nat} {t : TypeId} {cs : Array Value} (hk : Blk W g t cs) (hi : (P.info? t).map (·.size) = some cs.size) (h1 : cs.all (·.oneCell') = true) : (storeCells ⟨g, 0, none⟩ cs.toList 0).run P W = .ok () W := by
  have := run_storeVar_row (P := P) W g t t cs cs hk hi rfl h1
  rw [setRow_same hk] at this
  cases hq : P.info? t with
  | none => simp [hq] at hi
  | some i =>
    have hs : cs.size = i.size := by simp [hq] at hi; omega
    simpa [storeVar, sizeOf, typeInfo, hq, Value.cells, hs] using this
/-- A whole array is loaded. -/
theorem wpList_loadArr {P : Program} {W : World} {ops : Array Oper} {rest : List Oper} {o : Oper} {a : Act} {Q : Exit → Act → World → Prop} {t e : TypeId} {p : Operand} {g n : Nat} {cs : Array Value}
    (hg : o.guard = none) (ho : o.op = .load t p) (hp : a.eval p = .pointer (some ⟨g, 0, none⟩)) (hk : Blk W g t cs) (hu : P.underlying t = some (.array n e)) (hi : (P.info? t).map (·.size) = some cs.size)
    (h : wpList P ops Q rest (a.put o.dst (.agg cs)) W) : wpList P ops Q (o :: rest) a W := by
  refine wpList_plain hg (fun K hK => ?_)
  have hr : (Instr.loadAt t (.pointer (some ⟨g, 0, none⟩))).run P W = .ok (.agg cs) W := by
    simp only [Instr.loadAt, Instr.sureAddr, Sem.run_bind, Sem.run_pure, Result.andThen]
    exact run_loadVar_row W g t t cs (0, 0) _ hk hu rfl hi
  unfold Oper.wp execOp
  simp only [ho, hp, Sem.run_bind, Sem.run_pure, Result.andThen_ok, Sem.run_map, hr]
  exact hK _ _ h
theorem results_cell1 {fn : Func} {p : Tmp} {ty : TypeId} (h : fn.results = #[.cell p ty]) {tmps : Array Value} {P : Program} {W : World} {g : Nat} {cs : Array Value} {n : Nat} {e : TypeId} (hp : tmps.getD p undef = .pointer (some ⟨g, 0, none⟩))
    (hk : Blk W g ty cs) (hu : P.underlying ty = some (.array n e)) (hi : (P.info? ty).map (·.size) = some cs.size) : (results fn tmps).run P W = .ok (.agg cs) W := by
  have hr := run_loadVar_row (P := P) W g ty ty cs (0, 0) _ hk hu rfl hi
  simp only [results, h]
  simp [Sem.run_bind, Result.andThen, asAddr, hr, Array.getD_eq_getD_getElem?] at hp ⊢
  rw [hp]
  simp [Sem.run_bind, Result.andThen, hr]
/-- A whole array is stored. -/
theorem wpList_storeArr {P : Program} {W : World} {ops : Array Oper} {rest : List Oper} {o : Oper} {a : Act} {Q : Exit → Act → World → Prop} {t : TypeId} {p x : Operand} {g : Nat} {cs c' : Array Value}
    (hg : o.guard = none) (ho : o.op = .store t p x) (hp : a.eval p = .pointer (some ⟨g, 0, none⟩)) (hx : a.eval x = .agg c') (hk : Blk W g t cs) (hi : (P.info? t).map (·.size) = some c'.size) (hs : cs.size = c'.size) (h1 : c'.all (·.oneCell') = true)
    (h : wpList P ops Q rest (a.put o.dst undef) (W.setRow g c')) : wpList P ops Q (o :: rest) a W := by
  refine wpList_plain hg (fun K hK => ?_)
  have hr : (Instr.storeAt t (.pointer (some ⟨g, 0, none⟩)) (.agg c')).run P W = .ok () (W.setRow g c') := by
    simp only [Instr.storeAt, Instr.sureAddr, Sem.run_bind, Sem.run_pure, Result.andThen]
    exact run_storeVar_row W g t t cs c' hk hi hs h1
  unfold Oper.wp execOp
  simp only [ho, hp, hx, Sem.run_bind, Sem.run_pure, Result.andThen_ok, Sem.run_map, hr]
  exact hK _ _ h
/-- Rounds so far, at the nodes alone. -/
def farC (n : Nat) (E : Edges) (v k x : Nat) : Nat := if x < n then (match k with | 0 => 0 | k + 1 => farK n E v k x) else 0
def frontK (n : Nat) (E : Edges) (v k : Nat) (z : Nat) : Bool := match k with | 0 => E z v | k + 1 => (List.range n).any fun y => E z y && decide (farK n E v k y = k + 1)
theorem farC_next {n : Nat} {E : Edges} {v k x : Nat} (hx : x < n) : farC n E v (k + 1) x = if farC n E v k x ≠ 0 then farC n E v k x else if frontK n E v k x = true then k + 1 else 0 := by
  unfold farC
  rw [if_pos hx, if_pos hx]
  cases k with
  | zero => rfl
  | succ k => rfl
theorem farC_le {n : Nat} {E : Edges} {v k x : Nat} : farC n E v k x ≤ k := by
  unfold farC
  split
  · cases k with
    | zero => exact Nat.le_refl _
    | succ k => exact farK_le k x
  · omega
theorem farC_new {n : Nat} {E : Edges} {v k x : Nat} (hx : x < n) : farC n E v (k + 1) x = k + 1 ↔ farC n E v k x = 0 ∧ frontK n E v k x = true := by
  have hle := farC_le (n := n) (E := E) (v := v) (k := k) (x := x)
  rw [farC_next hx]
  by_cases h : farC n E v k x = 0
  · rw [if_neg (by omega)]
    cases frontK n E v k x <;> simp [h]
  · rw [if_pos h]
    constructor
    · intro e; omega
    · rintro ⟨e, _⟩; exact absurd e h
theorem frontK_next {n : Nat} {E : Edges} {v k z : Nat} : frontK n E v (k + 1) z = ((List.range n).filter (frontK n E v k)).any fun x => decide (farC n E v k x = 0) && E z x := by
  show ((List.range n).any fun y => E z y && decide (farK n E v k y = k + 1)) = _
  rw [Bool.eq_iff_iff, List.any_eq_true, List.any_eq_true]
  have hn : ∀ y, y < n → (farK n E v k y = k + 1 ↔ farC n E v k y = 0 ∧ frontK n E v k y = true) := fun y hy => by
    rw [← farC_new hy]
    unfold farC
    rw [if_pos hy]
  constructor
  · rintro ⟨y, hy, h⟩
    rw [Bool.and_eq_true] at h
    obtain ⟨h1, h2⟩ := (hn y (List.mem_range.1 hy)).1 (of_decide_eq_true h.2)
    exact ⟨y, List.mem_filter.2 ⟨hy, h2⟩, by rw [h.1, decide_eq_true h1]; rfl⟩
  · rintro ⟨y, hy, h⟩
    obtain ⟨hy1, hy2⟩ := List.mem_filter.1 hy
    rw [Bool.and_eq_true] at h
    exact ⟨y, hy1, by rw [h.2, decide_eq_true ((hn y (List.mem_range.1 hy1)).2 ⟨of_decide_eq_true h.1, hy2⟩)]; rfl⟩
/-- Behind some of the front. -/
def dIn (D : Nat → Nat) (k : Nat) (l : List Nat) (x : Nat) : Nat := if D x ≠ 0 then D x else if l.contains x = true then k + 1 else 0
def pIn (E : Edges) (D : Nat → Nat) (l : List Nat) (z : Nat) : Bool := l.any fun x => decide (D x = 0) && E z x
theorem dIn_nil (D : Nat → Nat) (k x : Nat) : dIn D k [] x = D x := by
  unfold dIn
  by_cases h : D x = 0 <;> simp [h]
theorem dIn_all {n : Nat} {E : Edges} {v k x : Nat} : dIn (farC n E v k) k ((List.range n).filter (frontK n E v k)) x = farC n E v (k + 1) x := by
  unfold dIn
  by_cases hx : x < n
  · rw [farC_next hx]
    have : ((List.range n).filter (frontK n E v k)).contains x = frontK n E v k x := by
      rw [Bool.eq_iff_iff, List.contains_iff_mem, List.mem_filter, List.mem_range]
      exact ⟨fun h => h.2, fun h => ⟨hx, h⟩⟩
    rw [this]
  · have h1 : farC n E v k x = 0 := by unfold farC; rw [if_neg hx]
    have h2 : farC n E v (k + 1) x = 0 := by unfold farC; rw [if_neg hx]
    have : ((List.range n).filter (frontK n E v k)).contains x = false := by
      rw [Bool.eq_false_iff]
      intro h
      rw [List.contains_iff_mem, List.mem_filter, List.mem_range] at h
      exact hx h.1
    rw [h1, h2, this]
    rfl
theorem dIn_step {D : Nat → Nat} {k : Nat} {l : List Nat} (hnd : l.Nodup) {i : Nat} (hi : i < l.length) : dIn D k (l.take i) l[i] = D l[i] ∧ (D l[i] = 0 → ∀ y, (if y = l[i] then k + 1 else dIn D k (l.take i) y) = dIn D k (l.take (i + 1)) y) ∧ (D l[i] ≠ 0 → ∀ y, dIn D k (l.take i) y = dIn D k (l.take (i + 1)) y) := by
  have hnot : l[i] ∉ l.take i := fun hm => by
    obtain ⟨j, hj, e⟩ := List.mem_take_iff_getElem.1 hm
    exact List.pairwise_iff_getElem.1 (List.nodup_iff_pairwise_ne.1 hnd) j i (by omega) hi (by omega) e
  have hc : (l.take i).contains l[i] = false := by
    rw [Bool.eq_false_iff]
    intro h
    exact hnot (List.contains_iff_mem.1 h)
  have hs : ∀ y, (l.take (i + 1)).contains y = ((l.take i).contains y || y == l[i]) := fun y => by
    rw [List.take_succ_eq_append_getElem hi, List.contains_append]
    congr 1
    rw [List.contains_cons, List.contains_nil, Bool.or_false]
  refine ⟨?_, fun h0 y => ?_, fun h0 y => ?_⟩
  · unfold dIn
    rw [hc]
    by_cases h : D l[i] = 0 <;> simp [h]
  · unfold dIn
    rw [hs]
    by_cases e : y = l[i]
    · subst e
      simp [h0]
    · have : (y == l[i]) = false := by simpa using e
      rw [if_neg e, this, Bool.or_false]
  · unfold dIn
    rw [hs]
    by_cases e : y = l[i]
    · subst e
      rw [if_pos h0, if_pos h0]
    · have : (y == l[i]) = false := by simpa using e
      rw [this, Bool.or_false]
theorem pIn_step {E : Edges} {D : Nat → Nat} {l : List Nat} {i : Nat} (hi : i < l.length) (z : Nat) : pIn E D (l.take (i + 1)) z = (pIn E D (l.take i) z || (decide (D l[i] = 0) && E z l[i])) := by
  unfold pIn
  rw [List.take_succ_eq_append_getElem hi, List.any_append]
  simp
theorem setB_zero {p : Nat → Bool} {n : Nat} : setB p n = 0 ↔ ∀ x, x < n → p x = false := by
  constructor
  · intro h x hx
    have := testBit_setB p n x
    rw [h, Nat.zero_testBit] at this
    simpa [hx] using this.symm
  · intro h
    refine Nat.eq_of_testBit_eq fun i => ?_
    rw [testBit_setB, Nat.zero_testBit]
    by_cases hi : i < n
    · simp [h i hi]
    · simp [hi]
/-- At the end. -/
def farA (n : Nat) (E : Edges) (v x : Nat) : Nat := if x < n then farE n E v x else 0
theorem farC_end {n : Nat} {E : Edges} {v k : Nat} (hv : v < n) (h : setB (frontK n E v k) n = 0) (x : Nat) : farC n E v k x = farA n E v x := by
  rw [setB_zero] at h
  unfold farC farA
  split
  · rename_i hx
    cases k with
    | zero =>
      have h0 : ∀ y, y < n → farK n E v 0 y = 0 := fun y hy => by
        show (if _ then _ else _) = _
        rw [if_neg (by rw [show E y v = false from h y hy]; decide)]
      have := farE_stop (n := n) (E := E) (v := v) (k := 0) (fun a b ha hb e => by rw [h0 b hb] at e; omega) hx
      rw [h0 x hx] at this
      exact this
    | succ k =>
      refine farE_stop (fun a b ha hb e => ?_) hx
      have h1 := h a ha
      have h1 : ((List.range n).any fun y => E a y && decide (farK n E v k y = k + 1)) = false := h1
      rw [List.any_eq_false] at h1
      have h2 := h1 b (List.mem_range.2 hb)
      rw [decide_eq_true e, Bool.and_true] at h2
      simpa using h2
  · rfl
theorem front_le {n : Nat} {E : Edges} {v k : Nat} (h : setB (frontK n E v k) n ≠ 0) : k ≤ n := by
  cases k with
  | zero => omega
  | succ k =>
    rcases Classical.em (∃ z, z < n ∧ frontK n E v (k + 1) z = true) with ⟨z, _, hz⟩ | hno
    · have hz : ((List.range n).any fun y => E z y && decide (farK n E v k y = k + 1)) = true := hz
      rw [List.any_eq_true] at hz
      obtain ⟨y, hy, h2⟩ := hz
      rw [Bool.and_eq_true] at h2
      have h3 := of_decide_eq_true h2.2
      have := farK_lev (n := n) (E := E) (v := v) (k := k) (List.mem_range.1 hy)
      omega
    · exact absurd (setB_zero.2 fun x hx => by
        cases hc : frontK n E v (k + 1) x with
        | false => rfl
        | true => exact absurd ⟨x, hx, hc⟩ hno) h
end Go.Inq

namespace Go.Proofs.YtjomijnbnbideaaGreatDoor
open Go.RowKit Go.Inq
set_option maxHeartbeats 8000000
attribute [local go_sem ↓] Go.wp_at_zero Go.wp_at_succ

theorem info180 : (Tryz.prog.info? 180).map (·.size) = some 64 := by kernel_rfl
theorem arrN_lit : #[Value.int .i64 0, .int .i64 0, .int .i64 0, .int .i64 0, .int .i64 0, .int .i64 0, .int .i64 0, .int .i64 0, .int .i64 0, .int .i64 0, .int .i64 0, .int .i64 0, .int .i64 0, .int .i64 0, .int .i64 0, .int .i64 0, .int .i64 0, .int .i64 0, .int .i64 0, .int .i64 0, .int .i64 0, .int .i64 0, .int .i64 0, .int .i64 0, .int .i64 0, .int .i64 0, .int .i64 0, .int .i64 0, .int .i64 0, .int .i64 0, .int .i64 0, .int .i64 0, .int .i64 0, .int .i64 0, .int .i64 0, .int .i64 0, .int .i64 0, .int .i64 0, .int .i64 0, .int .i64 0, .int .i64 0, .int .i64 0, .int .i64 0, .int .i64 0, .int .i64 0, .int .i64 0, .int .i64 0, .int .i64 0, .int .i64 0, .int .i64 0, .int .i64 0, .int .i64 0, .int .i64 0, .int .i64 0, .int .i64 0, .int .i64 0, .int .i64 0, .int .i64 0, .int .i64 0, .int .i64 0, .int .i64 0, .int .i64 0, .int .i64 0, .int .i64 0] = arrN (fun _ => 0) := by kernel_rfl
set_option maxRecDepth 100000 in
theorem far15_any (n : Nat) (A : Option Addr) (c : Nat) (E : Edges) (v : Nat) (w : World) (h : GrS w (Old w) n A c (turnE E)) (hv : v < n) (hTB : TabB w) :
    Calls Tryz.prog 120 #[.agg #[.int .i64 n, .slice A n c], .int .i64 (v : Int)] w fun e w' => e = .returned (.agg (arrN (farA n E v))) ∧ Below w.heap.size w w' := by
  have hn64 := h.n64
  have hv0 : (0 : Int) ≤ (v : Int) := Int.natCast_nonneg _
  have hv1 : (v : Int) < (n : Int) := by omega
  obtain ⟨W0, hW0⟩ : ∃ W0, (w.alloc (.cells #[.int .i64 n, .slice A n c] 56)).alloc (.cells (arrN (fun _ => 0)) 180) = W0 := ⟨_, rfl⟩
  have hB := below_two hW0
  have k0 := Blk.two1 hW0
  have k1 := Blk.two2 hW0
  have hs0 := size_two hW0
  rw [← arrN_lit] at hW0
  have hfr0 : Hid (∀ z, frontK n E v 0 z = E z v) := hide (fun z => rfl)
  have hfc0 : Hid (arrN (fun _ => 0) = arrN (farC n E v 0)) := hide (arrN_ext fun x => by unfold farC; split <;> rfl)
  rw [hfc0.out] at k1
  have hend := hide (fun k => farC_end (n := n) (E := E) (k := k) hv)
  have hfl := hide (fun k => front_le (n := n) (E := E) (v := v) (k := k))
  have hfn := hide (fun k z => frontK_next (n := n) (E := E) (v := v) (k := k) (z := z))
  have hda := hide (fun k x => dIn_all (n := n) (E := E) (v := v) (k := k) (x := x))
  have hh : Hid (∀ W, Below w.heap.size w W → GrS W (Old W) n A c (turnE E)) := hide (fun W hb => h.below hb)
  have hTb : Hid (∀ W, Below w.heap.size w W → TabB W) := hide (fun W hb => hTB.below hb)
  obtain ⟨bb, ob, rfl, -, x0⟩ := (hh.out W0 hB).at_ hv
  have c1 := k0.cell 1
  simp only [List.getElem?_toArray, List.getElem?_cons_zero, List.getElem?_cons_succ] at c1
  have ht0 : Hid (setB (turnE E v) n = setB (frontK n E v 0) n) := hide (setB_congr fun i _ => rfl)
  rw [ht0.out] at x0
  replace hs0 := hide hs0
  clear h hTB
  go_enter Tryz.func120, Tryz.ntmps120
  go_upto_region 1 with fail
  clear hW0
  go_wp2_with fail
  clear x0 c1
  go_loopw [5, 6] (fun s5 s6 wr => ∃ k : Nat, s6 = .int .i64 ((k : Int) + 1) ∧ s5 = .int .u64 (setB (frontK n E v k) n : Nat) ∧ k ≤ n + 1 ∧ Blk wr w.heap.size 56 #[.int .i64 n, .slice (some ⟨bb, ob, none⟩) n c] ∧ Blk wr (w.heap.size + 1) 180 (arrN (farC n E v k)) ∧ Below w.heap.size w wr) (fun _ s6 _ => n + 3 - (intOf s6).toNat)
  case atStart => exact ⟨0, by go_num, rfl, by omega, k0, k1, hB⟩
  case round =>
    clear k0 k1 hB
    obtain ⟨Wo, rfl⟩ : ∃ Wo, Wo = wr := ⟨_, rfl⟩
    obtain ⟨k, rfl, rfl, hk, k0, k1, hb⟩ := hrel
    have hk1 : (0 : Int) ≤ (k : Int) := Int.natCast_nonneg _
    have h64 := hide (setB_64 (p := frontK n E v k) hn64)
    by_cases hz : setB (frontK n E v k) n = 0
    · have hzb : (setB (frontK n E v k) n != 0) = false := by simp [hz]
      have hea := hide (arrN_ext (hend.out k hz))
      rw [hea.out] at k1
      have hsz := hide (arrN_size (farA n E v))
      have h1 := hide (arrN_one (farA n E v))
      obtain ⟨arr, harr⟩ : ∃ arr, arrN (farA n E v) = arr := ⟨_, rfl⟩
      rw [harr] at k1 hsz h1
      replace harr := hide harr
      generalize setB (frontK n E v k) n = s at *
      clear hea
      go_upto_region 14 with fail
      refine wp_region_lit ?_
      refine wpList_loadArr rfl rfl rfl k1 Tryz.underlying180 (by rw [hsz.out]; exact info180) ?_
      refine wpList_storeArr rfl rfl rfl rfl k1 (by rw [hsz.out]; exact info180) rfl h1.out ?_
      rw [setRow_same k1]
      go_wp2
      refine bodyPost_ret (v := .agg arr) (results_cell1 Tryz.results120 rfl k1 Tryz.underlying180 (by rw [hsz.out]; exact info180)) rfl ⟨by rw [harr.out], hb⟩
    · have hzb : (setB (frontK n E v k) n != 0) = true := by simp [hz]
      have hkn := hide (hfl.out k hz)
      replace hz := hide hz
      have hli : Hid (intsN (listB (setB (frontK n E v k) n)) = intsN ((List.range n).filter (frontK n E v k))) := hide (by rw [listB_setB hn64])
      have hfn2 := hide (hfn.out k)
      have hda2 := hide (hda.out k)
      have hnd : Hid (((List.range n).filter (frontK n E v k)).Nodup) := hide (List.Pairwise.filter _ List.nodup_range)
      have hlt : Hid (∀ x ∈ (List.range n).filter (frontK n E v k), x < n) := hide (fun x hx => List.mem_range.1 (List.mem_filter.1 hx).1)
      have hLl : ((List.range n).filter (frontK n E v k)).length ≤ 64 := Nat.le_trans (List.length_filter_le _ _) (by simp; exact hn64)
      have hbl := hide (list10_any (setB (frontK n E v k) n) h64.out Wo (hTb.out Wo hb))
      rw [hli.out] at hbl
      generalize hLq : (List.range n).filter (frontK n E v k) = L at *
      replace hLq := hide hLq
      have hln := hide (intsN_len L)
      generalize setB (frontK n E v k) n = s at *
      go_wp2_with fail
      refine hbl.out.mono ?_
      rintro e w5 ⟨vl, rfl, hO, hb5⟩
      obtain ⟨Al, cl, rfl⟩ := OwnI.form hO
      have hb6 := hb.trans (hb5.mono hb.size)
      have hg1 : w.heap.size + 1 < Wo.heap.size := k1.lt
      have hIs := hide (OwnI.sl (K := fun b => Wo.heap.size ≤ b ∧ b < w5.heap.size) hO (fun g h1 h2 => ⟨h1, h2⟩))
      replace k0 := k0.below hb5 k0.lt
      replace k1 := k1.below hb5 k1.lt
      have hs5 := hb5.size
      rw [hln.out] at hIs ⊢
      have hd0 : Hid (arrN (farC n E v k) = arrN (dIn (farC n E v k) k [])) := hide (arrN_ext fun x => (dIn_nil _ _ x).symm)
      rw [hd0.out] at k1
      have hp0 : Hid ((0 : Nat) = setB (pIn E (farC n E v k) []) n) := hide (setB_zero.2 fun x _ => rfl).symm
      clear hbl hO hb hb5
      go_wp2_with fail
      go_loopw [7, 22] (fun s7 s22 wq => ∃ i : Nat, i ≤ L.length ∧ s22 = .int .i64 i ∧ s7 = .int .u64 (setB (pIn E (farC n E v k) (L.take i)) n : Nat) ∧ Blk wq w.heap.size 56 #[.int .i64 n, .slice (some ⟨bb, ob, none⟩) n c] ∧ Blk wq (w.heap.size + 1) 180 (arrN (dIn (farC n E v k) k (L.take i))) ∧ Below w.heap.size w wq ∧ Agree (fun b => b < w5.heap.size ∧ b ≠ w.heap.size + 1) w5 wq ∧ w5.heap.size ≤ wq.heap.size) (fun _ s22 _ => L.length - (intOf s22).toNat)
      case atStart => exact ⟨0, Nat.zero_le _, by go_num, by rw [List.take_zero, ← hp0.out]; rfl, k0, by rw [List.take_zero]; exact k1, hb6, Agree.refl _ _, Nat.le_refl _⟩
      case round =>
        clear k0 k1 hb6
        obtain ⟨Wp, rfl⟩ : ∃ Wp, Wp = wr := ⟨_, rfl⟩
        obtain ⟨i, hi, rfl, rfl, k0, k1, hb, hag, hsz⟩ := hrel
        have hi1 : (0 : Int) ≤ (i : Int) := Int.natCast_nonneg _
        by_cases hil : i < L.length
        · have hi2 : (i : Int) < (L.length : Int) := by omega
          have hIp := hIs.out.keep (K' := fun _ => True) (hag.mono fun b hb => ⟨hb.2, by have h1 : Wo.heap.size ≤ b := hb.1; omega⟩) (fun _ _ => trivial)
          obtain ⟨bl, ol, rfl, -, x0⟩ := hIp.at_ (i := i) (by rw [hln.out]; exact hil)
          have hxL : (intsN L)[i]'(by rw [hln.out]; exact hil) = (L[i] : Int) := by simp [intsN]
          rw [hxL] at x0
          have hxn : L[i] < n := hlt.out _ (List.getElem_mem hil)
          obtain ⟨hd1, hd2, hd3⟩ := dIn_step (D := farC n E v k) (k := k) hnd.out hil
          have hps := hide (fun z => pIn_step (E := E) (D := farC n E v k) hil z)
          obtain ⟨x, hx⟩ : ∃ x, L[i] = x := ⟨_, rfl⟩
          rw [hx] at x0 hxn hd1 hd2 hd3 hps
          clear hxL hx
          have hx0 : (0 : Int) ≤ (x : Int) := Int.natCast_nonneg _
          have hx1 : (x : Int) < (n : Int) := by omega
          have hx64 : (x : Int) < 64 := by omega
          have hx64' : x < 64 := by omega
          have e1 := k1.cell x
          rw [arrN_at hx64', hd1] at e1
          have f1 := k1.frozen x
          have c1 := k0.cell 1
          simp only [List.getElem?_toArray, List.getElem?_cons_zero, List.getElem?_cons_succ] at c1
          have r0 := ((hh.out Wp hb).cells hxn).2
          have hil2 := hide hil
          clear hIp
          by_cases hD : farC n E v k x = 0
          · have hDb : ((farC n E v k x : Int) == 0) = true := by simp [hD]
            have hDb2 : (farC n E v k x == 0) = true := by simp [hD]
            have hset := hide ((arrN_put (D := dIn (farC n E v k) k (L.take i)) (k := k) hx64').trans (arrN_ext (hd2 hD)))
            have hjn : Hid (joinL [setB (pIn E (farC n E v k) (L.take i)) n, setB (turnE E x) n] = setB (pIn E (farC n E v k) (L.take (i + 1))) n) := hide (by
              rw [joinL_two, setB_or]
              refine setB_congr fun z _ => ?_
              rw [hps.out, decide_eq_true hD, Bool.true_and]
              rfl)
            have h641 := hide (setB_64 (p := pIn E (farC n E v k) (L.take i)) hn64)
            have h642 := hide (setB_64 (p := turnE E x) hn64)
            have k1' := k1.set_ x (.int .i64 ((k : Int) + 1))
            rw [hset.out] at k1'
            have k0' := k0.far (p := ⟨w.heap.size + 1, x, none⟩) (show w.heap.size ≠ w.heap.size + 1 by omega) (.int .i64 ((k : Int) + 1))
            have hb' := hb.setCell (p := ⟨w.heap.size + 1, x, none⟩) (Nat.le_succ _) (.int .i64 ((k : Int) + 1))
            have hag' := hag.trans (Agree.setCell ⟨w.heap.size + 1, x, none⟩ (fun h => h.2 rfl) (.int .i64 ((k : Int) + 1)) (w := Wp) (K := fun b => b < w5.heap.size ∧ b ≠ w.heap.size + 1))
            have hsz' : Hid (w5.heap.size ≤ (Wp.setCell ⟨w.heap.size + 1, x, none⟩ (.int .i64 ((k : Int) + 1))).heap.size) := hide (by simpa using hsz)
            have hbz := hide hb'
            generalize setB (pIn E (farC n E v k) (L.take i)) n = s1 at *
            obtain ⟨s2, hs2⟩ : ∃ s2, setB (turnE E x) n = s2 := ⟨_, rfl⟩
            rw [hs2] at hjn h642 r0
            have hs2e := hide hs2
            clear hs2
            clear hps hd1 hd2 hd3 hset hD
            replace hag' := hide hag'
            go_upto_region 11 with fail
            obtain ⟨Wq, hWq⟩ : ∃ Wq, Wp.setCell ⟨w.heap.size + 1, x, none⟩ (.int .i64 ((k : Int) + 1)) = Wq := ⟨_, rfl⟩
            rw [hWq] at hb' k0' k1' hag' hsz'
            rw [hWq]
            have hszq := hb'.size
            have hsq := hsz'.out
            have c1' := k0'.cell 1
            simp only [List.getElem?_toArray, List.getElem?_cons_zero, List.getElem?_cons_succ] at c1'
            have r0' := ((hh.out _ hb').cells hxn).2
            have he2 : Hid (setB (turnE E x) n = s2) := hs2e
            rw [he2.out] at r0'
            obtain ⟨Wz, hWz⟩ : ∃ Wz, Wq.alloc (.cells #[.int .u64 s1, .int .u64 s2] 145) = Wz := ⟨_, rfl⟩
            have kN := hide (U64S.of_blk (l := [s1, s2]) (K := fun _ => True) (Blk.newEq hWz) trivial)
            have kz0 := k0'.allocEq hWz
            have kz1 := k1'.allocEq hWz
            have hbz2 := below_allocEq hb' hWz hszq
            have hagz := hide (hag'.out.trans (Agree.allocEq hWz (fun b hb => by have h1 : b < w5.heap.size := hb.1; omega)))
            have hszz : w5.heap.size ≤ Wz.heap.size := by have := size_allocEq hWz; omega
            have hxy : Hid (∀ y ∈ [s1, s2], y < 18446744073709551616) := hide (by intro y hy; simp at hy; rcases hy with rfl | rfl; exact h641.out; exact h642.out)
            have hsizeq : Hid (Wq.heap.size = Wq.heap.size) := hide rfl
            clear hWq k0 k1 hb hag hsz e1 f1 c1 r0 x0 hb' k0' k1' hag' hsz' hbz
            go_wp2_with fail
            refine (join10_any (some ⟨Wq.heap.size, 0, none⟩) 2 2 [s1, s2] (fun _ => True) _ rfl kN.out hxy.out (by omega)).mono ?_
            rintro e w7 ⟨rfl, rfl⟩
            rw [hjn.out]
            clear hWz kN
            go_wp2
            go_roundw
            case rel => exact ⟨i + 1, hil2.out, by go_num, rfl, kz0, kz1, hbz2, hagz.out, hszz⟩
            case measure => have := hil2.out; simp [intOf]; omega
          · have hDb : ((farC n E v k x : Int) == 0) = false := by rw [beq_eq_false_iff_ne]; omega
            have hDb2 : (farC n E v k x == 0) = false := by simp [hD]
            have hset := hide (arrN_ext (hd3 hD))
            have hpn : Hid (setB (pIn E (farC n E v k) (L.take i)) n = setB (pIn E (farC n E v k) (L.take (i + 1))) n) := hide (setB_congr fun z _ => by rw [hps.out, decide_eq_false hD]; simp)
            rw [hset.out] at k1
            rw [hpn.out]
            clear hps hd1 hd2 hd3 hset hD
            replace hag := hide hag
            go_wp2
            go_roundw
            case rel => exact ⟨i + 1, hil2.out, by go_num, rfl, k0, k1, hb, hag.out, hsz⟩
            case measure => have := hil2.out; simp [intOf]; omega
        · obtain rfl : i = L.length := by omega
          have hen : Hid (setB (pIn E (farC n E v k) (L.take L.length)) n = setB (frontK n E v (k + 1)) n) := hide (setB_congr fun z _ => by rw [List.take_length, ← hLq.out, frontK_next]; rfl)
          have hea : Hid (arrN (dIn (farC n E v k) k (L.take L.length)) = arrN (farC n E v (k + 1))) := hide (arrN_ext fun x => by rw [List.take_length, ← hLq.out]; exact dIn_all)
          rw [hen.out]
          rw [hea.out] at k1
          have hkn2 := hkn.out
          clear hen hea hag hIs
          go_wp2
          go_roundw
          case rel => exact ⟨k + 1, by go_num, rfl, by omega, k0, k1, hb⟩
          case measure => simp [intOf]; omega
end Go.Proofs.YtjomijnbnbideaaGreatDoor

namespace Go.Proofs.YtjomijnbnbideaaGreatDoor
open Go.RowKit Go.Inq
set_option maxHeartbeats 1000000
attribute [local go_sem ↓] Go.wp_at_zero Go.wp_at_succ

theorem testBit_div (s i : Nat) : decide (s / 2 ^ i % 2 = 1) = s.testBit i := by
  rw [Nat.testBit_eq_decide_div_mod_eq]
theorem pow_63 {i : Nat} (h : i ≤ 63) : 2 ^ i ≤ 9223372036854775808 := by
  have := Nat.pow_le_pow_right (n := 2) (by decide) h
  simpa using this
theorem with_add {s i : Nat} (hs : s < 18446744073709551616) (hi : i ≤ 63) (h : s.testBit i = false) : s + 2 ^ i = s ||| 2 ^ i := by
  have hp := pow_63 hi
  have hand : BitVec.ofNat 65 s &&& BitVec.ofNat 65 (2 ^ i) = 0#65 := by
    refine BitVec.eq_of_toNat_eq ?_
    rw [BitVec.toNat_and, BitVec.toNat_ofNat, BitVec.toNat_ofNat, Nat.mod_eq_of_lt (by omega), Nat.mod_eq_of_lt (by omega)]
    refine Nat.eq_of_testBit_eq fun j => ?_
    rw [Nat.testBit_and, Nat.testBit_two_pow]
    by_cases e : i = j
    · subst e; simp [h]
    · simp [e]
  have h1 := congrArg BitVec.toNat (BitVec.add_eq_or_of_and_eq_zero _ _ hand)
  have e1 : (BitVec.ofNat 65 s).toNat = s := by rw [BitVec.toNat_ofNat]; exact Nat.mod_eq_of_lt (by omega)
  have e2 : (BitVec.ofNat 65 (2 ^ i)).toNat = 2 ^ i := by rw [BitVec.toNat_ofNat]; exact Nat.mod_eq_of_lt (by omega)
  rw [BitVec.toNat_add, BitVec.toNat_or, e1, e2, Nat.mod_eq_of_lt (by omega)] at h1
  exact h1
/-- A power of two. -/
def pow2 (n : Nat) : Nat := 2 ^ n
theorem rin10_any (i : Int) (w : World) : Calls Tryz.prog 217 #[.int .i64 i] w fun e w' => e = .returned (.bool (decide (0 ≤ i) && decide (i ≤ 63))) ∧ w = w' := by
  by_cases h0 : 0 ≤ i
  · have h1 : decide (i ≥ 0) = true := by simpa using h0
    have h2 : decide (0 ≤ i) = true := by simpa using h0
    go_enter Tryz.func217, Tryz.ntmps217
    go_wp2
    go_ret
    exact ⟨by simp [h2], rfl⟩
  · have h1 : decide (i ≥ 0) = false := by simpa using h0
    have h2 : decide (0 ≤ i) = false := by simpa using h0
    clear h0
    go_enter Tryz.func217, Tryz.ntmps217
    go_wp2
    go_ret
    exact ⟨by simp [h2], rfl⟩
theorem rpow10_any (n : Nat) (hn : n ≤ 63) (w : World) : Calls Tryz.prog 218 #[.int .i64 (n : Int)] w fun e w' => e = .returned (.int .u64 (pow2 n : Nat)) ∧ w = w' := by
  go_enter Tryz.func218, Tryz.ntmps218
  go_wp2
  go_loop [3, 4] (fun s3 s4 => ∃ k : Nat, k ≤ n ∧ s4 = .int .i64 k ∧ ∃ x : Nat, s3 = .int .u64 x ∧ Hid (x = pow2 k)) (fun _ s4 => n - (intOf s4).toNat)
  case atStart => exact ⟨0, Nat.zero_le _, by go_num, 1, by go_num, hide rfl⟩
  case round =>
    obtain ⟨k, hk, rfl, x, rfl, hx⟩ := hrel
    have hk1 : (0 : Int) ≤ (k : Int) := Int.natCast_nonneg _
    by_cases hlt : k < n
    · have hx2 : x ≤ 9223372036854775807 := by
        rw [hx.out]
        unfold pow2
        have := Nat.pow_lt_pow_right (a := 2) (by decide) (show k < 63 by omega)
        have h63 : (2 : Nat) ^ 63 = 9223372036854775808 := by decide
        omega
      have hxs : Hid (x + x = pow2 (k + 1)) := hide (by rw [hx.out]; unfold pow2; rw [Nat.pow_succ]; omega)
      replace hx := hide hx
      have hwr : IntKind.u64.wrap ((x : Int) + (x : Int)) = ((x + x : Nat) : Int) := by rw [IntKind.wrap_u64]; omega
      go_wp2
      go_round
      case rel => exact ⟨k + 1, by omega, by go_num, x + x, by go_num, hxs⟩
      case measure => simp [intOf]; omega
    · obtain rfl : k = n := by omega
      go_wp2
      go_ret
      exact ⟨by rw [hx.out]; rfl, rfl⟩
theorem rhas10_any (s : Nat) (hs : s < 18446744073709551616) (i : Int) (w : World) : Calls Tryz.prog 186 #[.int .u64 s, .int .i64 i] w fun e w' => e = .returned (.bool (hasB s i)) ∧ w = w' := by
  by_cases hi : 0 ≤ i ∧ i ≤ 63
  · obtain ⟨n, rfl⟩ : ∃ n : Nat, i = n := ⟨i.toNat, by omega⟩
    have hn : n ≤ 63 := by omega
    have hb : (decide ((0 : Int) ≤ (n : Int)) && decide ((n : Int) ≤ 63)) = true := by simp; omega
    have hr := hide (hasB_nat s n)
    have hq := hide (testBit_div s n)
    clear hi
    go_enter Tryz.func186, Tryz.ntmps186
    go_wp2_with fail
    refine (rin10_any (n : Int) _).mono ?_
    rw [hb]
    rintro e w1 ⟨rfl, rfl⟩
    go_wp2_with fail
    refine (rpow10_any n hn _).mono ?_
    rintro e w1 ⟨rfl, rfl⟩
    have hp : Hid (pow2 n = 2 ^ n) := hide rfl
    have hp0 : 0 < pow2 n := Nat.two_pow_pos n
    generalize pow2 n = p at *
    have hp1 : ((p : Int) == 0) = false := by rw [beq_eq_false_iff_ne]; omega
    have hw : Hid (IntKind.u64.wrap ((s : Int) / (p : Int)) = ((s / p : Nat) : Int)) := hide (by
      have h1 : s / p ≤ s := Nat.div_le_self _ _
      have e : (s : Int) / (p : Int) = ((s / p : Nat) : Int) := (Int.natCast_ediv s p).symm
      rw [e]
      generalize s / p = q at *
      rw [IntKind.wrap_u64]
      omega)
    go_wp2
    go_ret
    refine ⟨ret_bool ?_, rfl⟩
    rw [hr.out, ← hq.out, ← hp.out, hw.out]
    generalize s / p = q
    rw [Int.tmod_eq_emod_of_nonneg (Int.natCast_nonneg _), Bool.eq_iff_iff]
    simp
    omega
  · have hb : (decide (0 ≤ i) && decide (i ≤ 63)) = false := by
      rw [Bool.and_eq_false_iff]
      simp
      omega
    have hr : Hid (hasB s i = false) := hide (by
      unfold hasB
      by_cases h0 : 0 ≤ i
      · rw [Nat.testBit_lt_two_pow (Nat.lt_of_lt_of_le hs (by
          have : (2 : Nat) ^ 64 ≤ 2 ^ i.toNat := Nat.pow_le_pow_right (by decide) (by omega)
          omega))]
        simp
      · simp [h0])
    clear hi
    go_enter Tryz.func186, Tryz.ntmps186
    go_wp2_with fail
    refine (rin10_any i _).mono ?_
    rw [hb]
    rintro e w1 ⟨rfl, rfl⟩
    go_wp2
    go_ret
    exact ⟨by rw [hr.out]; rfl, rfl⟩
theorem rwith10_any (s : Nat) (hs : s < 18446744073709551616) (i : Int) (w : World) : Calls Tryz.prog 181 #[.int .u64 s, .int .i64 i] w fun e w' => e = .returned (.int .u64 (withB s i : Nat)) ∧ w = w' := by
  cases hh : hasB s i with
  | true =>
    have hr : Hid (withB s i = s) := hide (by
      unfold hasB at hh
      rw [Bool.and_eq_true, decide_eq_true_eq] at hh
      unfold withB bitN
      by_cases h : i < 64
      · rw [if_pos ⟨hh.1, h⟩]
        refine Nat.eq_of_testBit_eq fun j => ?_
        rw [Nat.testBit_or, Nat.testBit_two_pow]
        by_cases e : i.toNat = j
        · subst e; simp [hh.2]
        · simp [e]
      · rw [if_neg (by omega), Nat.or_zero])
    have hc := hide (rhas10_any s hs i)
    rw [hh] at hc
    replace hh := hide hh
    go_enter Tryz.func181, Tryz.ntmps181
    go_wp2_with fail
    refine (hc.out _).mono ?_
    rintro e w1 ⟨rfl, rfl⟩
    go_wp2
    go_ret
    exact ⟨by rw [hr.out]; rfl, rfl⟩
  | false =>
    have hc := hide (rhas10_any s hs i)
    rw [hh] at hc
    by_cases hi : 0 ≤ i ∧ i ≤ 63
    · obtain ⟨n, rfl⟩ : ∃ n : Nat, i = n := ⟨i.toNat, by omega⟩
      have hn : n ≤ 63 := by omega
      have hb : (decide ((0 : Int) ≤ (n : Int)) && decide ((n : Int) ≤ 63)) = true := by simp; omega
      have hbit : s.testBit n = false := by rw [← hasB_nat]; exact hh
      have hadd := with_add hs hn hbit
      have hr : Hid (withB s (n : Int) = s + pow2 n) := hide (by unfold withB; rw [bitN_in (by omega) (by omega), Int.toNat_natCast, ← hadd]; rfl)
      have hlt : s + pow2 n < 18446744073709551616 := by rw [← hr.out]; exact withB_lt hs _
      replace hadd := hide hadd
      clear hi hh hbit
      go_enter Tryz.func181, Tryz.ntmps181
      go_wp2_with fail
      refine (hc.out _).mono ?_
      rintro e w1 ⟨rfl, rfl⟩
      go_wp2_with fail
      refine (rin10_any (n : Int) _).mono ?_
      rw [hb]
      rintro e w1 ⟨rfl, rfl⟩
      go_wp2_with fail
      refine (rpow10_any n hn _).mono ?_
      rintro e w1 ⟨rfl, rfl⟩
      generalize pow2 n = p at *
      have hw : IntKind.u64.wrap ((s : Int) + (p : Int)) = ((s + p : Nat) : Int) := by rw [IntKind.wrap_u64]; omega
      go_wp2
      go_ret
      exact ⟨by rw [hr.out]; first | rfl | simp, rfl⟩
    · have hb : (decide (0 ≤ i) && decide (i ≤ 63)) = false := by
        rw [Bool.and_eq_false_iff]
        simp
        omega
      have hr : Hid (withB s i = s) := hide (by unfold withB bitN; rw [if_neg (by omega), Nat.or_zero])
      clear hi hh
      go_enter Tryz.func181, Tryz.ntmps181
      go_wp2_with fail
      refine (hc.out _).mono ?_
      rintro e w1 ⟨rfl, rfl⟩
      go_wp2_with fail
      refine (rin10_any i _).mono ?_
      rw [hb]
      rintro e w1 ⟨rfl, rfl⟩
      go_wp2
      go_ret
      exact ⟨by rw [hr.out]; rfl, rfl⟩
end Go.Proofs.YtjomijnbnbideaaGreatDoor

namespace Go.Proofs.YtjomijnbnbideaaGreatDoor
open Go.RowKit Go.Inq
set_option maxHeartbeats 1000000

theorem own_base' {w : World} {base base' : Nat} {e : TypeId} {size n : Nat} {v : Value} {xs : List Value} (h : w.ownsRow base e size v n xs) (hb : base' ≤ base) : w.ownsRow base' e size v n xs := by
  refine ⟨h.1, ?_⟩
  rcases h.2 with h2 | ⟨g, cap, cur, hv, hg, r⟩
  · exact .inl h2
  · exact .inr ⟨g, cap, cur, hv, Nat.le_trans hb hg, r⟩
end Go.Proofs.YtjomijnbnbideaaGreatDoor

namespace Go.Proofs.YtjomijnbnbideaaGreatDoor
open Go.RowKit Go.Inq
set_option maxHeartbeats 4000000
attribute [local go_sem ↓] Go.wp_at_zero Go.wp_at_succ

/-- A row of sets that grows. -/
def OwnU (w : World) (base : Nat) (v : Value) (l : List Nat) : Prop := w.ownsRow base 145 1 v l.length (l.map encU).flatten
theorem encU_one12 (x : Nat) : ∀ u ∈ encU x, u.oneCell' = true := by intro u hu; simp [encU] at hu; subst hu; rfl
theorem OwnU.form {w : World} {base : Nat} {v : Value} {l : List Nat} (h : OwnU w base v l) : ∃ A c, v = .slice A l.length c := own_slice h
/-- A reference's graph: rows of the call's own, with room perhaps. -/
def RG (W : World) (base n : Nat) (E : Edges) (v : Value) : Prop :=
  (n = 0 ∧ v = .slice none 0 0) ∨ ∃ g cap cur, v = .slice (some ⟨g, 0, none⟩) n cap ∧ base ≤ g ∧ Blk W g 145 cur ∧ n ≤ cap ∧ cap ≤ maxLen ∧ cur.size = cap ∧ ∀ i, i < n → cur[i]? = some (.int .u64 (setB (E i) n : Nat))
theorem RG.of_own {W : World} {base n : Nat} {E : Edges} {v : Value} (h : OwnU W base v (rowsG n E)) : RG W base n E v := by
  obtain ⟨h1, h2⟩ := h
  rw [rowsG_length] at h2
  rcases h2 with ⟨h3, h4⟩ | ⟨g, cap, cur, h3, h4, h5, h6, h7, h8, h9⟩
  · exact .inl ⟨h4, h3⟩
  · refine .inr ⟨g, cap, cur, h3, h4, h5, h6, h7, by rw [h8]; simp, fun i hi => ?_⟩
    have h10 : (cur.toList.take (n * 1))[i]? = some (.int .u64 (setB (E i) n : Nat)) := by
      rw [h9]
      have : ∀ l : List Nat, (l.map encU).flatten = l.map fun x : Nat => Value.int .u64 x := fun l => by
        induction l with
        | nil => rfl
        | cons a l ih => simp [encU] at ih ⊢; exact ih
      rw [this, List.getElem?_map, List.getElem?_eq_getElem (by rw [rowsG_length]; exact hi), rowsG_at hi]
      rfl
    rw [List.getElem?_take] at h10
    split at h10
    · simpa using h10
    · cases h10
theorem rowsG_no (n : Nat) : rowsG n noE = List.replicate n 0 := by
  unfold rowsG
  rw [List.eq_replicate_iff]
  refine ⟨by simp, fun x hx => ?_⟩
  obtain ⟨a, _, rfl⟩ := List.mem_map.1 hx
  refine Nat.eq_of_testBit_eq fun j => ?_
  rw [testBit_setB]
  simp [noE]
/-- What New tells: a graph with no edge, in memory of its own. -/
def OutR (w : World) (n : Nat) (E : Edges) (e : Ending) (w' : World) : Prop := ∃ v, e = .returned (.agg #[.int .i64 n, v]) ∧ RG w' w.heap.size n E v ∧ Below w.heap.size w w'
set_option maxRecDepth 100000 in
theorem rnew12_any (n : Nat) (hn : n ≤ 64) (w : World) : Calls Tryz.prog 180 #[.int .i64 (n : Int)] w (OutR w n noE) := by
  obtain ⟨iu, hiu, hi1, hi2, hi3⟩ := info_parts infoU12
  go_enter Tryz.func180, Tryz.ntmps180
  go_upto_region 2 with fail
  obtain ⟨W0, hW0⟩ : ∃ W0, (w.alloc (.cells #[.int .i64 0, .slice none 0 0] 124)).alloc (.cells #[.int .i64 n, .slice none 0 0] 124) = W0 := ⟨_, rfl⟩
  have hb := below_two hW0
  have k1 := Blk.two1 hW0
  have k2 := Blk.two2 hW0
  have s0 := size_two hW0
  rw [hW0]
  clear hW0
  replace s0 := hide s0
  go_wp2_with fail
  go_loopw [4] (fun s4 wr => ∃ k : Nat, k ≤ n ∧ s4 = .int .i64 k ∧ ∃ v, Blk wr w.heap.size 124 #[.int .i64 0, .slice none 0 0] ∧ Blk wr (w.heap.size + 1) 124 #[.int .i64 n, v] ∧ OwnU wr (w.heap.size + 2) v (List.replicate k 0) ∧ Below w.heap.size w wr) (fun s4 _ => n - (intOf s4).toNat)
  case atStart => exact ⟨0, Nat.zero_le _, by go_num, _, k1, k2, World.ownsRow_nil _ _ _ _, hb⟩
  case round =>
    obtain ⟨k, hk, rfl, v, m1, m2, hown, hbr⟩ := hrel
    obtain ⟨Wr, rfl⟩ : ∃ Wr, Wr = wr := ⟨_, rfl⟩
    have hk1 : (0 : Int) ≤ (k : Int) := Int.natCast_nonneg _
    obtain ⟨A, c, rfl⟩ := OwnU.form hown
    have c0 := m2.cell 0
    have c1 := m2.cell 1
    have f1 := m2.frozen 1
    have m2l := m2.lt
    simp only [List.getElem?_toArray, List.getElem?_cons_zero, List.getElem?_cons_succ] at c0 c1
    by_cases hlt : k < n
    · have hki : (k : Int) < (n : Int) := by omega
      have hll : (List.replicate k 0).length = k := List.length_replicate
      have hkD : (List.replicate k (0 : Nat)).length + 1 ≤ maxLen := by unfold maxLen; simp; omega
      have hkb : ((List.replicate k (0 : Nat)).length + 1) * 8 ≤ 140737488355328 := by simp; omega
      have hsn : Hid (List.replicate k (0 : Nat) ++ [0] = List.replicate (k + 1) 0) := hide (by rw [List.replicate_succ'])
      clear hll
      generalize List.replicate k (0 : Nat) = D at *
      have hsz : w.heap.size + 2 ≤ Wr.heap.size := by omega
      have hfar : ∀ g, (Value.slice A D.length c).ownBlock = some g → w.heap.size + 2 ≤ g := fun g hg => (hown.lt g hg).1
      replace hown := hide hown
      replace hfar := hide hfar
      go_upto_region 5 with fail
      go_wp2_with (at_builtin; go_loud (refine wpList_push (enc := encU) rfl (.tmp 13) (.tmp 14) 54 rfl (w.heap.size + 2) 145 iu _ 1 8 Tryz.underlying54 hiu hi1 hi2 hi3 rfl (by decide) (.slice A D.length c) D rfl hown.out (fun _ => rfl) 0 _ rfl rfl encU_one12 hkD hkb hsz w w.heap.size (by omega) hbr ?_); intro v1 w6 hown1 hg1 hb1 hat1; have j1 := (m1.alloc (.cells #[.int .u64 0] 145)).grown hg1 (fun e => by have := hfar.out _ e.symm; omega); have j2 := (m2.alloc (.cells #[.int .u64 0] 145)).grown hg1 (fun e => by have := hfar.out _ e.symm; omega); have d1 := j2.cell 1; have g1 := j2.frozen 1; simp only [List.getElem?_toArray, List.getElem?_cons_zero, List.getElem?_cons_succ] at d1; obtain ⟨A6, c6, rfl⟩ := OwnU.form hown1)
      go_roundw
      case rel =>
        refine ⟨k + 1, by omega, by go_num, .slice A6 (D ++ [0]).length c6, j1.far (p := ⟨w.heap.size + 1, 1, none⟩) (show w.heap.size ≠ w.heap.size + 1 by omega) _, ?_, ?_, hb1.setCell (p := ⟨w.heap.size + 1, 1, none⟩) (by simp) _⟩
        · have := j2.set_ 1 (.slice A6 (D ++ [0]).length c6)
          simpa using this
        · rw [← hsn.out]
          exact own_setCell hown1 (p := ⟨w.heap.size + 1, 1, none⟩) (fun e => by have h := (World.ownsRow.lt hown1 (w.heap.size + 1) e).1; omega) _
      case measure => simp [intOf]; omega
    · obtain rfl : k = n := by omega
      have d0 := m1.cell 0
      have d1 := m1.cell 1
      have g0 := m1.frozen 0
      have g1 := m1.frozen 1
      simp only [List.getElem?_toArray, List.getElem?_cons_zero, List.getElem?_cons_succ] at d0 d1
      rw [List.length_replicate] at hown
      have hlr : (List.replicate k (0 : Nat)).length = k := List.length_replicate
      have hq := (m1.set_ 0 (.int .i64 k)).set_ 1 (.slice A k c)
      simp only [List.setIfInBounds_toArray, List.set_cons_zero, List.set_cons_succ] at hq
      have y0 := hq.cell 0
      have y1 := hq.cell 1
      simp only [List.getElem?_toArray, List.getElem?_cons_zero, List.getElem?_cons_succ] at y0 y1
      have hO : Hid (OwnU Wr (w.heap.size + 2) (.slice A k c) (rowsG k noE)) := hide (by rw [rowsG_no]; exact hown)
      replace hlr := hide hlr
      go_wp2_with fail
      refine bodyPost_ret (v := .agg #[.int .i64 k, .slice A k c]) (by simp [results, Tryz.results180, go_sem, y0, y1]) rfl ⟨_, rfl, RG.of_own ?_, (hbr.setCell (p := ⟨w.heap.size, 0, none⟩) (by simp) _).setCell (p := ⟨w.heap.size, 1, none⟩) (by simp) _⟩
      have h1 := own_setCell (own_setCell hO.out (p := ⟨w.heap.size, 0, none⟩) (fun e => by have h := (hO.out.lt _ e).1; dsimp only at h; omega) (.int .i64 k)) (p := ⟨w.heap.size, 1, none⟩) (fun e => by have h := (hO.out.lt _ e).1; dsimp only at h; omega) (.slice A k c)
      exact own_base' h1 (by omega)
theorem hasB_setB {p : Nat → Bool} {n b : Nat} (hb : b < n) : hasB (setB p n) (b : Int) = p b := by
  rw [hasB_nat, testBit_setB]; simp [hb]
theorem RG.gr {W : World} {base n : Nat} {E : Edges} {v : Value} (h : RG W base n E v) (hn : n ≤ 64) {K : Nat → Prop} (hK : ∀ g, base ≤ g → g < W.heap.size → K g) : ∃ A c, v = .slice A n c ∧ GrS W K n A c E := by
  rcases h with ⟨h1, rfl⟩ | ⟨g, cap, cur, rfl, h2, h3, h4, h5, h6, h7⟩
  · subst h1
    exact ⟨none, 0, rfl, GrS.zero _ _ _ _ _⟩
  · refine ⟨_, cap, rfl, ⟨?_, hn⟩⟩
    refine ⟨some ⟨g, 0, none⟩, cap, (rowsG n E).map encU, by rw [rowsG_length], by rw [rowsG_length]; exact h4, by simp, fun i cs x g1 g2 => ?_, fun _ => ⟨g, 0, rfl, hK g h2 h3.lt, fun i j cs u g1 g2 => ?_⟩⟩
    · rw [List.getElem?_map, g2] at g1
      injection g1 with g1
      exact ⟨by rw [← g1]; rfl, g1.symm⟩
    · rw [List.getElem?_map] at g1
      cases hx : (rowsG n E)[i]? with
      | none => rw [hx] at g1; cases g1
      | some x =>
        rw [hx] at g1
        injection g1 with g1
        subst g1
        obtain ⟨hi, he⟩ := List.getElem?_eq_some_iff.1 hx
        have hi' : i < n := by rw [rowsG_length] at hi; exact hi
        rw [rowsG_at hi'] at he
        cases j with
        | succ j => simp [encU] at g2
        | zero =>
          simp [encU] at g2
          subst g2
          have := (h3.cell i).trans (h7 i hi')
          rw [he] at this
          simpa using this
/-- One more edge, by a store. -/
theorem RG.add {W : World} {base n : Nat} {E : Edges} {g cap : Nat} (h : RG W base n E (.slice (some ⟨g, 0, none⟩) n cap)) {x y : Nat} (hx : x < n) (hy : y < n) (hn : n ≤ 64) :
    RG (W.setCell ⟨g, x, none⟩ (.int .u64 (withB (setB (E x) n) (y : Int) : Nat))) base n (orE E (oneE x y)) (.slice (some ⟨g, 0, none⟩) n cap) := by
  rcases h with ⟨h1, h2⟩ | ⟨g', cap', cur, h1, h2, h3, h4, h5, h6, h7⟩
  · cases h2
  · simp only [Value.slice.injEq, Option.some.injEq, Addr.mk.injEq, and_true, true_and] at h1
    obtain ⟨rfl, rfl⟩ := h1
    refine .inr ⟨g, cap, _, rfl, h2, h3.set_ x _, h4, h5, by simp [h6], fun i hi => ?_⟩
    rw [setB_with hy hn]
    by_cases e : i = x
    · subst e
      rw [Array.getElem?_setIfInBounds_self_of_lt (by omega)]
      congr 3
      refine setB_congr fun b hb => ?_
      simp [orE, oneE]
    · rw [Array.getElem?_setIfInBounds_ne (by omega), h7 i hi]
      congr 3
      refine setB_congr fun b hb => ?_
      simp [orE, oneE, e]
set_option maxRecDepth 100000 in
theorem rhas12_any (n : Nat) (A : Option Addr) (c : Nat) (E : Edges) (a b : Nat) (K : Nat → Prop) (w : World) (h : GrS w K n A c E) (hK : ∀ b, K b → b < w.heap.size) (ha : a < n) (hb : b < n) :
    Calls Tryz.prog 130 #[.agg #[.int .i64 n, .slice A n c], .int .i64 (a : Int), .int .i64 (b : Int)] w fun e w' => e = .returned (.bool (E a b)) ∧ Below w.heap.size w w' := by
  have hn64 := h.n64
  obtain ⟨g, off, rfl, hg, hc⟩ := h.at_ ha
  have hgl := hK _ hg
  have hB : Below w.heap.size w (w.alloc (.cells #[.int .i64 n, .slice (some ⟨g, off, none⟩) n c] 124)) := (Below.refl _ _).alloc (Nat.le_refl _) _
  have hc2 := (hB.cell (p := ⟨g, off + a, none⟩) hgl).trans hc
  have hai : (a : Int) < (n : Int) := by omega
  have ha0 : (0 : Int) ≤ (a : Int) := Int.natCast_nonneg _
  have hr := hide (hasB_setB (p := E a) hb)
  have hs := setB_64 (p := E a) hn64
  generalize setB (E a) n = x at *
  clear h
  replace hB := hide hB
  go_enter Tryz.func130, Tryz.ntmps130
  go_wp2_with fail
  refine (rhas10_any x hs (b : Int) _).mono ?_
  rw [hr.out]
  rintro e w1 ⟨rfl, rfl⟩
  go_wp2
  go_ret
  exact ⟨rfl, hB.out⟩
end Go.Proofs.YtjomijnbnbideaaGreatDoor

namespace Go.Proofs.YtjomijnbnbideaaGreatDoor
open Go.RowKit Go.Inq
set_option maxHeartbeats 4000000
attribute [local go_sem ↓] Go.wp_at_zero Go.wp_at_succ

theorem hasB_beyond {p : Nat → Bool} {n b : Nat} (hb : n ≤ b) : hasB (setB p n) (b : Int) = false := by
  rw [hasB_nat, testBit_setB]; simp; omega
set_option maxRecDepth 100000 in
theorem rright12_any (n : Nat) (A : Option Addr) (c : Nat) (E : Edges) (K : Nat → Prop) (w : World) (h : GrS w K n A c E) (hK : ∀ b, K b → b < w.heap.size) :
    Calls Tryz.prog 128 #[.agg #[.int .i64 n, .slice A n c]] w fun e w' => e = .returned (.bool true) ∧ Below w.heap.size w w' := by
  have hn64 := h.n64
  have hB : Below w.heap.size w (w.alloc (.cells #[.int .i64 n, .slice A n c] 124)) := (Below.refl _ _).alloc (Nat.le_refl _) _
  have kG := Blk.new w 124 #[.int .i64 n, .slice A n c]
  have hg := hide (h.keep (Agree.below hB hK) (fun b hb => hb))
  have h0 : decide ((n : Int) < 0) = false := by simp
  have h1 : decide ((n : Int) > 64) = false := by simp; omega
  clear h
  go_enter Tryz.func128, Tryz.ntmps128
  go_upto_region 1 with fail
  generalize w.alloc (.cells #[.int .i64 n, .slice A n c] 124) = W at *
  have c0 := kG.cell 0
  have c1 := kG.cell 1
  simp only [List.getElem?_toArray, List.getElem?_cons_zero, List.getElem?_cons_succ] at c0 c1
  replace hB := hide hB
  clear kG
  go_wp2_with fail
  go_loop [3] (fun s3 => ∃ i : Nat, i ≤ n ∧ s3 = .int .i64 i) (fun s3 => n - (intOf s3).toNat)
  case atStart => exact ⟨0, Nat.zero_le _, by go_num⟩
  case round =>
    obtain ⟨i, hi, rfl⟩ := hrel
    have hi1 : (0 : Int) ≤ (i : Int) := Int.natCast_nonneg _
    by_cases hlt : i < n
    · have hi2 : (i : Int) < (n : Int) := by omega
      obtain ⟨g, off, rfl, hgk, hc⟩ := hg.out.at_ hlt
      have hs := setB_64 (p := E i) hn64
      have hbe := hide (fun b hb => hasB_beyond (p := E i) (n := n) (b := b) hb)
      generalize setB (E i) n = x at *
      go_wp2_with fail
      go_loop [4] (fun s4 => ∃ k : Nat, n ≤ k ∧ k ≤ 64 ∧ s4 = .int .i64 k) (fun s4 => 64 - (intOf s4).toNat)
      case atStart => exact ⟨n, Nat.le_refl _, hn64, rfl⟩
      case round =>
        obtain ⟨k, hk, hk64, rfl⟩ := hrel
        have hk1 : (0 : Int) ≤ (k : Int) := Int.natCast_nonneg _
        by_cases hkl : k < 64
        · have hk2 : decide ((k : Int) < 64) = true := by simp; omega
          have hf := hide (hbe.out k hk)
          go_wp2_with fail
          refine (rhas10_any x hs (k : Int) _).mono ?_
          rw [hf.out]
          rintro e w1 ⟨rfl, rfl⟩
          go_wp2
          go_round
          case rel => exact ⟨k + 1, by omega, by omega, by go_num⟩
          case measure => simp [intOf]; omega
        · have hk2 : decide ((k : Int) < 64) = false := by simp; omega
          go_wp2
          go_round
          case rel => exact ⟨i + 1, by omega, by go_num⟩
          case measure => simp [intOf]; omega
    · obtain rfl : i = n := by omega
      go_wp2
      go_ret
      exact ⟨rfl, hB.out⟩
end Go.Proofs.YtjomijnbnbideaaGreatDoor

namespace Go.Proofs.YtjomijnbnbideaaGreatDoor
open Go.RowKit Go.Inq

theorem below_drew {B : Nat} {w w1 : World} (h : Below B w w1) : Below B w w1.drew := h.trans ⟨rfl, rfl, rfl, Nat.le_refl _, fun _ _ => rfl⟩
theorem RG.keep {W W' : World} {B n : Nat} {E : Edges} {v : Value} (h : RG W B n E v) (hk : ∀ g, B ≤ g → g < W.heap.size → W'.heap[g]? = W.heap[g]?) : RG W' B n E v := by
  rcases h with h | ⟨g, cap, cur, h1, h2, h3, r⟩
  · exact .inl h
  · exact .inr ⟨g, cap, cur, h1, h2, (hk g h2 h3.lt).trans h3, r⟩
theorem RG.below {W W' : World} {B B' n : Nat} {E : Edges} {v : Value} (h : RG W B n E v) (hb : Below B' W W') (hB : W.heap.size ≤ B') : RG W' B n E v := h.keep fun g _ hg => hb.block g (by omega)
theorem RG.alloc {W : World} {B n : Nat} {E : Edges} {v : Value} (h : RG W B n E v) (o : Obj) : RG (W.alloc o) B n E v := h.keep fun g _ hg => Below.heap_alloc W o g hg
theorem RG.far {W : World} {B n : Nat} {E : Edges} {v : Value} (h : RG W B n E v) {p : Addr} (hp : p.block < B) (u : Value) : RG (W.setCell p u) B n E v := h.keep fun g hg _ => Below.heap_setCell W p u g (by omega)
theorem RG.drew {W : World} {B n : Nat} {E : Edges} {v : Value} (h : RG W B n E v) : RG W.drew B n E v := h.keep fun _ _ _ => rfl
theorem RG.base {W : World} {B B' n : Nat} {E : Edges} {v : Value} (h : RG W B n E v) (hB : B' ≤ B) : RG W B' n E v := by
  rcases h with h | ⟨g, cap, cur, h1, h2, r⟩
  · exact .inl h
  · exact .inr ⟨g, cap, cur, h1, by omega, r⟩
theorem RG.congr {W : World} {base n : Nat} {E F : Edges} {v : Value} (h : RG W base n E v) (hE : ∀ a b, a < n → b < n → E a b = F a b) : RG W base n F v := by
  rcases h with h | ⟨g, cap, cur, h1, h2, h3, h4, h5, h6, h7⟩
  · exact .inl h
  · exact .inr ⟨g, cap, cur, h1, h2, h3, h4, h5, h6, fun i hi => by rw [h7 i hi]; congr 3; exact setB_congr fun b hb => hE i b hi hb⟩

/-- A variable p that holds a graph: its rows are the call's own, from B on, and made ahead of p. -/
structure RGP (W : World) (B p n : Nat) (E : Edges) (A : Option Addr) (c : Nat) : Prop where
  box : Blk W p 124 #[.int .i64 n, .slice A n c]
  rg : RG W B n E (.slice A n c)
  lt : ∀ g, A = some g → g.block < p
  n64 : n ≤ 64
section
variable {W W' : World} {B p n : Nat} {E F : Edges} {A : Option Addr} {c : Nat}
theorem RGP.plt (h : RGP W B p n E A c) : p < W.heap.size := h.box.lt
theorem RGP.c0 (h : RGP W B p n E A c) : W.cell? ⟨p, 0, none⟩ = some (.int .i64 n) := by simpa using h.box.cell 0
theorem RGP.c1 (h : RGP W B p n E A c) : W.cell? ⟨p, 1, none⟩ = some (.slice A n c) := by simpa using h.box.cell 1
theorem RGP.below (h : RGP W B p n E A c) {B' : Nat} (hb : Below B' W W') (hB : W.heap.size ≤ B') : RGP W' B p n E A c :=
  ⟨h.box.below hb (Nat.lt_of_lt_of_le h.plt hB), h.rg.below hb hB, h.lt, h.n64⟩
theorem RGP.alloc (h : RGP W B p n E A c) (o : Obj) : RGP (W.alloc o) B p n E A c := ⟨h.box.alloc o, h.rg.alloc o, h.lt, h.n64⟩
theorem RGP.drew (h : RGP W B p n E A c) : RGP W.drew B p n E A c := ⟨h.box.drew, h.rg.drew, h.lt, h.n64⟩
theorem RGP.drewN (h : RGP W B p n E A c) (k : Nat) : RGP (W.drewN k) B p n E A c := ⟨h.box.drewN k, h.rg.keep fun _ _ _ => rfl, h.lt, h.n64⟩
theorem RGP.congr (h : RGP W B p n E A c) (hE : ∀ a b, a < n → b < n → E a b = F a b) : RGP W B p n F A c := ⟨h.box, h.rg.congr hE, h.lt, h.n64⟩
/-- Rows, of a graph with nodes. -/
structure RGX (W : World) (B p n x : Nat) (E : Edges) (g c : Nat) : Prop where
  box : RGP W B p n E (some ⟨g, 0, none⟩) c
  c0 : W.cell? ⟨p, 0, none⟩ = some (.int .i64 n)
  c1 : W.cell? ⟨p, 1, none⟩ = some (.slice (some ⟨g, 0, none⟩) n c)
  at_ : W.cell? ⟨g, x, none⟩ = some (.int .u64 (setB (E x) n : Nat))
  fr : W.frozen? ⟨g, x, none⟩ = false
  gp : g < p
  gl : g < W.heap.size
  B : B ≤ g
  h64 : setB (E x) n < 18446744073709551616
theorem RGP.at_ (h : RGP W B p n E A c) {x : Nat} (hx : x < n) : ∃ g, A = some ⟨g, 0, none⟩ ∧ RGX W B p n x E g c := by
  rcases h.rg with ⟨h1, _⟩ | ⟨g, cap, cur, h1, h2, h3, h4, h5, h6, h7⟩
  · omega
  · simp only [Value.slice.injEq, true_and] at h1
    obtain ⟨rfl, rfl⟩ := h1
    exact ⟨g, rfl, h, h.c0, h.c1, (h3.cell x).trans (h7 x hx), h3.frozen x, h.lt _ rfl, h3.lt, h2, setB_64 h.n64⟩
theorem RGX.add {x : Nat} {g : Nat} (h : RGX W B p n x E g c) {y : Nat} (hx : x < n) (hy : y < n) :
    RGP (W.setCell ⟨g, x, none⟩ (.int .u64 (withB (setB (E x) n) (y : Int) : Nat))) B p n (orE E (oneE x y)) (some ⟨g, 0, none⟩) c :=
  ⟨h.box.box.far (p := ⟨g, x, none⟩) (Nat.ne_of_gt h.gp) _, h.box.rg.add hx hy h.box.n64, h.box.lt, h.box.n64⟩
end
/-- The edges of rows ahead of x, and of row x ahead of y. -/
def uptoE (E : Edges) (x y : Nat) : Edges := fun a b => E a b && (decide (a < x) || (decide (a = x) && decide (b < y)))
theorem uptoE_zero (E : Edges) : uptoE E 0 0 = noE := by
  funext a b; simp [uptoE, noE]
theorem uptoE_step {E : Edges} {x y : Nat} (h : E x y = true) : uptoE E x (y + 1) = orE (uptoE E x y) (oneE x y) := by
  funext a b
  unfold uptoE orE oneE
  rw [Bool.eq_iff_iff]
  simp
  constructor
  · rintro ⟨h1, h2 | ⟨h2, h3⟩⟩
    · exact .inl ⟨h1, .inl h2⟩
    · rcases Nat.lt_or_ge b y with g | g
      · exact .inl ⟨h1, .inr ⟨h2, g⟩⟩
      · exact .inr ⟨h2, by omega⟩
  · rintro (⟨h1, h2 | ⟨h2, h3⟩⟩ | ⟨rfl, rfl⟩)
    · exact ⟨h1, .inl h2⟩
    · exact ⟨h1, .inr ⟨h2, by omega⟩⟩
    · exact ⟨h, .inr ⟨rfl, by omega⟩⟩
theorem uptoE_skip {E : Edges} {x y : Nat} (h : E x y = false) : uptoE E x (y + 1) = uptoE E x y := by
  funext a b
  unfold uptoE
  rw [Bool.eq_iff_iff]
  simp
  intro h1
  constructor
  · rintro (h2 | ⟨rfl, h3⟩)
    · exact .inl h2
    · rcases Nat.lt_or_ge b y with g | g
      · exact .inr ⟨rfl, g⟩
      · obtain rfl : b = y := by omega
        rw [h] at h1; cases h1
  · rintro (h2 | ⟨rfl, h3⟩)
    · exact .inl h2
    · exact .inr ⟨rfl, by omega⟩
theorem uptoE_row {E : Edges} {x n a b : Nat} (hb : b < n) : uptoE E x n a b = uptoE E (x + 1) 0 a b := by
  unfold uptoE
  rw [Bool.eq_iff_iff]
  simp
  intro _
  omega
theorem uptoE_all {E : Edges} {n a b : Nat} (ha : a < n) : uptoE E n 0 a b = E a b := by
  unfold uptoE; simp [ha]
end Go.Proofs.YtjomijnbnbideaaGreatDoor

namespace Go.Inq
open Go Go.RowKit

/-- Blocks of some types from base on. -/
def TyK (base : Nat) (τs : List TypeId) (w : World) : Nat → Prop := fun b => base ≤ b ∧ ∃ t, t ∈ τs ∧ ∃ cs, Blk w b t cs
section
variable {base : Nat} {τs : List TypeId} {w w' w1 w2 : World}
theorem TyK.lt {b : Nat} (h : TyK base τs w b) : b < w.heap.size := by
  obtain ⟨_, t, _, cs, h⟩ := h
  exact h.lt
theorem TyK.ge {b : Nat} (h : TyK base τs w b) : base ≤ b := h.1
theorem TyK.step (ha : Agree (TyK base τs w) w w') {b : Nat} (h : TyK base τs w b) : TyK base τs w' b := by
  obtain ⟨h1, t, h2, cs, h3⟩ := h
  exact ⟨h1, t, h2, cs, (ha b ⟨h1, t, h2, cs, h3⟩).trans h3⟩
theorem TyK.trans (ha : Agree (TyK base τs w) w w1) (hb : Agree (TyK base τs w1) w1 w2) : Agree (TyK base τs w) w w2 := fun b h => (hb b (TyK.step ha h)).trans (ha b h)
theorem TyK.below {B : Nat} (hb : Below B w w') (hB : w.heap.size ≤ B) : Agree (TyK base τs w) w w' := Agree.below hb fun _ h => Nat.lt_of_lt_of_le h.lt hB
theorem TyK.alloc (o : Obj) : Agree (TyK base τs w) w (w.alloc o) := Agree.alloc (fun _ h => h.lt) o
theorem TyK.off {g : Nat} {t : TypeId} {cs : Array Value} (hk : Blk w g t cs) (ht : t ∉ τs) : ¬ TyK base τs w g := fun h => by
  obtain ⟨_, t', h1, cs', h2⟩ := h
  have := hk.symm.trans h2
  simp at this
  exact ht (this.2 ▸ h1)
theorem TyK.set_ {g i : Nat} {t : TypeId} {cs : Array Value} (hk : Blk w g t cs) (ht : t ∉ τs) (u : Value) : Agree (TyK base τs w) w (w.setCell ⟨g, i, none⟩ u) :=
  Agree.setCell ⟨g, i, none⟩ (TyK.off hk ht) u
theorem TyK.drew : Agree (TyK base τs w) w w.drew := Agree.drew _ _
end
section
variable {α : Type} {size : Nat} {R : World → (Nat → Prop) → List Value → α → Prop} {w w' : World} {K K' : Nat → Prop} {base : Nat} {e : TypeId} {v : Value} {l : List α} {τs : List TypeId}
theorem own_blk {n : Nat} {xs : List Value} (h : w.ownsRow base e size v n xs) {g : Nat} (hg : v.ownBlock = some g) : ∃ cs, Blk w g e cs := by
  rcases h.2 with ⟨h2, _⟩ | ⟨g', cap, cur, h2, _, hh, _⟩
  · rw [h2] at hg; simp [Value.ownBlock] at hg
  · rw [h2] at hg
    simp [Value.ownBlock] at hg
    subst hg
    exact ⟨cur, hh⟩
theorem OwnR.blk (h : OwnR size R w K base e v l) {g : Nat} (hg : v.ownBlock = some g) : ∃ cs, Blk w g e cs := by
  obtain ⟨ys, h1, _⟩ := h
  exact own_blk h1 hg
theorem OwnR.ne (h : OwnR size R w K base e v l) {g : Nat} {t : TypeId} {cs : Array Value} (hk : Blk w g t cs) (ht : t ≠ e) : v.ownBlock ≠ some g := fun hg => by
  obtain ⟨cs', h4⟩ := h.blk hg
  have := hk.symm.trans h4
  simp at this
  exact ht this.2
/-- What holds the same below, and in blocks of those types, keeps it. -/
theorem OwnR.keepT (hR : Stab R) (h : OwnR size R w (TyK base τs w) base e v l) (ha : Agree (TyK base τs w) w w') (hr : ∀ g, v.ownBlock = some g → w'.heap[g]? = w.heap[g]?) : OwnR size R w' (TyK base τs w') base e v l :=
  OwnR.keep hR h ha (fun _ g => TyK.step ha g) hr
theorem OwnR.belowT (hR : Stab R) {B : Nat} (h : OwnR size R w (TyK base τs w) base e v l) (hb : Below B w w') (hB : w.heap.size ≤ B) : OwnR size R w' (TyK base τs w') base e v l :=
  h.keepT hR (TyK.below hb hB) fun g hg => hb.block g (Nat.lt_of_lt_of_le (h.lt g hg).2 hB)
theorem OwnR.allocT (hR : Stab R) (h : OwnR size R w (TyK base τs w) base e v l) (o : Obj) : OwnR size R (w.alloc o) (TyK base τs (w.alloc o)) base e v l := h.belowT hR ((Below.refl _ _).alloc (Nat.le_refl _) o) (Nat.le_refl _)
theorem OwnR.drewT (hR : Stab R) (h : OwnR size R w (TyK base τs w) base e v l) : OwnR size R w.drew (TyK base τs w.drew) base e v l := h.keepT hR TyK.drew fun _ _ => rfl
theorem OwnR.setT (hR : Stab R) (h : OwnR size R w (TyK base τs w) base e v l) {g i : Nat} {t : TypeId} {cs : Array Value} (hk : Blk w g t cs) (h1 : t ∉ τs) (h2 : t ≠ e) (u : Value) : OwnR size R (w.setCell ⟨g, i, none⟩ u) (TyK base τs (w.setCell ⟨g, i, none⟩ u)) base e v l :=
  h.keepT hR (TyK.set_ hk h1 u) fun k hk2 => Below.heap_setCell w ⟨g, i, none⟩ u k (fun e' => h.ne hk h2 (by rw [hk2]; exact congrArg some e'))
/-- A row of the call's own, read over all that is there. -/
theorem OwnR.slOld (hR : Stab R) (h : OwnR size R w (TyK base τs w) base e v l) : SlR size R w (Old w) v l := by
  have h2 : OwnR size R w (Old w) base e v l := OwnR.keep hR h (Agree.refl _ _) (fun _ g => g.lt) fun _ _ => rfl
  exact h2.sl fun g hg => (h.lt g hg).2
theorem own_baseT {base' n : Nat} {xs : List Value} (h : w.ownsRow base e size v n xs) (hb : base' ≤ base) : w.ownsRow base' e size v n xs := by
  refine ⟨h.1, ?_⟩
  rcases h.2 with h2 | ⟨g, cap, cur, hv, hg, r⟩
  · exact .inl h2
  · exact .inr ⟨g, cap, cur, hv, by omega, r⟩
theorem OwnR.baseT (hR : Stab R) {base' : Nat} (h : OwnR size R w (TyK base τs w) base e v l) (hb : base' ≤ base) : OwnR size R w (TyK base' τs w) base' e v l := by
  obtain ⟨ys, h1, h2, h3⟩ := h
  exact ⟨ys, own_baseT h1 hb, h2, fun i cs x e1 e2 => ⟨(h3 i cs x e1 e2).1, hR _ _ _ _ _ _ (h3 i cs x e1 e2).2 (Agree.refl _ _) fun b g => ⟨Nat.le_trans hb g.1, g.2⟩⟩⟩
/-- Read over what is new. -/
theorem OwnR.slNew (hR : Stab R) (h : OwnR size R w (TyK base τs w) base e v l) : SlR size R w (fun b => base ≤ b ∧ b < w.heap.size) v l := by
  have h2 : OwnR size R w (fun b => base ≤ b ∧ b < w.heap.size) base e v l := OwnR.keep hR h (Agree.refl _ _) (fun _ g => ⟨g.1, g.lt⟩) fun _ _ => rfl
  exact h2.sl fun g hg => h.lt g hg
/-- Read over the types' blocks, and its own. -/
theorem OwnR.slT (hR : Stab R) (h : OwnR size R w (TyK base τs w) base e v l) : SlR size R w (TyK base (e :: τs) w) v l := by
  have h2 : OwnR size R w (TyK base (e :: τs) w) base e v l := OwnR.keep hR h (Agree.refl _ _) (fun _ g => by
    obtain ⟨g1, t, g2, g3⟩ := g
    exact ⟨g1, t, List.mem_cons_of_mem _ g2, g3⟩) fun _ _ => rfl
  refine h2.sl fun g hg => ?_
  obtain ⟨cs, h3⟩ := h.blk hg
  exact ⟨(h.lt g hg).1, e, List.mem_cons_self, cs, h3⟩
end
/-- A row of elements told by their cells alone, of the call's own, over its blocks. -/
theorem own_slT {α : Type} {size : Nat} {enc : α → List Value} {w : World} {base : Nat} {e : TypeId} {v : Value} {l : List α} {τs : List TypeId} (h : w.ownsRow base e size v l.length (l.map enc).flatten) (hs : ∀ x, (enc x).length = size) (he : e ∈ τs) : SlR size (Flat enc) w (TyK base τs w) v l := by
  have h2 : OwnR size (Flat enc) w (TyK base τs w) base e v l := OwnR.flat h hs
  refine h2.sl fun g hg => ?_
  obtain ⟨cs, h3⟩ := h2.blk hg
  exact ⟨(h2.lt g hg).1, e, he, cs, h3⟩
/-- append(s, x): s a row of the call's own, x one element just built, which leads to blocks of the call's own. -/
theorem wpList_pushR {P : Program} {W : World} {ops : Array Oper} {rest : List Oper} {o : Oper} {a : Act} {Q : Exit → Act → World → Prop} {α : Type} {R : World → (Nat → Prop) → List Value → α → Prop}
    (hR : Stab R) (hone : ∀ w K cs x, R w K cs x → ∀ u ∈ cs, u.oneCell' = true)
    (hgd : o.guard = none) (s x : Operand) (t : TypeId) (ho : o.op = .call { callee := .builtin .append, args := #[s, x], argTypes := #[t, t] })
    (base : Nat) (e : TypeId) (i : TypeInfo) (z : Value) (size bytes : Nat) (ht : P.underlying t = some (.slice e)) (hi : P.info? e = some i) (hz : i.zero = some z)
    (hsize : i.size = size) (hby : i.bytes = bytes) (hzs : z.cells.size = size) (hsz : 0 < size)
    (τs : List TypeId) (hτ : e ∉ τs) (v : Value) (l : List α) (hs : a.eval s = v) (hown : OwnR size R W (TyK base τs W) base e v l)
    (cs : Array Value) (x0 : α) (hcs : cs.size = size) (hrow : R W (TyK base τs W) cs.toList x0)
    (hx : a.eval x = .slice (some ⟨W.heap.size, 0, none⟩) 1 1) (h63 : l.length + 1 ≤ maxLen) (hbytes : (l.length + 1) * bytes ≤ 140737488355328) (hbase : base ≤ W.heap.size) (w0 : World) (B : Nat) (hB : B ≤ base) (hb : Below B w0 W)
    (h : ∀ v' w', OwnR size R w' (TyK base τs w') base e v' (l ++ [x0]) → Agree (TyK base τs W) W w' → Below B w0 w' → (∀ g, v'.ownBlock = some g → v.ownBlock = some g ∨ W.heap.size ≤ g) → (∀ g t cs, Blk W g t cs → t ≠ e → Blk w' g t cs) → wpList P ops Q rest (a.put o.dst v') w') :
    wpList P ops Q (o :: rest) a (W.alloc (.cells cs e)) := by
  have hown0 := hown
  obtain ⟨ys, h1, h2, h3⟩ := hown
  have hq : ∀ y ∈ ys, y.length = size ∧ ∀ u ∈ y, u.oneCell' = true := fun y hy => by
    obtain ⟨j, hj, rfl⟩ := List.getElem_of_mem hy
    obtain ⟨g1, g2⟩ := h3 j ys[j] (l[j]'(by omega)) (List.getElem?_eq_getElem hj) (List.getElem?_eq_getElem (by omega))
    exact ⟨g1, hone _ _ _ _ g2⟩
  let enc : { y : List Value // y.length = size ∧ ∀ u ∈ y, u.oneCell' = true } → List Value := fun y => y.1
  let ts : List { y : List Value // y.length = size ∧ ∀ u ∈ y, u.oneCell' = true } := ys.pmap Subtype.mk hq
  have hts : ts.map enc = ys := by
    show (ys.pmap Subtype.mk hq).map (fun y => y.1) = ys
    rw [List.map_pmap, List.pmap_eq_map, List.map_id']
  have htl : ts.length = l.length := by rw [← h2, ← hts, List.length_map]
  have hlt := h1.lt
  have hc0 : cs.toList.length = size ∧ ∀ u ∈ cs.toList, u.oneCell' = true := ⟨by simpa using hcs, hone _ _ _ _ hrow⟩
  have hA0 : Agree (TyK base τs W) W (W.alloc (.cells cs e)) := TyK.alloc _
  have hblk : ∀ b, TyK base τs W b → v.ownBlock ≠ some b := fun b hb e' => by
    obtain ⟨cs', g2⟩ := own_blk h1 e'
    exact TyK.off g2 hτ hb
  refine wpList_push (enc := enc) hgd s x t ho base e i z size bytes ht hi hz hsize hby hzs hsz v ts hs (by rw [htl, hts]; exact h1) (fun y => y.2.1) ⟨cs.toList, hc0⟩ cs rfl hx (fun y => y.2.2) (by omega) (by rw [htl]; exact hbytes) hbase w0 B hB hb ?_
  intro v' w' g1 g2 g3 g4
  have hA1 : Agree (TyK base τs W) W w' := hA0.trans (Agree.grown g2 fun b hb => ⟨by have := hb.lt; simp; omega, fun e' => hblk b hb e'.symm⟩)
  rw [List.map_append, hts, List.length_append, htl] at g1
  refine h v' w' ⟨ys ++ [cs.toList], by rw [List.length_append]; exact g1, by simp [h2], fun j y x' e1 e2 => ?_⟩ hA1 g3 ?_ (fun g t cs hk ht => (hk.alloc _).grown g2 fun e' => ?_)
  · by_cases hj : j < ys.length
    · rw [List.getElem?_append_left hj] at e1
      rw [List.getElem?_append_left (by omega)] at e2
      obtain ⟨q1, q2⟩ := h3 j y x' e1 e2
      exact ⟨q1, hR _ _ _ _ _ _ q2 hA1 fun _ g => TyK.step hA1 g⟩
    · rw [List.getElem?_append_right (by omega)] at e1 e2
      have hj0 : j - ys.length = 0 := by
        rcases Nat.eq_zero_or_pos (j - ys.length) with e' | e'
        · exact e'
        · rw [List.getElem?_eq_none (by simp; omega)] at e1; cases e1
      rw [hj0] at e1
      rw [show j - l.length = 0 by omega] at e2
      simp at e1 e2
      subst e1 e2
      exact ⟨hc0.1, hR _ _ _ _ _ _ hrow hA1 fun _ g => TyK.step hA1 g⟩
  · intro g hg
    rcases g4 with e' | e'
    · exact .inl (e' ▸ hg)
    · right
      rw [e'] at hg
      injection hg with hg
      omega
  · obtain ⟨cs', h4⟩ := own_blk h1 e'.symm
    have := hk.symm.trans h4
    simp at this
    exact ht this.2
end Go.Inq
