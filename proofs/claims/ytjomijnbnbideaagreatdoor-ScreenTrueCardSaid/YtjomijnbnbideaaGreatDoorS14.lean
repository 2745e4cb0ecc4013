/-
  Walks: layer 18: choices, or a level, that may not be.
-/
import Derived.Deep.WholeRow
import Derived.Test.YtjomijnbnbideaaGreatDoorS13
import Derived.Test.YtjomijnbnbideaaGreatDoorS04
import Derived.Test.YtjomijnbnbideaaGreatDoorS05
import Derived.Test.YtjomijnbnbideaaGreatDoorS08
import Derived.Test.YtjomijnbnbideaaGreatDoorS02
set_option linter.unusedVariables false
set_option linter.unusedSimpArgs false
namespace Go.Proofs.YtjomijnbnbideaaGreatDoor
open Go.RowKit Go.Inq
set_option maxHeartbeats 8000000
attribute [local go_sem ↓] Go.wp_at_zero Go.wp_at_succ

theorem full18_bad (A : Option Addr) (c : Nat) (H : List Txn) (level : Int) (Al : Option Addr) (cl : Nat) (l : List Cho) (w : World) (h : TxnS w (Old w) (.slice A H.length c) H) (hn : SmallH H) (hl : ChoS w (Old w) (.slice Al l.length cl) l) (hln : l.length ≤ 1000000000) (hb : (rightC H l && (decide (level = 0) || decide (level = 1))) = false) :
    Calls Tryz.prog 27 #[.agg #[.slice A H.length c], .int .i64 level, .slice Al l.length cl] w fun e w' => e = .returned (.tuple #[.agg #[.int .i64 0, .slice none 0 0], .int .i64 1]) ∧ Below w.heap.size w w' := by
  obtain ⟨W0, hW0⟩ : ∃ W0, (w.alloc (.cells #[.slice A H.length c] 24)).alloc (.cells #[.int .i64 0, .slice none 0 0] 56) = W0 := ⟨_, rfl⟩
  have hB := below_two hW0
  have k0 := Blk.two1 hW0
  have k1 := Blk.two2 hW0
  have hrc := hide (right18_any A c H Al cl l W0 (h.below hB) hn (hl.below hB) hln)
  have c0 := k0.cell 0
  simp only [List.getElem?_toArray, List.getElem?_cons_zero, List.getElem?_cons_succ] at c0
  generalize rightC H l = q at *
  clear h hl
  have hways : q = false ∨ (q = true ∧ (level != 0) = true ∧ (level != 1) = true) := by
    cases q with
    | false => exact .inl rfl
    | true =>
      right
      rw [Bool.true_and, Bool.or_eq_false_iff] at hb
      exact ⟨rfl, by simpa using hb.1, by simpa using hb.2⟩
  clear hb
  go_enter Tryz.func27, Tryz.ntmps27
  go_wp2_with fail
  clear hW0 c0
  refine hrc.out.mono ?_
  rintro e w1 ⟨rfl, hb1⟩
  replace k1 := k1.below hb1 k1.lt
  have hb2 := hB.trans (hb1.mono hB.size)
  have d0 := k1.cell 0
  have d1 := k1.cell 1
  have f0 := k1.frozen 0
  have f1 := k1.frozen 1
  simp only [List.getElem?_toArray, List.getElem?_cons_zero, List.getElem?_cons_succ] at d0 d1
  have hz := hide (((hb2.setCell (p := ⟨w.heap.size + 1, 0, none⟩) (Nat.le_succ _) (.int .i64 0)).setCell (p := ⟨w.heap.size + 1, 1, none⟩) (Nat.le_succ _) (.slice none 0 0)))
  have hq := (k1.set_ 0 (.int .i64 0)).set_ 1 (.slice none 0 0)
  simp only [List.setIfInBounds_toArray, List.set_cons_zero, List.set_cons_succ] at hq
  have y0 := hq.cell 0
  have y1 := hq.cell 1
  simp only [List.getElem?_toArray, List.getElem?_cons_zero, List.getElem?_cons_succ] at y0 y1
  rcases hways with rfl | ⟨rfl, g1, g2⟩
  all_goals
    go_wp2_with fail
    exact bodyPost_ret (v := .tuple #[.agg #[.int .i64 0, .slice none 0 0], .int .i64 1]) (by simp [results, Tryz.results27, go_sem, y0, y1]) rfl ⟨rfl, hz.out⟩
end Go.Proofs.YtjomijnbnbideaaGreatDoor

namespace Go.Inq
open Go Go.RowKit

/-- An array of 64 numbers. -/
def arrN (D : Nat → Nat) : Array Value := ((List.range 64).map fun x => Value.int .i64 ((D x : Nat) : Int)).toArray
theorem arrN_size (D : Nat → Nat) : (arrN D).size = 64 := by simp [arrN]
theorem arrN_at {D : Nat → Nat} {x : Nat} (h : x < 64) : (arrN D)[x]? = some (.int .i64 ((D x : Nat) : Int)) := by
  unfold arrN
  rw [List.getElem?_toArray, List.getElem?_map, List.getElem?_range h]; rfl
theorem arrN_set {D : Nat → Nat} {x v : Nat} (h : x < 64) : (arrN D).setIfInBounds x (.int .i64 ((v : Nat) : Int)) = arrN (fun y => if y = x then v else D y) := by
  unfold arrN
  rw [List.setIfInBounds_toArray]
  congr 1
  refine List.ext_getElem (by simp) fun i h1 h2 => ?_
  rw [List.getElem_set, List.getElem_map, List.getElem_map, List.getElem_range]
  dsimp only
  by_cases e : x = i
  · rw [if_pos e, if_pos e.symm]
  · rw [if_neg e, if_neg (Ne.symm e)]
theorem arrN_put {D : Nat → Nat} {x k : Nat} (h : x < 64) : (arrN D).setIfInBounds x (.int .i64 ((k : Int) + 1)) = arrN (fun y => if y = x then k + 1 else D y) := by
  rw [← arrN_set h]
  rfl
theorem arrN_one (D : Nat → Nat) : (arrN D).all (·.oneCell') = true := by
  rw [Array.all_eq_true]
  intro i hi
  simp [arrN, Value.oneCell']
theorem arrN_ext {D F : Nat → Nat} (h : ∀ x, D x = F x) : arrN D = arrN F := by rw [show D = F from funext h]
/-- A whole array out of its block, and back. -/
theorem run_load_blk {P : Program} {W : World} {g : Nat} {t : TypeId} {cs : Array Value} (hk : Blk W g t cs) {n : Nat} (hn : cs.size = n) : (loadCellsFrom ⟨g, 0, none⟩ 0 n #[]).run P W = .ok cs W := by
  subst hn
  have := run_loadCells_list (P := P) W ⟨g, 0, none⟩ cs.toList (fun j v hv => by
    have hadd : (⟨g, 0, none⟩ : Addr).add j = ⟨g, j, none⟩ := by unfold Addr.add; split <;> simp_all
    rw [hadd, hk.cell]
    simpa using hv)
  simpa [loadCells] using this
theorem setRow_blk {W : World} {g : Nat} {t : TypeId} {cs c' : Array Value} (hk : Blk W g t cs) : Blk (W.setRow g c') g t c' := by
  unfold Blk at hk ⊢
  simp [World.setRow, Array.getElem?_modify, hk]
theorem setRow_same {W : World} {g : Nat} {t : TypeId} {cs : Array Value} (hk : Blk W g t cs) : W.setRow g cs = W := by
  unfold Blk at hk
  have h2 : ∀ i, (W.setRow g cs).heap[i]? = W.heap[i]? := fun i => by
    unfold World.setRow
    dsimp only
    rw [Array.getElem?_modify]
    by_cases e : g = i
    · subst e
      rw [if_pos rfl, hk]
      rfl
    · rw [if_neg e]
  have h3 : (W.setRow g cs).heap = W.heap := Array.ext_getElem? h2
  unfold World.setRow at h3 ⊢
  dsimp only at h3
  rw [h3]
theorem run_store_blk {P : Program} {W : World} {g : Nat} {t : TypeId} {cs : Array Value} (hk : Blk W g t cs) (hi : (P.info? t).map (·.size) = some cs.size) (h1 : cs.all (·.oneCell') = true) : (storeCells ⟨g, 0, none⟩ cs.toList 0).run P W = .ok () W := by
  have := run_storeVar_row (P := P) W g t t cs cs hk hi rfl h1
  rw [setRow_same hk] at this
  cases hq : P.info? t with
  | none => simp [hq] at hi
  | some i =>
    have hs : cs.size = i.size := by simp [hq] at hi; omega
    simpa [storeVar, sizeOf, typeInfo, hq, Value.cells, hs] using this
/-- A whole array is loaded. -/
theorem wpList_loadArr {P : Program} {W : World} {ops : Array Oper} {rest : List Oper} {o : Oper} {a : Act} {Q : Exit → Act → World → Prop} {t e : TypeId} {p : Operand} {g n : Nat} {cs : Array Value}
    (hg : o.guard = none) (ho : o.op = .load t p) (hp : a.eval p = .pointer (some ⟨g, 0, none⟩)) (hk : Blk W g t cs) (hu : P.underlying t = some (.array n e)) (hi : (P.info? t).map (·.size) = some cs.size)
    (h : wpList P ops Q rest (a.put o.dst (.agg cs)) W) : wpList P ops Q (o :: rest) a W := by
  refine wpList_plain hg (fun K hK => ?_)
  have hr : (Instr.loadAt t (.pointer (some ⟨g, 0, none⟩))).run P W = .ok (.agg cs) W := by
    simp only [Instr.loadAt, Instr.sureAddr, Sem.run_bind, Sem.run_pure, Result.andThen]
    exact run_loadVar_row W g t t cs (0, 0) _ hk hu rfl hi
  unfold Oper.wp execOp
  simp only [ho, hp, Sem.run_bind, Sem.run_pure, Result.andThen_ok, Sem.run_map, hr]
  exact hK _ _ h
theorem results_cell1 {fn : Func} {p : Tmp} {ty : TypeId} (h : fn.results = #[.cell p ty]) {tmps : Array Value} {P : Program} {W : World} {g : Nat} {cs : Array Value} {n : Nat} {e : TypeId} (hp : tmps.getD p undef = .pointer (some ⟨g, 0, none⟩))
    (hk : Blk W g ty cs) (hu : P.underlying ty = some (.array n e)) (hi : (P.info? ty).map (·.size) = some cs.size) : (results fn tmps).run P W = .ok (.agg cs) W := by
  have hr := run_loadVar_row (P := P) W g ty ty cs (0, 0) _ hk hu rfl hi
  simp only [results, h]
  simp [Sem.run_bind, Result.andThen, asAddr, hr, Array.getD_eq_getD_getElem?] at hp ⊢
  rw [hp]
  simp [Sem.run_bind, Result.andThen, hr]
/-- A whole array is stored. -/
theorem wpList_storeArr {P : Program} {W : World} {ops : Array Oper} {rest : List Oper} {o : Oper} {a : Act} {Q : Exit → Act → World → Prop} {t : TypeId} {p x : Operand} {g : Nat} {cs c' : Array Value}
    (hg : o.guard = none) (ho : o.op = .store t p x) (hp : a.eval p = .pointer (some ⟨g, 0, none⟩)) (hx : a.eval x = .agg c') (hk : Blk W g t cs) (hi : (P.info? t).map (·.size) = some c'.size) (hs : cs.size = c'.size) (h1 : c'.all (·.oneCell') = true)
    (h : wpList P ops Q rest (a.put o.dst undef) (W.setRow g c')) : wpList P ops Q (o :: rest) a W := by
  refine wpList_plain hg (fun K hK => ?_)
  have hr : (Instr.storeAt t (.pointer (some ⟨g, 0, none⟩)) (.agg c')).run P W = .ok () (W.setRow g c') := by
    simp only [Instr.storeAt, Instr.sureAddr, Sem.run_bind, Sem.run_pure, Result.andThen]
    exact run_storeVar_row W g t t cs c' hk hi hs h1
  unfold Oper.wp execOp
  simp only [ho, hp, hx, Sem.run_bind, Sem.run_pure, Result.andThen_ok, Sem.run_map, hr]
  exact hK _ _ h
/-- Rounds so far, at the nodes alone. -/
def farC (n : Nat) (E : Edges) (v k x : Nat) : Nat := if x < n then (match k with | 0 => 0 | k + 1 => farK n E v k x) else 0
def frontK (n : Nat) (E : Edges) (v k : Nat) (z : Nat) : Bool := match k with | 0 => E z v | k + 1 => (List.range n).any fun y => E z y && decide (farK n E v k y = k + 1)
theorem farC_next {n : Nat} {E : Edges} {v k x : Nat} (hx : x < n) : farC n E v (k + 1) x = if farC n E v k x ≠ 0 then farC n E v k x else if frontK n E v k x = true then k + 1 else 0 := by
  unfold farC
  rw [if_pos hx, if_pos hx]
  cases k with
  | zero => rfl
  | succ k => rfl
theorem farC_le {n : Nat} {E : Edges} {v k x : Nat} : farC n E v k x ≤ k := by
  unfold farC
  split
  · cases k with
    | zero => exact Nat.le_refl _
    | succ k => exact farK_le k x
  · omega
theorem farC_new {n : Nat} {E : Edges} {v k x : Nat} (hx : x < n) : farC n E v (k + 1) x = k + 1 ↔ farC n E v k x = 0 ∧ frontK n E v k x = true := by
  have hle := farC_le (n := n) (E := E) (v := v) (k := k) (x := x)
  rw [farC_next hx]
  by_cases h : farC n E v k x = 0
  · rw [if_neg (by omega)]
    cases frontK n E v k x <;> simp [h]
  · rw [if_pos h]
    constructor
    · intro e; omega
    · rintro ⟨e, _⟩; exact absurd e h
theorem frontK_next {n : Nat} {E : Edges} {v k z : Nat} : frontK n E v (k + 1) z = ((List.range n).filter (frontK n E v k)).any fun x => decide (farC n E v k x = 0) && E z x := by
  show ((List.range n).any fun y => E z y && decide (farK n E v k y = k + 1)) = _
  rw [Bool.eq_iff_iff, List.any_eq_true, List.any_eq_true]
  have hn : ∀ y, y < n → (farK n E v k y = k + 1 ↔ farC n E v k y = 0 ∧ frontK n E v k y = true) := fun y hy => by
    rw [← farC_new hy]
    unfold farC
    rw [if_pos hy]
  constructor
  · rintro ⟨y, hy, h⟩
    rw [Bool.and_eq_true] at h
    obtain ⟨h1, h2⟩ := (hn y (List.mem_range.1 hy)).1 (of_decide_eq_true h.2)
    exact ⟨y, List.mem_filter.2 ⟨hy, h2⟩, by rw [h.1, decide_eq_true h1]; rfl⟩
  · rintro ⟨y, hy, h⟩
    obtain ⟨hy1, hy2⟩ := List.mem_filter.1 hy
    rw [Bool.and_eq_true] at h
    exact ⟨y, hy1, by rw [h.2, decide_eq_true ((hn y (List.mem_range.1 hy1)).2 ⟨of_decide_eq_true h.1, hy2⟩)]; rfl⟩
/-- Behind some of the front. -/
def dIn (D : Nat → Nat) (k : Nat) (l : List Nat) (x : Nat) : Nat := if D x ≠ 0 then D x else if l.contains x = true then k + 1 else 0
def pIn (E : Edges) (D : Nat → Nat) (l : List Nat) (z : Nat) : Bool := l.any fun x => decide (D x = 0) && E z x
theorem dIn_nil (D : Nat → Nat) (k x : Nat) : dIn D k [] x = D x := by
  unfold dIn
  by_cases h : D x = 0 <;> simp [h]
theorem dIn_all {n : Nat} {E : Edges} {v k x : Nat} : dIn (farC n E v k) k ((List.range n).filter (frontK n E v k)) x = farC n E v (k + 1) x := by
  unfold dIn
  by_cases hx : x < n
  · rw [farC_next hx]
    have : ((List.range n).filter (frontK n E v k)).contains x = frontK n E v k x := by
      rw [Bool.eq_iff_iff, List.contains_iff_mem, List.mem_filter, List.mem_range]
      exact ⟨fun h => h.2, fun h => ⟨hx, h⟩⟩
    rw [this]
  · have h1 : farC n E v k x = 0 := by unfold farC; rw [if_neg hx]
    have h2 : farC n E v (k + 1) x = 0 := by unfold farC; rw [if_neg hx]
    have : ((List.range n).filter (frontK n E v k)).contains x = false := by
      rw [Bool.eq_false_iff]
      intro h
      rw [List.contains_iff_mem, List.mem_filter, List.mem_range] at h
      exact hx h.1
    rw [h1, h2, this]
    rfl
theorem dIn_step {D : Nat → Nat} {k : Nat} {l : List Nat} (hnd : l.Nodup) {i : Nat} (hi : i < l.length) : dIn D k (l.take i) l[i] = D l[i] ∧ (D l[i] = 0 → ∀ y, (if y = l[i] then k + 1 else dIn D k (l.take i) y) = dIn D k (l.take (i + 1)) y) ∧ (D l[i] ≠ 0 → ∀ y, dIn D k (l.take i) y = dIn D k (l.take (i + 1)) y) := by
  have hnot : l[i] ∉ l.take i := fun hm => by
    obtain ⟨j, hj, e⟩ := List.mem_take_iff_getElem.1 hm
    exact List.pairwise_iff_getElem.1 (List.nodup_iff_pairwise_ne.1 hnd) j i (by omega) hi (by omega) e
  have hc : (l.take i).contains l[i] = false := by
    rw [Bool.eq_false_iff]
    intro h
    exact hnot (List.contains_iff_mem.1 h)
  have hs : ∀ y, (l.take (i + 1)).contains y = ((l.take i).contains y || y == l[i]) := fun y => by
    rw [List.take_succ_eq_append_getElem hi, List.contains_append]
    congr 1
    rw [List.contains_cons, List.contains_nil, Bool.or_false]
  refine ⟨?_, fun h0 y => ?_, fun h0 y => ?_⟩
  · unfold dIn
    rw [hc]
    by_cases h : D l[i] = 0 <;> simp [h]
  · unfold dIn
    rw [hs]
    by_cases e : y = l[i]
    · subst e
      simp [h0]
    · have : (y == l[i]) = false := by simpa using e
      rw [if_neg e, this, Bool.or_false]
  · unfold dIn
    rw [hs]
    by_cases e : y = l[i]
    · subst e
      rw [if_pos h0, if_pos h0]
    · have : (y == l[i]) = false := by simpa using e
      rw [this, Bool.or_false]
theorem pIn_step {E : Edges} {D : Nat → Nat} {l : List Nat} {i : Nat} (hi : i < l.length) (z : Nat) : pIn E D (l.take (i + 1)) z = (pIn E D (l.take i) z || (decide (D l[i] = 0) && E z l[i])) := by
  unfold pIn
  rw [List.take_succ_eq_append_getElem hi, List.any_append]
  simp
theorem setB_zero {p : Nat → Bool} {n : Nat} : setB p n = 0 ↔ ∀ x, x < n → p x = false := by
  constructor
  · intro h x hx
    have := testBit_setB p n x
    rw [h, Nat.zero_testBit] at this
    simpa [hx] using this.symm
  · intro h
    refine Nat.eq_of_testBit_eq fun i => ?_
    rw [testBit_setB, Nat.zero_testBit]
    by_cases hi : i < n
    · simp [h i hi]
    · simp [hi]
/-- At the end. -/
def farA (n : Nat) (E : Edges) (v x : Nat) : Nat := if x < n then farE n E v x else 0
theorem farC_end {n : Nat} {E : Edges} {v k : Nat} (hv : v < n) (h : setB (frontK n E v k) n = 0) (x : Nat) : farC n E v k x = farA n E v x := by
  rw [setB_zero] at h
  unfold farC farA
  split
  · rename_i hx
    cases k with
    | zero =>
      have h0 : ∀ y, y < n → farK n E v 0 y = 0 := fun y hy => by
        show (if _ then _ else _) = _
        rw [if_neg (by rw [show E y v = false from h y hy]; decide)]
      have := farE_stop (n := n) (E := E) (v := v) (k := 0) (fun a b ha hb e => by rw [h0 b hb] at e; omega) hx
      rw [h0 x hx] at this
      exact this
    | succ k =>
      refine farE_stop (fun a b ha hb e => ?_) hx
      have h1 := h a ha
      have h1 : ((List.range n).any fun y => E a y && decide (farK n E v k y = k + 1)) = false := h1
      rw [List.any_eq_false] at h1
      have h2 := h1 b (List.mem_range.2 hb)
      rw [decide_eq_true e, Bool.and_true] at h2
      simpa using h2
  · rfl
theorem front_le {n : Nat} {E : Edges} {v k : Nat} (h : setB (frontK n E v k) n ≠ 0) : k ≤ n := by
  cases k with
  | zero => omega
  | succ k =>
    rcases Classical.em (∃ z, z < n ∧ frontK n E v (k + 1) z = true) with ⟨z, _, hz⟩ | hno
    · have hz : ((List.range n).any fun y => E z y && decide (farK n E v k y = k + 1)) = true := hz
      rw [List.any_eq_true] at hz
      obtain ⟨y, hy, h2⟩ := hz
      rw [Bool.and_eq_true] at h2
      have h3 := of_decide_eq_true h2.2
      have := farK_lev (n := n) (E := E) (v := v) (k := k) (List.mem_range.1 hy)
      omega
    · exact absurd (setB_zero.2 fun x hx => by
        cases hc : frontK n E v (k + 1) x with
        | false => rfl
        | true => exact absurd ⟨x, hx, hc⟩ hno) h
end Go.Inq

namespace Go.Proofs.YtjomijnbnbideaaGreatDoor
open Go.RowKit Go.Inq
set_option maxHeartbeats 8000000
attribute [local go_sem ↓] Go.wp_at_zero Go.wp_at_succ

theorem info180 : (Tryz.prog.info? 180).map (·.size) = some 64 := by kernel_rfl
theorem arrN_lit : #[Value.int .i64 0, .int .i64 0, .int .i64 0, .int .i64 0, .int .i64 0, .int .i64 0, .int .i64 0, .int .i64 0, .int .i64 0, .int .i64 0, .int .i64 0, .int .i64 0, .int .i64 0, .int .i64 0, .int .i64 0, .int .i64 0, .int .i64 0, .int .i64 0, .int .i64 0, .int .i64 0, .int .i64 0, .int .i64 0, .int .i64 0, .int .i64 0, .int .i64 0, .int .i64 0, .int .i64 0, .int .i64 0, .int .i64 0, .int .i64 0, .int .i64 0, .int .i64 0, .int .i64 0, .int .i64 0, .int .i64 0, .int .i64 0, .int .i64 0, .int .i64 0, .int .i64 0, .int .i64 0, .int .i64 0, .int .i64 0, .int .i64 0, .int .i64 0, .int .i64 0, .int .i64 0, .int .i64 0, .int .i64 0, .int .i64 0, .int .i64 0, .int .i64 0, .int .i64 0, .int .i64 0, .int .i64 0, .int .i64 0, .int .i64 0, .int .i64 0, .int .i64 0, .int .i64 0, .int .i64 0, .int .i64 0, .int .i64 0, .int .i64 0, .int .i64 0] = arrN (fun _ => 0) := by kernel_rfl
set_option maxRecDepth 100000 in
theorem far15_any (n : Nat) (A : Option Addr) (c : Nat) (E : Edges) (v : Nat) (w : World) (h : GrS w (Old w) n A c (turnE E)) (hv : v < n) (hTB : TabB w) :
    Calls Tryz.prog 120 #[.agg #[.int .i64 n, .slice A n c], .int .i64 (v : Int)] w fun e w' => e = .returned (.agg (arrN (farA n E v))) ∧ Below w.heap.size w w' := by
  have hn64 := h.n64
  have hv0 : (0 : Int) ≤ (v : Int) := Int.natCast_nonneg _
  have hv1 : (v : Int) < (n : Int) := by omega
  obtain ⟨W0, hW0⟩ : ∃ W0, (w.alloc (.cells #[.int .i64 n, .slice A n c] 56)).alloc (.cells (arrN (fun _ => 0)) 180) = W0 := ⟨_, rfl⟩
  have hB := below_two hW0
  have k0 := Blk.two1 hW0
  have k1 := Blk.two2 hW0
  have hs0 := size_two hW0
  rw [← arrN_lit] at hW0
  have hfr0 : Hid (∀ z, frontK n E v 0 z = E z v) := hide (fun z => rfl)
  have hfc0 : Hid (arrN (fun _ => 0) = arrN (farC n E v 0)) := hide (arrN_ext fun x => by unfold farC; split <;> rfl)
  rw [hfc0.out] at k1
  have hend := hide (fun k => farC_end (n := n) (E := E) (k := k) hv)
  have hfl := hide (fun k => front_le (n := n) (E := E) (v := v) (k := k))
  have hfn := hide (fun k z => frontK_next (n := n) (E := E) (v := v) (k := k) (z := z))
  have hda := hide (fun k x => dIn_all (n := n) (E := E) (v := v) (k := k) (x := x))
  have hh : Hid (∀ W, Below w.heap.size w W → GrS W (Old W) n A c (turnE E)) := hide (fun W hb => h.below hb)
  have hTb : Hid (∀ W, Below w.heap.size w W → TabB W) := hide (fun W hb => hTB.below hb)
  obtain ⟨bb, ob, rfl, -, x0⟩ := (hh.out W0 hB).at_ hv
  have c1 := k0.cell 1
  simp only [List.getElem?_toArray, List.getElem?_cons_zero, List.getElem?_cons_succ] at c1
  have ht0 : Hid (setB (turnE E v) n = setB (frontK n E v 0) n) := hide (setB_congr fun i _ => rfl)
  rw [ht0.out] at x0
  replace hs0 := hide hs0
  clear h hTB
  go_enter Tryz.func120, Tryz.ntmps120
  go_upto_region 1 with fail
  clear hW0
  go_wp2_with fail
  clear x0 c1
  go_loopw [5, 6] (fun s5 s6 wr => ∃ k : Nat, s6 = .int .i64 ((k : Int) + 1) ∧ s5 = .int .u64 (setB (frontK n E v k) n : Nat) ∧ k ≤ n + 1 ∧ Blk wr w.heap.size 56 #[.int .i64 n, .slice (some ⟨bb, ob, none⟩) n c] ∧ Blk wr (w.heap.size + 1) 180 (arrN (farC n E v k)) ∧ Below w.heap.size w wr) (fun _ s6 _ => n + 3 - (intOf s6).toNat)
  case atStart => exact ⟨0, by go_num, rfl, by omega, k0, k1, hB⟩
  case round =>
    clear k0 k1 hB
    obtain ⟨Wo, rfl⟩ : ∃ Wo, Wo = wr := ⟨_, rfl⟩
    obtain ⟨k, rfl, rfl, hk, k0, k1, hb⟩ := hrel
    have hk1 : (0 : Int) ≤ (k : Int) := Int.natCast_nonneg _
    have h64 := hide (setB_64 (p := frontK n E v k) hn64)
    by_cases hz : setB (frontK n E v k) n = 0
    · have hzb : (setB (frontK n E v k) n != 0) = false := by simp [hz]
      have hea := hide (arrN_ext (hend.out k hz))
      rw [hea.out] at k1
      have hsz := hide (arrN_size (farA n E v))
      have h1 := hide (arrN_one (farA n E v))
      obtain ⟨arr, harr⟩ : ∃ arr, arrN (farA n E v) = arr := ⟨_, rfl⟩
      rw [harr] at k1 hsz h1
      replace harr := hide harr
      generalize setB (frontK n E v k) n = s at *
      clear hea
      go_upto_region 14 with fail
      refine wp_region_lit ?_
      refine wpList_loadArr rfl rfl rfl k1 Tryz.underlying180 (by rw [hsz.out]; exact info180) ?_
      refine wpList_storeArr rfl rfl rfl rfl k1 (by rw [hsz.out]; exact info180) rfl h1.out ?_
      rw [setRow_same k1]
      go_wp2
      refine bodyPost_ret (v := .agg arr) (results_cell1 Tryz.results120 rfl k1 Tryz.underlying180 (by rw [hsz.out]; exact info180)) rfl ⟨by rw [harr.out], hb⟩
    · have hzb : (setB (frontK n E v k) n != 0) = true := by simp [hz]
      have hkn := hide (hfl.out k hz)
      replace hz := hide hz
      have hli : Hid (intsN (listB (setB (frontK n E v k) n)) = intsN ((List.range n).filter (frontK n E v k))) := hide (by rw [listB_setB hn64])
      have hfn2 := hide (hfn.out k)
      have hda2 := hide (hda.out k)
      have hnd : Hid (((List.range n).filter (frontK n E v k)).Nodup) := hide (List.Pairwise.filter _ List.nodup_range)
      have hlt : Hid (∀ x ∈ (List.range n).filter (frontK n E v k), x < n) := hide (fun x hx => List.mem_range.1 (List.mem_filter.1 hx).1)
      have hLl : ((List.range n).filter (frontK n E v k)).length ≤ 64 := Nat.le_trans (List.length_filter_le _ _) (by simp; exact hn64)
      have hbl := hide (list10_any (setB (frontK n E v k) n) h64.out Wo (hTb.out Wo hb))
      rw [hli.out] at hbl
      generalize hLq : (List.range n).filter (frontK n E v k) = L at *
      replace hLq := hide hLq
      have hln := hide (intsN_len L)
      generalize setB (frontK n E v k) n = s at *
      go_wp2_with fail
      refine hbl.out.mono ?_
      rintro e w5 ⟨vl, rfl, hO, hb5⟩
      obtain ⟨Al, cl, rfl⟩ := OwnI.form hO
      have hb6 := hb.trans (hb5.mono hb.size)
      have hg1 : w.heap.size + 1 < Wo.heap.size := k1.lt
      have hIs := hide (OwnI.sl (K := fun b => Wo.heap.size ≤ b ∧ b < w5.heap.size) hO (fun g h1 h2 => ⟨h1, h2⟩))
      replace k0 := k0.below hb5 k0.lt
      replace k1 := k1.below hb5 k1.lt
      have hs5 := hb5.size
      rw [hln.out] at hIs ⊢
      have hd0 : Hid (arrN (farC n E v k) = arrN (dIn (farC n E v k) k [])) := hide (arrN_ext fun x => (dIn_nil _ _ x).symm)
      rw [hd0.out] at k1
      have hp0 : Hid ((0 : Nat) = setB (pIn E (farC n E v k) []) n) := hide (setB_zero.2 fun x _ => rfl).symm
      clear hbl hO hb hb5
      go_wp2_with fail
      go_loopw [7, 22] (fun s7 s22 wq => ∃ i : Nat, i ≤ L.length ∧ s22 = .int .i64 i ∧ s7 = .int .u64 (setB (pIn E (farC n E v k) (L.take i)) n : Nat) ∧ Blk wq w.heap.size 56 #[.int .i64 n, .slice (some ⟨bb, ob, none⟩) n c] ∧ Blk wq (w.heap.size + 1) 180 (arrN (dIn (farC n E v k) k (L.take i))) ∧ Below w.heap.size w wq ∧ Agree (fun b => b < w5.heap.size ∧ b ≠ w.heap.size + 1) w5 wq ∧ w5.heap.size ≤ wq.heap.size) (fun _ s22 _ => L.length - (intOf s22).toNat)
      case atStart => exact ⟨0, Nat.zero_le _, by go_num, by rw [List.take_zero, ← hp0.out]; rfl, k0, by rw [List.take_zero]; exact k1, hb6, Agree.refl _ _, Nat.le_refl _⟩
      case round =>
        clear k0 k1 hb6
        obtain ⟨Wp, rfl⟩ : ∃ Wp, Wp = wr := ⟨_, rfl⟩
        obtain ⟨i, hi, rfl, rfl, k0, k1, hb, hag, hsz⟩ := hrel
        have hi1 : (0 : Int) ≤ (i : Int) := Int.natCast_nonneg _
        by_cases hil : i < L.length
        · have hi2 : (i : Int) < (L.length : Int) := by omega
          have hIp := hIs.out.keep (K' := fun _ => True) (hag.mono fun b hb => ⟨hb.2, by have h1 : Wo.heap.size ≤ b := hb.1; omega⟩) (fun _ _ => trivial)
          obtain ⟨bl, ol, rfl, -, x0⟩ := hIp.at_ (i := i) (by rw [hln.out]; exact hil)
          have hxL : (intsN L)[i]'(by rw [hln.out]; exact hil) = (L[i] : Int) := by simp [intsN]
          rw [hxL] at x0
          have hxn : L[i] < n := hlt.out _ (List.getElem_mem hil)
          obtain ⟨hd1, hd2, hd3⟩ := dIn_step (D := farC n E v k) (k := k) hnd.out hil
          have hps := hide (fun z => pIn_step (E := E) (D := farC n E v k) hil z)
          obtain ⟨x, hx⟩ : ∃ x, L[i] = x := ⟨_, rfl⟩
          rw [hx] at x0 hxn hd1 hd2 hd3 hps
          clear hxL hx
          have hx0 : (0 : Int) ≤ (x : Int) := Int.natCast_nonneg _
          have hx1 : (x : Int) < (n : Int) := by omega
          have hx64 : (x : Int) < 64 := by omega
          have hx64' : x < 64 := by omega
          have e1 := k1.cell x
          rw [arrN_at hx64', hd1] at e1
          have f1 := k1.frozen x
          have c1 := k0.cell 1
          simp only [List.getElem?_toArray, List.getElem?_cons_zero, List.getElem?_cons_succ] at c1
          have r0 := ((hh.out Wp hb).cells hxn).2
          have hil2 := hide hil
          clear hIp
          by_cases hD : farC n E v k x = 0
          · have hDb : ((farC n E v k x : Int) == 0) = true := by simp [hD]
            have hDb2 : (farC n E v k x == 0) = true := by simp [hD]
            have hset := hide ((arrN_put (D := dIn (farC n E v k) k (L.take i)) (k := k) hx64').trans (arrN_ext (hd2 hD)))
            have hjn : Hid (joinL [setB (pIn E (farC n E v k) (L.take i)) n, setB (turnE E x) n] = setB (pIn E (farC n E v k) (L.take (i + 1))) n) := hide (by
              rw [joinL_two, setB_or]
              refine setB_congr fun z _ => ?_
              rw [hps.out, decide_eq_true hD, Bool.true_and]
              rfl)
            have h641 := hide (setB_64 (p := pIn E (farC n E v k) (L.take i)) hn64)
            have h642 := hide (setB_64 (p := turnE E x) hn64)
            have k1' := k1.set_ x (.int .i64 ((k : Int) + 1))
            rw [hset.out] at k1'
            have k0' := k0.far (p := ⟨w.heap.size + 1, x, none⟩) (show w.heap.size ≠ w.heap.size + 1 by omega) (.int .i64 ((k : Int) + 1))
            have hb' := hb.setCell (p := ⟨w.heap.size + 1, x, none⟩) (Nat.le_succ _) (.int .i64 ((k : Int) + 1))
            have hag' := hag.trans (Agree.setCell ⟨w.heap.size + 1, x, none⟩ (fun h => h.2 rfl) (.int .i64 ((k : Int) + 1)) (w := Wp) (K := fun b => b < w5.heap.size ∧ b ≠ w.heap.size + 1))
            have hsz' : Hid (w5.heap.size ≤ (Wp.setCell ⟨w.heap.size + 1, x, none⟩ (.int .i64 ((k : Int) + 1))).heap.size) := hide (by simpa using hsz)
            have hbz := hide hb'
            generalize setB (pIn E (farC n E v k) (L.take i)) n = s1 at *
            obtain ⟨s2, hs2⟩ : ∃ s2, setB (turnE E x) n = s2 := ⟨_, rfl⟩
            rw [hs2] at hjn h642 r0
            have hs2e := hide hs2
            clear hs2
            clear hps hd1 hd2 hd3 hset hD
            replace hag' := hide hag'
            go_upto_region 11 with fail
            obtain ⟨Wq, hWq⟩ : ∃ Wq, Wp.setCell ⟨w.heap.size + 1, x, none⟩ (.int .i64 ((k : Int) + 1)) = Wq := ⟨_, rfl⟩
            rw [hWq] at hb' k0' k1' hag' hsz'
            rw [hWq]
            have hszq := hb'.size
            have hsq := hsz'.out
            have c1' := k0'.cell 1
            simp only [List.getElem?_toArray, List.getElem?_cons_zero, List.getElem?_cons_succ] at c1'
            have r0' := ((hh.out _ hb').cells hxn).2
            have he2 : Hid (setB (turnE E x) n = s2) := hs2e
            rw [he2.out] at r0'
            obtain ⟨Wz, hWz⟩ : ∃ Wz, Wq.alloc (.cells #[.int .u64 s1, .int .u64 s2] 145) = Wz := ⟨_, rfl⟩
            have kN := hide (U64S.of_blk (l := [s1, s2]) (K := fun _ => True) (Blk.newEq hWz) trivial)
            have kz0 := k0'.allocEq hWz
            have kz1 := k1'.allocEq hWz
            have hbz2 := below_allocEq hb' hWz hszq
            have hagz := hide (hag'.out.trans (Agree.allocEq hWz (fun b hb => by have h1 : b < w5.heap.size := hb.1; omega)))
            have hszz : w5.heap.size ≤ Wz.heap.size := by have := size_allocEq hWz; omega
            have hxy : Hid (∀ y ∈ [s1, s2], y < 18446744073709551616) := hide (by intro y hy; simp at hy; rcases hy with rfl | rfl; exact h641.out; exact h642.out)
            have hsizeq : Hid (Wq.heap.size = Wq.heap.size) := hide rfl
            clear hWq k0 k1 hb hag hsz e1 f1 c1 r0 x0 hb' k0' k1' hag' hsz' hbz
            go_wp2_with fail
            refine (join10_any (some ⟨Wq.heap.size, 0, none⟩) 2 2 [s1, s2] (fun _ => True) _ rfl kN.out hxy.out (by omega)).mono ?_
            rintro e w7 ⟨rfl, rfl⟩
            rw [hjn.out]
            clear hWz kN
            go_wp2
            go_roundw
            case rel => exact ⟨i + 1, hil2.out, by go_num, rfl, kz0, kz1, hbz2, hagz.out, hszz⟩
            case measure => have := hil2.out; simp [intOf]; omega
          · have hDb : ((farC n E v k x : Int) == 0) = false := by rw [beq_eq_false_iff_ne]; omega
            have hDb2 : (farC n E v k x == 0) = false := by simp [hD]
            have hset := hide (arrN_ext (hd3 hD))
            have hpn : Hid (setB (pIn E (farC n E v k) (L.take i)) n = setB (pIn E (farC n E v k) (L.take (i + 1))) n) := hide (setB_congr fun z _ => by rw [hps.out, decide_eq_false hD]; simp)
            rw [hset.out] at k1
            rw [hpn.out]
            clear hps hd1 hd2 hd3 hset hD
            replace hag := hide hag
            go_wp2
            go_roundw
            case rel => exact ⟨i + 1, hil2.out, by go_num, rfl, k0, k1, hb, hag.out, hsz⟩
            case measure => have := hil2.out; simp [intOf]; omega
        · obtain rfl : i = L.length := by omega
          have hen : Hid (setB (pIn E (farC n E v k) (L.take L.length)) n = setB (frontK n E v (k + 1)) n) := hide (setB_congr fun z _ => by rw [List.take_length, ← hLq.out, frontK_next]; rfl)
          have hea : Hid (arrN (dIn (farC n E v k) k (L.take L.length)) = arrN (farC n E v (k + 1))) := hide (arrN_ext fun x => by rw [List.take_length, ← hLq.out]; exact dIn_all)
          rw [hen.out]
          rw [hea.out] at k1
          have hkn2 := hkn.out
          clear hen hea hag hIs
          go_wp2
          go_roundw
          case rel => exact ⟨k + 1, by go_num, rfl, by omega, k0, k1, hb⟩
          case measure => simp [intOf]; omega
end Go.Proofs.YtjomijnbnbideaaGreatDoor

namespace Go.Proofs.YtjomijnbnbideaaGreatDoor
open Go.RowKit Go.Inq
set_option maxHeartbeats 1000000
attribute [local go_sem ↓] Go.wp_at_zero Go.wp_at_succ

theorem testBit_div (s i : Nat) : decide (s / 2 ^ i % 2 = 1) = s.testBit i := by
  rw [Nat.testBit_eq_decide_div_mod_eq]
theorem pow_63 {i : Nat} (h : i ≤ 63) : 2 ^ i ≤ 9223372036854775808 := by
  have := Nat.pow_le_pow_right (n := 2) (by decide) h
  simpa using this
theorem with_add {s i : Nat} (hs : s < 18446744073709551616) (hi : i ≤ 63) (h : s.testBit i = false) : s + 2 ^ i = s ||| 2 ^ i := by
  have hp := pow_63 hi
  have hand : BitVec.ofNat 65 s &&& BitVec.ofNat 65 (2 ^ i) = 0#65 := by
    refine BitVec.eq_of_toNat_eq ?_
    rw [BitVec.toNat_and, BitVec.toNat_ofNat, BitVec.toNat_ofNat, Nat.mod_eq_of_lt (by omega), Nat.mod_eq_of_lt (by omega)]
    refine Nat.eq_of_testBit_eq fun j => ?_
    rw [Nat.testBit_and, Nat.testBit_two_pow]
    by_cases e : i = j
    · subst e; simp [h]
    · simp [e]
  have h1 := congrArg BitVec.toNat (BitVec.add_eq_or_of_and_eq_zero _ _ hand)
  have e1 : (BitVec.ofNat 65 s).toNat = s := by rw [BitVec.toNat_ofNat]; exact Nat.mod_eq_of_lt (by omega)
  have e2 : (BitVec.ofNat 65 (2 ^ i)).toNat = 2 ^ i := by rw [BitVec.toNat_ofNat]; exact Nat.mod_eq_of_lt (by omega)
  rw [BitVec.toNat_add, BitVec.toNat_or, e1, e2, Nat.mod_eq_of_lt (by omega)] at h1
  exact h1
/-- A power of two. -/
def pow2 (n : Nat) : Nat := 2 ^ n
theorem rin10_any (i : Int) (w : World) : Calls Tryz.prog 217 #[.int .i64 i] w fun e w' => e = .returned (.bool (decide (0 ≤ i) && decide (i ≤ 63))) ∧ w = w' := by
  by_cases h0 : 0 ≤ i
  · have h1 : decide (i ≥ 0) = true := by simpa using h0
    have h2 : decide (0 ≤ i) = true := by simpa using h0
    go_enter Tryz.func217, Tryz.ntmps217
    go_wp2
    go_ret
    exact ⟨by simp [h2], rfl⟩
  · have h1 : decide (i ≥ 0) = false := by simpa using h0
    have h2 : decide (0 ≤ i) = false := by simpa using h0
    clear h0
    go_enter Tryz.func217, Tryz.ntmps217
    go_wp2
    go_ret
    exact ⟨by simp [h2], rfl⟩
theorem rpow10_any (n : Nat) (hn : n ≤ 63) (w : World) : Calls Tryz.prog 218 #[.int .i64 (n : Int)] w fun e w' => e = .returned (.int .u64 (pow2 n : Nat)) ∧ w = w' := by
  go_enter Tryz.func218, Tryz.ntmps218
  go_wp2
  go_loop [3, 4] (fun s3 s4 => ∃ k : Nat, k ≤ n ∧ s4 = .int .i64 k ∧ ∃ x : Nat, s3 = .int .u64 x ∧ Hid (x = pow2 k)) (fun _ s4 => n - (intOf s4).toNat)
  case atStart => exact ⟨0, Nat.zero_le _, by go_num, 1, by go_num, hide rfl⟩
  case round =>
    obtain ⟨k, hk, rfl, x, rfl, hx⟩ := hrel
    have hk1 : (0 : Int) ≤ (k : Int) := Int.natCast_nonneg _
    by_cases hlt : k < n
    · have hx2 : x ≤ 9223372036854775807 := by
        rw [hx.out]
        unfold pow2
        have := Nat.pow_lt_pow_right (a := 2) (by decide) (show k < 63 by omega)
        have h63 : (2 : Nat) ^ 63 = 9223372036854775808 := by decide
        omega
      have hxs : Hid (x + x = pow2 (k + 1)) := hide (by rw [hx.out]; unfold pow2; rw [Nat.pow_succ]; omega)
      replace hx := hide hx
      have hwr : IntKind.u64.wrap ((x : Int) + (x : Int)) = ((x + x : Nat) : Int) := by rw [IntKind.wrap_u64]; omega
      go_wp2
      go_round
      case rel => exact ⟨k + 1, by omega, by go_num, x + x, by go_num, hxs⟩
      case measure => simp [intOf]; omega
    · obtain rfl : k = n := by omega
      go_wp2
      go_ret
      exact ⟨by rw [hx.out]; rfl, rfl⟩
theorem rhas10_any (s : Nat) (hs : s < 18446744073709551616) (i : Int) (w : World) : Calls Tryz.prog 186 #[.int .u64 s, .int .i64 i] w fun e w' => e = .returned (.bool (hasB s i)) ∧ w = w' := by
  by_cases hi : 0 ≤ i ∧ i ≤ 63
  · obtain ⟨n, rfl⟩ : ∃ n : Nat, i = n := ⟨i.toNat, by omega⟩
    have hn : n ≤ 63 := by omega
    have hb : (decide ((0 : Int) ≤ (n : Int)) && decide ((n : Int) ≤ 63)) = true := by simp; omega
    have hr := hide (hasB_nat s n)
    have hq := hide (testBit_div s n)
    clear hi
    go_enter Tryz.func186, Tryz.ntmps186
    go_wp2_with fail
    refine (rin10_any (n : Int) _).mono ?_
    rw [hb]
    rintro e w1 ⟨rfl, rfl⟩
    go_wp2_with fail
    refine (rpow10_any n hn _).mono ?_
    rintro e w1 ⟨rfl, rfl⟩
    have hp : Hid (pow2 n = 2 ^ n) := hide rfl
    have hp0 : 0 < pow2 n := Nat.two_pow_pos n
    generalize pow2 n = p at *
    have hp1 : ((p : Int) == 0) = false := by rw [beq_eq_false_iff_ne]; omega
    have hw : Hid (IntKind.u64.wrap ((s : Int) / (p : Int)) = ((s / p : Nat) : Int)) := hide (by
      have h1 : s / p ≤ s := Nat.div_le_self _ _
      have e : (s : Int) / (p : Int) = ((s / p : Nat) : Int) := (Int.natCast_ediv s p).symm
      rw [e]
      generalize s / p = q at *
      rw [IntKind.wrap_u64]
      omega)
    go_wp2
    go_ret
    refine ⟨ret_bool ?_, rfl⟩
    rw [hr.out, ← hq.out, ← hp.out, hw.out]
    generalize s / p = q
    rw [Int.tmod_eq_emod_of_nonneg (Int.natCast_nonneg _), Bool.eq_iff_iff]
    simp
    omega
  · have hb : (decide (0 ≤ i) && decide (i ≤ 63)) = false := by
      rw [Bool.and_eq_false_iff]
      simp
      omega
    have hr : Hid (hasB s i = false) := hide (by
      unfold hasB
      by_cases h0 : 0 ≤ i
      · rw [Nat.testBit_lt_two_pow (Nat.lt_of_lt_of_le hs (by
          have : (2 : Nat) ^ 64 ≤ 2 ^ i.toNat := Nat.pow_le_pow_right (by decide) (by omega)
          omega))]
        simp
      · simp [h0])
    clear hi
    go_enter Tryz.func186, Tryz.ntmps186
    go_wp2_with fail
    refine (rin10_any i _).mono ?_
    rw [hb]
    rintro e w1 ⟨rfl, rfl⟩
    go_wp2
    go_ret
    exact ⟨by rw [hr.out]; rfl, rfl⟩
theorem rwith10_any (s : Nat) (hs : s < 18446744073709551616) (i : Int) (w : World) : Calls Tryz.prog 181 #[.int .u64 s, .int .i64 i] w fun e w' => e = .returned (.int .u64 (withB s i : Nat)) ∧ w = w' := by
  cases hh : hasB s i with
  | true =>
    have hr : Hid (withB s i = s) := hide (by
      unfold hasB at hh
      rw [Bool.and_eq_true, decide_eq_true_eq] at hh
      unfold withB bitN
      by_cases h : i < 64
      · rw [if_pos ⟨hh.1, h⟩]
        refine Nat.eq_of_testBit_eq fun j => ?_
        rw [Nat.testBit_or, Nat.testBit_two_pow]
        by_cases e : i.toNat = j
        · subst e; simp [hh.2]
        · simp [e]
      · rw [if_neg (by omega), Nat.or_zero])
    have hc := hide (rhas10_any s hs i)
    rw [hh] at hc
    replace hh := hide hh
    go_enter Tryz.func181, Tryz.ntmps181
    go_wp2_with fail
    refine (hc.out _).mono ?_
    rintro e w1 ⟨rfl, rfl⟩
    go_wp2
    go_ret
    exact ⟨by rw [hr.out]; rfl, rfl⟩
  | false =>
    have hc := hide (rhas10_any s hs i)
    rw [hh] at hc
    by_cases hi : 0 ≤ i ∧ i ≤ 63
    · obtain ⟨n, rfl⟩ : ∃ n : Nat, i = n := ⟨i.toNat, by omega⟩
      have hn : n ≤ 63 := by omega
      have hb : (decide ((0 : Int) ≤ (n : Int)) && decide ((n : Int) ≤ 63)) = true := by simp; omega
      have hbit : s.testBit n = false := by rw [← hasB_nat]; exact hh
      have hadd := with_add hs hn hbit
      have hr : Hid (withB s (n : Int) = s + pow2 n) := hide (by unfold withB; rw [bitN_in (by omega) (by omega), Int.toNat_natCast, ← hadd]; rfl)
      have hlt : s + pow2 n < 18446744073709551616 := by rw [← hr.out]; exact withB_lt hs _
      replace hadd := hide hadd
      clear hi hh hbit
      go_enter Tryz.func181, Tryz.ntmps181
      go_wp2_with fail
      refine (hc.out _).mono ?_
      rintro e w1 ⟨rfl, rfl⟩
      go_wp2_with fail
      refine (rin10_any (n : Int) _).mono ?_
      rw [hb]
      rintro e w1 ⟨rfl, rfl⟩
      go_wp2_with fail
      refine (rpow10_any n hn _).mono ?_
      rintro e w1 ⟨rfl, rfl⟩
      generalize pow2 n = p at *
      have hw : IntKind.u64.wrap ((s : Int) + (p : Int)) = ((s + p : Nat) : Int) := by rw [IntKind.wrap_u64]; omega
      go_wp2
      go_ret
      exact ⟨by rw [hr.out]; first | rfl | simp, rfl⟩
    · have hb : (decide (0 ≤ i) && decide (i ≤ 63)) = false := by
        rw [Bool.and_eq_false_iff]
        simp
        omega
      have hr : Hid (withB s i = s) := hide (by unfold withB bitN; rw [if_neg (by omega), Nat.or_zero])
      clear hi hh
      go_enter Tryz.func181, Tryz.ntmps181
      go_wp2_with fail
      refine (hc.out _).mono ?_
      rintro e w1 ⟨rfl, rfl⟩
      go_wp2_with fail
      refine (rin10_any i _).mono ?_
      rw [hb]
      rintro e w1 ⟨rfl, rfl⟩
      go_wp2
      go_ret
      exact ⟨by rw [hr.out]; rfl, rfl⟩
end Go.Proofs.YtjomijnbnbideaaGreatDoor

namespace Go.Inq
open Go Go.RowKit

theorem IntS.take {w : World} {K : Nat → Prop} {A : Option Addr} {n c : Nat} {l : List Int} (h : IntS w K (.slice A n c) l) {k : Nat} (hk : k ≤ l.length) : IntS w K (.slice A k c) (l.take k) := SlR.take h hk
/-- One row of numbers, as an element. -/
def RowR (w : World) (K : Nat → Prop) (cs : List Value) (l : List Int) : Prop := ∃ v, cs = [v] ∧ IntS w K v l
theorem RowR.stab : Stab RowR := fun _ _ _ _ _ _ h ha hk => by
  obtain ⟨v, h1, h2⟩ := h
  exact ⟨v, h1, h2.keep ha hk⟩
theorem RowR.one {w : World} {K : Nat → Prop} {cs : List Value} {l : List Int} (h : RowR w K cs l) : ∀ u ∈ cs, u.oneCell' = true := by
  obtain ⟨v, rfl, h2⟩ := h
  obtain ⟨A, c, rfl⟩ := h2.form
  intro u hu
  simp at hu
  subst hu
  rfl
def RowsS (w : World) (K : Nat → Prop) (v : Value) (l : List (List Int)) : Prop := SlR 1 RowR w K v l
section
variable {w w' : World} {K K' : Nat → Prop} {v : Value} {l : List (List Int)}
theorem RowsS.keep (h : RowsS w K v l) (ha : Agree K w w') (hk : ∀ b, K b → K' b) : RowsS w' K' v l := SlR.keep RowR.stab h ha hk
theorem RowsS.below (h : RowsS w (Old w) v l) (hb : Below w.heap.size w w') : RowsS w' (Old w') v l := SlR.below RowR.stab h hb
theorem RowsS.fit (h : RowsS w K v l) (hk : ∀ b, K b → K' b) : RowsS w K' v l := SlR.fit RowR.stab h hk
theorem RowsS.form (h : RowsS w K v l) : ∃ A c, v = .slice A l.length c := by
  obtain ⟨A, c, hv, _⟩ := SlR.len h
  exact ⟨A, c, hv⟩
theorem RowsS.at_ {A : Option Addr} {n c : Nat} (h : RowsS w K (.slice A n c) l) {i : Nat} (hi : i < l.length) :
    ∃ b off A' c', A = some ⟨b, off, none⟩ ∧ K b ∧ w.cell? ⟨b, off + i, none⟩ = some (.slice A' l[i].length c') ∧ IntS w K (.slice A' l[i].length c') l[i] := by
  obtain ⟨b, off, cs, hA, hK, _, ⟨v, hcs, hv⟩, hc⟩ := SlR.at_ h hi
  obtain ⟨A', c', rfl⟩ := hv.form
  subst hcs
  have := hc 0 _ rfl
  rw [Nat.mul_one, Nat.add_zero] at this
  exact ⟨b, off, A', c', hA, hK, this, hv⟩
theorem RowsS.nil (w : World) (K : Nat → Prop) (A : Option Addr) (c : Nat) : RowsS w K (.slice A 0 c) [] := SlR.nil _ _ _ _ _ _
end
/-- A state, as a value. -/
def WdS (w : World) (K : Nat → Prop) (v : Value) (s : Wd) : Prop :=
  ∃ vp vl, v = .agg #[.int .i64 s.width, .bool s.cut, vp, vl] ∧ IntS w K vp s.path ∧ RowsS w K vl s.left
section
variable {w w' : World} {K K' : Nat → Prop} {v : Value} {s : Wd}
theorem WdS.keep (h : WdS w K v s) (ha : Agree K w w') (hk : ∀ b, K b → K' b) : WdS w' K' v s := by
  obtain ⟨vp, vl, h1, h2, h3⟩ := h
  exact ⟨vp, vl, h1, h2.keep ha hk, h3.keep ha hk⟩
theorem WdS.below (h : WdS w (Old w) v s) (hb : Below w.heap.size w w') : WdS w' (Old w') v s :=
  h.keep (Agree.below hb fun _ h => h) fun _ h => Nat.lt_of_lt_of_le h hb.size
theorem WdS.form (h : WdS w K v s) : ∃ Ap cp Al cl, v = .agg #[.int .i64 s.width, .bool s.cut, .slice Ap s.path.length cp, .slice Al s.left.length cl] ∧ IntS w K (.slice Ap s.path.length cp) s.path ∧ RowsS w K (.slice Al s.left.length cl) s.left := by
  obtain ⟨vp, vl, h1, h2, h3⟩ := h
  obtain ⟨Ap, cp, rfl⟩ := h2.form
  obtain ⟨Al, cl, rfl⟩ := h3.form
  exact ⟨Ap, cp, Al, cl, h1, h2, h3⟩
end
end Go.Inq

namespace Go.Proofs.YtjomijnbnbideaaGreatDoor
open Go.RowKit Go.Inq
set_option maxHeartbeats 2000000
attribute [local go_sem ↓] Go.wp_at_zero Go.wp_at_succ

theorem nil30 (w : World) (A : Option Addr) (n c : Nat) : (Go.binOp .eql 27 (.slice A n c) (.slice none 0 0)).run Tryz.prog w = .ok (.bool A.isNone) w := Lib.run_eql_slice_nil w 27 3 A n c 0 0 Tryz.underlying27
attribute [local go_sem] nil30
theorem indexF_any (f : Nat) (hf : ∀ args w, (callFunc f args).run Tryz.prog w = .ok (.enter f args) w) (lb : Array Value) (p : Int → Bool) (A : Option Addr) (c : Nat) (l : List Int) (K : Nat → Prop) (w : World) (h : IntS w K (.slice A l.length c) l) (hl : l.length ≤ 1000000000)
    (hp : ∀ x ∈ l, Calls Tryz.prog f (#[.int .i64 x] ++ lb) w fun e W' => e = .returned (.bool (p x)) ∧ w = W') :
    Calls Tryz.prog 213 #[.slice A l.length c, .func (.func f) #[] lb] w fun e w' => e = .returned (.int .i64 (idxP p l)) ∧ w = w' := by
  have hhit := hide (fun k => idxP_hit (p := p) (l := l) (k := k))
  have hnone := hide (idxP_none (p := p) (l := l))
  replace h := hide h
  replace hp := hide hp
  go_enter Tryz.func213, Tryz.ntmps213
  go_wp2_with fail
  go_loop [5, 8] (fun s5 s8 => ∃ k : Nat, k ≤ l.length ∧ s8 = .int .i64 k ∧ Hid (∀ j (hj : j < l.length), j < k → p l[j] = false)) (fun _ s8 => l.length - (intOf s8).toNat)
  case atStart => exact ⟨0, Nat.zero_le _, by go_num, fun j hj h => absurd h (by omega)⟩
  case round =>
    obtain ⟨k, hk, rfl, hall⟩ := hrel
    have hk1 : (0 : Int) ≤ (k : Int) := Int.natCast_nonneg _
    by_cases hlt : k < l.length
    · have hi2 : (k : Int) < (l.length : Int) := by omega
      obtain ⟨b, off, rfl, _, d0⟩ := h.out.at_ hlt
      have hcall := hide (hp.out _ (List.getElem_mem hlt))
      have hh := hide (fun g => hhit.out k hlt g hall.out)
      have hst : Hid (p l[k] = false → ∀ j (hj : j < l.length), j < k + 1 → p l[j] = false) := fun g j hj hjk => by
        by_cases e : j = k
        · subst e; exact g
        · exact hall.out j hj (by omega)
      clear hall
      generalize l[k] = x at *
      go_wp2_with fail
      refine hcall.out.mono ?_
      rintro e W2 ⟨rfl, rfl⟩
      cases hpx : p x with
      | true =>
        have hr := hide (hh.out hpx)
        clear hpx hh hst hcall
        go_wp2
        go_ret
        exact ⟨ret_int hr.out.symm, rfl⟩
      | false =>
        have hr := hide (hst.out hpx)
        clear hpx hh hst hcall
        go_wp2
        go_round
        case rel => exact ⟨k + 1, by omega, by go_num, hr⟩
        case measure => simp [intOf]; omega
    · have hr := hide (hnone.out fun j hj => hall.out j hj (by omega))
      go_wp2
      go_ret
      exact ⟨ret_int hr.out.symm, rfl⟩
theorem containsF_any (f : Nat) (hf : ∀ args w, (callFunc f args).run Tryz.prog w = .ok (.enter f args) w) (lb : Array Value) (p : Int → Bool) (A : Option Addr) (c : Nat) (l : List Int) (K : Nat → Prop) (w : World) (h : IntS w K (.slice A l.length c) l) (hl : l.length ≤ 1000000000)
    (hp : ∀ x ∈ l, Calls Tryz.prog f (#[.int .i64 x] ++ lb) w fun e W' => e = .returned (.bool (p x)) ∧ w = W') :
    Calls Tryz.prog 171 #[.slice A l.length c, .func (.func f) #[] lb] w fun e w' => e = .returned (.bool (l.any p)) ∧ w = w' := by
  have hd := hide (idxP_any p l)
  have hcall := hide (indexF_any f hf lb p A c l K w h hl hp)
  clear hp hf h
  go_enter Tryz.func171, Tryz.ntmps171
  go_wp2_with fail
  refine hcall.out.mono ?_
  rintro e w1 ⟨rfl, rfl⟩
  clear hcall
  go_wp2
  go_ret
  exact ⟨by rw [← hd.out]; rfl, rfl⟩
/-- Not a fresh number. -/
def badN (n : Nat) (path : List Int) (t : Int) : Bool := decide (t < 0) || decide ((n : Int) ≤ t) || path.contains t
theorem freshW_eq (n : Nat) (l path : List Int) : freshW n l path = !(l.any (badN n path)) := by
  rw [Bool.eq_iff_iff]
  unfold freshW badN
  simp only [List.all_eq_true, Bool.not_eq_true', List.any_eq_false, Bool.or_eq_true, Bool.and_eq_true, decide_eq_true_eq, not_or]
  refine forall_congr' fun t => imp_congr_right fun _ => ?_
  constructor
  · rintro ⟨⟨h1, h2⟩, h3⟩; exact ⟨⟨by omega, by omega⟩, by rw [h3]; simp⟩
  · rintro ⟨⟨h1, h2⟩, h3⟩; exact ⟨⟨by omega, by omega⟩, by simpa using h3⟩
theorem bad30_any (n : Nat) (Ap : Option Addr) (cp : Nat) (path : List Int) (t : Int) (Bn Bp : Nat) (K : Nat → Prop) (w : World) (h : IntS w K (.slice Ap path.length cp) path) (hl : path.length ≤ 1000000000) (hBn : w.cell? ⟨Bn, 0, none⟩ = some (.int .i64 n)) (hBp : w.cell? ⟨Bp, 0, none⟩ = some (.slice Ap path.length cp)) :
    Calls Tryz.prog 172 #[.int .i64 t, .pointer (some ⟨Bn, 0, none⟩), .pointer (some ⟨Bp, 0, none⟩)] w fun e w' => e = .returned (.bool (badN n path t)) ∧ w = w' := by
  by_cases h0 : t < 0
  · have hr : badN n path t = true := by unfold badN; simp [h0]
    have h0b : decide (t < 0) = true := by simpa using h0
    rw [hr]
    clear h0 hr h
    go_enter Tryz.func172, Tryz.ntmps172
    go_wp2
    go_ret
    exact ⟨rfl, rfl⟩
  · have h0b : decide (t < 0) = false := by simpa using h0
    by_cases h1 : (n : Int) ≤ t
    · have hr : badN n path t = true := by unfold badN; simp [h1]
      have h1b : decide (t ≥ (n : Int)) = true := by simpa using h1
      rw [hr]
      clear h0 h1 hr h
      go_enter Tryz.func172, Tryz.ntmps172
      go_wp2
      go_ret
      exact ⟨rfl, rfl⟩
    · have hr : badN n path t = path.contains t := by unfold badN; simp [h0, h1]
      have h1b : decide (t ≥ (n : Int)) = false := by simpa using h1
      rw [hr]
      clear h0 h1 hr
      replace h := hide h
      go_enter Tryz.func172, Tryz.ntmps172
      go_wp2_with fail
      refine (contains_int Ap cp path t K _ h.out (by unfold maxLen; omega)).mono ?_
      rintro e w1 ⟨rfl, rfl⟩
      go_wp2
      go_ret
      exact ⟨by simp, rfl⟩
set_option maxRecDepth 100000 in
theorem fresh30_any (n : Nat) (A : Option Addr) (c : Nat) (l : List Int) (Ap : Option Addr) (cp : Nat) (path : List Int) (K : Nat → Prop) (w : World) (hK : ∀ b, K b → b < w.heap.size) (h : IntS w K (.slice A l.length c) l) (hl : l.length ≤ 1000000000) (hP : IntS w K (.slice Ap path.length cp) path) (hlp : path.length ≤ 1000000000) :
    Calls Tryz.prog 110 #[.int .i64 n, .slice A l.length c, .slice Ap path.length cp] w fun e w' => e = .returned (.bool (freshW n l path)) ∧ Below w.heap.size w w' := by
  have hq := hide (freshW_eq n l path)
  obtain ⟨W0, hW0⟩ : ∃ W0, (w.alloc (.cells #[.int .i64 n] 3)).alloc (.cells #[.slice Ap path.length cp] 27) = W0 := ⟨_, rfl⟩
  have hB := below_two hW0
  have k0 := Blk.two1 hW0
  have k1 := Blk.two2 hW0
  have hL := h.keep (Agree.below hB hK) (fun _ h => h)
  have hP2 := hP.keep (Agree.below hB hK) (fun _ h => h)
  have hcall := hide (containsF_any 172 (enters_of Tryz.func172 (by kernel_rfl) rfl) #[.pointer (some ⟨w.heap.size, 0, none⟩), .pointer (some ⟨w.heap.size + 1, 0, none⟩)] (badN n path) A c l K W0 hL hl (fun x _ =>
    bad30_any n Ap cp path x w.heap.size (w.heap.size + 1) K W0 hP2 hlp (by have := k0.cell 0; simpa using this) (by have := k1.cell 0; simpa using this)))
  clear h hP hL hP2 k0 k1
  go_enter Tryz.func110, Tryz.ntmps110
  go_wp2_with fail
  clear hW0
  refine hcall.out.mono ?_
  rintro e w3 ⟨rfl, rfl⟩
  clear hcall
  go_wp2
  go_ret
  exact ⟨by rw [hq.out]; rfl, hB⟩
theorem new30_any (w : World) : Calls Tryz.prog 16 #[] w fun e w' => e = .returned (.agg #[.int .i64 1, .bool false, .slice none 0 0, .slice none 0 0]) ∧ Below w.heap.size w w' := by
  obtain ⟨W0, hW0⟩ : ∃ W0, w.alloc (.cells #[.int .i64 0, .bool false, .slice none 0 0, .slice none 0 0] 30) = W0 := ⟨_, rfl⟩
  have hB := below_allocEq (Below.refl w.heap.size w) hW0 (Nat.le_refl _)
  have k0 := Blk.newEq hW0
  have f0 := k0.frozen 0
  have f1 := k0.frozen 1
  have f2 := k0.frozen 2
  have f3 := k0.frozen 3
  have kF := (((k0.set_ 0 (.int .i64 1)).set_ 1 (.bool false)).set_ 2 (.slice none 0 0)).set_ 3 (.slice none 0 0)
  have hF := (((hB.setCell (p := ⟨w.heap.size, 0, none⟩) (by simp) (.int .i64 1)).setCell (p := ⟨w.heap.size, 1, none⟩) (by simp) (.bool false)).setCell (p := ⟨w.heap.size, 2, none⟩) (by simp) (.slice none 0 0)).setCell (p := ⟨w.heap.size, 3, none⟩) (by simp) (.slice none 0 0)
  simp only [List.setIfInBounds_toArray, List.set_cons_zero, List.set_cons_succ] at kF
  have d0 := kF.cell 0
  have d1 := kF.cell 1
  have d2 := kF.cell 2
  have d3 := kF.cell 3
  have c0 := k0.cell 0
  have c1 := k0.cell 1
  have c2 := k0.cell 2
  have c3 := k0.cell 3
  simp only [List.getElem?_toArray, List.getElem?_cons_zero, List.getElem?_cons_succ] at d0 d1 d2 d3 c0 c1 c2 c3
  go_enter Tryz.func16, Tryz.ntmps16
  go_wp2
  exact bodyPost_ret (v := .agg #[.int .i64 1, .bool false, .slice none 0 0, .slice none 0 0]) (by simp [results, Tryz.results16, go_sem, d0, d1, d2, d3]) rfl ⟨rfl, hF⟩
set_option maxRecDepth 100000 in
/-- A copy of numbers. -/
theorem clone30_any (A : Option Addr) (c : Nat) (l : List Int) (K : Nat → Prop) (w : World) (hK : ∀ b, K b → b < w.heap.size) (h : IntS w K (.slice A l.length c) l) (hl : l.length ≤ 1000000000) :
    Calls Tryz.prog 59 #[.slice A l.length c] w (OutI w l) := by
  obtain ⟨ii, hii, hi1, hi2, hi3⟩ := info_parts infoI10
  replace h := hide h
  cases A with
  | none =>
    have hz : l = [] := by
      rcases Nat.lt_or_ge 0 l.length with g | g
      · obtain ⟨b, off, hA, _⟩ := h.out.at_ g; cases hA
      · exact List.eq_nil_of_length_eq_zero (by omega)
    subst hz
    go_enter Tryz.func59, Tryz.ntmps59
    go_wp2
    exact bodyPost_ret (v := .slice none 0 0) (by simp [results, Tryz.results59, go_sem]) rfl ⟨_, rfl, OwnI.nil _ _, Below.refl _ _⟩
  | some ad =>
    obtain ⟨W0, hW0⟩ : ∃ W0, w.alloc (.cells #[] 3) = W0 := ⟨_, rfl⟩
    have hB := below_allocEq (Below.refl w.heap.size w) hW0 (Nat.le_refl _)
    have k0 := Blk.newEq hW0
    have hS := hide (h.out.keep (Agree.below hB hK) (fun _ h => h))
    have hown : OwnI W0 w.heap.size (.slice (some ⟨w.heap.size, 0, none⟩) 0 0) [] := ⟨rfl, .inr ⟨w.heap.size, 0, #[], rfl, Nat.le_refl _, k0, Nat.le_refl _, Nat.zero_le _, rfl, rfl⟩⟩
    clear k0
    go_enter Tryz.func59, Tryz.ntmps59
    go_wp2_with (at_builtin; go_loud (refine wpList_append_flat (enc := Go.Inq.encI) rfl (.tmp 5) (.tmp 6) 27 rfl w.heap.size 3 ii _ 1 8 Tryz.underlying27 hii hi1 hi2 hi3 rfl (by decide) (.slice (some ⟨w.heap.size, 0, none⟩) 0 0) K [] rfl hown (fun _ => rfl) (.slice (some ad) l.length c) l rfl hS.out Go.Inq.encI_one (by rw [List.length_nil]; unfold maxLen; omega) (by rw [List.length_nil]; omega) hB.size ?_); intro v1 w1 hown1 hg1 hv1)
    go_ret
    exact ⟨_, rfl, hown1, below_grown hB hg1 hB.size (fun k hk => by simp [Value.ownBlock] at hk; omega)⟩
end Go.Proofs.YtjomijnbnbideaaGreatDoor

namespace Go.Inq

theorem riseW_iff : ∀ l : List Int, riseW l = true ↔ ∀ k, 0 < k → (h : k < l.length) → l[k - 1] < l[k]
  | [] => by simp [riseW]
  | [a] => by
    simp only [riseW, true_iff]
    intro k h1 h2
    simp at h2
    omega
  | a :: b :: r => by
    rw [riseW, Bool.and_eq_true, decide_eq_true_eq, riseW_iff (b :: r)]
    constructor
    · rintro ⟨h1, h2⟩ k hk hl
      match k, hk, hl with
      | 1, _, _ => simpa using h1
      | k + 2, _, hl =>
        have := h2 (k + 1) (by omega) (by simp at hl ⊢; omega)
        simpa using this
    · intro h
      refine ⟨h 1 (by omega) (by simp), fun k hk hl => ?_⟩
      obtain ⟨k, rfl⟩ : ∃ j, k = j + 1 := ⟨k - 1, by omega⟩
      have := h (k + 2) (by omega) (by simp at hl ⊢; omega)
      simpa using this
def baseW (H : List Txn) (s : Wd) : Bool := rightH H && decide (1 ≤ s.width) && decide (s.width ≤ 32) && decide (s.path.length ≤ H.length - 1)
def pathW (H : List Txn) (s : Wd) : Bool := (List.range s.path.length).all fun i => freshW H.length [s.path.getD i 0] (s.path.take i)
def leftW (H : List Txn) (s : Wd) : Bool := (List.range s.left.length).all fun i => riseW (s.left.getD i []) && freshW H.length (s.left.getD i []) (s.path.take i)
theorem rightW_eq (H : List Txn) (s : Wd) : rightW H s = (baseW H s && pathW H s && (if s.left = [] then decide (s.path = []) else decide (s.left.length = s.path.length + 1) && leftW H s)) := rfl
theorem rightW_base {H : List Txn} {s : Wd} (h : baseW H s = false) : rightW H s = false := by rw [rightW_eq, h]; rfl
theorem rightW_path {H : List Txn} {s : Wd} {k : Nat} (hk : k < s.path.length) (h : freshW H.length [s.path[k]] (s.path.take k) = false) : rightW H s = false := by
  have : pathW H s = false := by
    unfold pathW
    rw [List.all_eq_false]
    exact ⟨k, List.mem_range.2 hk, by simp only [List.getD_eq_getElem?_getD, List.getElem?_eq_getElem hk, Option.getD_some]; rw [h]; simp⟩
  rw [rightW_eq, this]; simp
theorem pathW_of {H : List Txn} {s : Wd} (h : ∀ k (hk : k < s.path.length), freshW H.length [s.path[k]] (s.path.take k) = true) : pathW H s = true := by
  unfold pathW
  rw [List.all_eq_true]
  intro k hk
  have hk := List.mem_range.1 hk
  simp only [List.getD_eq_getElem?_getD, List.getElem?_eq_getElem hk, Option.getD_some]
  exact h k hk
theorem rightW_len {H : List Txn} {s : Wd} (h : s.left ≠ []) (hl : s.left.length ≠ s.path.length + 1) : rightW H s = false := by
  rw [rightW_eq, if_neg h, decide_eq_false hl]; simp
theorem rightW_row {H : List Txn} {s : Wd} {k : Nat} (hk : k < s.left.length) (h : riseW s.left[k] = false ∨ freshW H.length s.left[k] (s.path.take k) = false) : rightW H s = false := by
  have h0 : s.left ≠ [] := by intro e; rw [e] at hk; simp at hk
  have : leftW H s = false := by
    unfold leftW
    rw [List.all_eq_false]
    refine ⟨k, List.mem_range.2 hk, ?_⟩
    simp only [List.getD_eq_getElem?_getD, List.getElem?_eq_getElem hk, Option.getD_some]
    rcases h with h | h <;> rw [h] <;> simp
  rw [rightW_eq, if_neg h0, this]; simp
theorem leftW_of {H : List Txn} {s : Wd} (h : ∀ k (hk : k < s.left.length), riseW s.left[k] = true ∧ freshW H.length s.left[k] (s.path.take k) = true) : leftW H s = true := by
  unfold leftW
  rw [List.all_eq_true]
  intro k hk
  have hk := List.mem_range.1 hk
  simp only [List.getD_eq_getElem?_getD, List.getElem?_eq_getElem hk, Option.getD_some]
  rw [(h k hk).1, (h k hk).2]; rfl
theorem rightW_yes {H : List Txn} {s : Wd} (hb : baseW H s = true) (hp : pathW H s = true) (h0 : s.left ≠ []) (hl : s.left.length = s.path.length + 1) (h : leftW H s = true) : rightW H s = true := by
  rw [rightW_eq, hb, hp, if_neg h0, decide_eq_true hl, h]; rfl
theorem rightW_nil {H : List Txn} {s : Wd} (hb : baseW H s = true) (hp : pathW H s = true) (h0 : s.left = []) : rightW H s = decide (s.path = []) := by
  rw [rightW_eq, hb, hp, if_pos h0]; rfl
theorem freshW_len {n : Nat} {l path : List Int} (h : freshW n l path = true) {x : Int} (hx : x ∈ l) : 0 ≤ x ∧ x < n ∧ path.contains x = false := by
  unfold freshW at h
  have := List.all_eq_true.1 h x hx
  simp only [Bool.and_eq_true, decide_eq_true_eq, Bool.not_eq_true'] at this
  exact ⟨this.1.1, this.1.2, this.2⟩
def SmallWd (s : Wd) : Prop := s.path.length ≤ 1000000000 ∧ s.left.length ≤ 1000000000 ∧ ∀ l ∈ s.left, l.length ≤ 1000000000
end Go.Inq

namespace Go.Proofs.YtjomijnbnbideaaGreatDoor
open Go.RowKit Go.Inq
set_option maxHeartbeats 8000000
attribute [local go_sem ↓] Go.wp_at_zero Go.wp_at_succ

set_option maxRecDepth 100000 in
theorem right30_any (A : Option Addr) (c : Nat) (H : List Txn) (v : Value) (s : Wd) (w : World) (h : TxnS w (Old w) (.slice A H.length c) H) (hn : SmallH H) (hv : WdS w (Old w) v s) (hs : SmallWd s) :
    Calls Tryz.prog 55 #[.agg #[.slice A H.length c], v] w fun e w' => e = .returned (.bool (rightW H s)) ∧ Below w.heap.size w w' := by
  obtain ⟨Ap, cp, Al, cl, rfl, hP, hL⟩ := hv.form
  obtain ⟨_, _, hcpq, hcp⟩ := SlR.len hP
  injection hcpq with q1 q2 q3
  subst q1 q3
  have hfB := hide (rightW_base (H := H) (s := s))
  have hfP := hide (fun k => rightW_path (H := H) (s := s) (k := k))
  have hfL := hide (rightW_len (H := H) (s := s))
  have hfR := hide (fun k => rightW_row (H := H) (s := s) (k := k))
  have hpW := hide (pathW_of (H := H) (s := s))
  have hlW := hide (leftW_of (H := H) (s := s))
  have hyes := hide (rightW_yes (H := H) (s := s))
  have hnil := hide (rightW_nil (H := H) (s := s))
  have hbW : Hid (baseW H s = (rightH H && decide (1 ≤ s.width) && decide (s.width ≤ 32) && decide (s.path.length ≤ H.length - 1))) := hide rfl
  obtain ⟨width, cut, path, left⟩ := s
  dsimp only at *
  obtain ⟨hs1, hs2, hs3⟩ := hs
  dsimp only at hs1 hs2 hs3
  obtain ⟨W0, hW0⟩ : ∃ W0, (w.alloc (.cells #[.slice A H.length c] 24)).alloc (.cells #[.int .i64 width, .bool cut, .slice Ap path.length cp, .slice Al left.length cl] 30) = W0 := ⟨_, rfl⟩
  have hB := below_two hW0
  have k0 := Blk.two1 hW0
  have k1 := Blk.two2 hW0
  have hT := hide (h.below hB)
  have hP0 := hide (hP.below hB)
  have hL0 := hide (hL.below hB)
  have c0 := k0.cell 0
  simp only [List.getElem?_toArray, List.getElem?_cons_zero, List.getElem?_cons_succ] at c0
  have hH32 : rightH H = true → H.length ≤ 32 := fun h => ((rightH_iff H).1 h).1
  replace hH32 := hide hH32
  replace hn := hide hn
  have hs0 := size_two hW0
  replace hs0 := hide hs0
  replace hs3 := hide hs3
  clear h hP hL hv
  go_enter Tryz.func55, Tryz.ntmps55
  go_wp2_with fail
  clear hW0 c0
  refine (right8_any A c H _ hT.out hn.out).mono ?_
  rintro e w1 ⟨rfl, hb1⟩
  replace k0 := k0.below hb1 k0.lt
  replace k1 := k1.below hb1 k1.lt
  have hP1 := hide (hP0.out.below hb1)
  have hL1 := hide (hL0.out.below hb1)
  have hb := hB.trans (hb1.mono hB.size)
  clear hb1 hB hT hP0 hL0
  have c0 := k1.cell 0
  have c2 := k1.cell 2
  have c3 := k1.cell 3
  simp only [List.getElem?_toArray, List.getElem?_cons_zero, List.getElem?_cons_succ] at c0 c2 c3
  cases hr : rightH H with
  | false =>
    have hres := hide (hfB.out (by rw [hbW.out, hr]; rfl))
    clear hr
    go_wp2
    go_ret
    exact ⟨by rw [hres.out]; rfl, hb⟩
  | true =>
    have h32 := hH32.out hr
    rw [hr] at hbW
    clear hr hH32
    by_cases hw1 : 1 ≤ width
    · have hw1b : decide (width < 1) = false := by simpa using hw1
      by_cases hw2 : width ≤ 32
      · have hw2b : decide (width > 32) = false := by simpa using hw2
        by_cases hp : path.length ≤ H.length - 1
        · have hbase := hide (show baseW H ⟨width, cut, path, left⟩ = true by rw [hbW.out]; simp [hw1, hw2, hp])
          have hmb : decide ((path.length : Int) > max ((H.length : Int) - 1) 0) = false := by simp; omega
          clear hw1 hw2 hp hfB hbW
          go_wp2_with fail
          clear hmb hw1b hw2b c0 c2 c3
          go_loopw [39] (fun s39 wr => ∃ k : Nat, k ≤ path.length ∧ s39 = .int .i64 k ∧ Hid (∀ j (hj : j < path.length), j < k → freshW H.length [path[j]] (path.take j) = true) ∧ Below w1.heap.size w1 wr) (fun s39 _ => path.length - (intOf s39).toNat)
          case atStart => exact ⟨0, Nat.zero_le _, by go_num, fun j hj h => absurd h (by omega), Below.refl _ _⟩
          case round =>
            obtain ⟨k, hk, rfl, hall, hbr⟩ := hrel
            have hk1 : (0 : Int) ≤ (k : Int) := Int.natCast_nonneg _
            have hPr := hide (hP1.out.below hbr)
            have m1 := k1.below hbr k1.lt
            have c2 := m1.cell 2
            have c3 := m1.cell 3
            simp only [List.getElem?_toArray, List.getElem?_cons_zero, List.getElem?_cons_succ] at c2 c3
            have hbF := hb.trans (hbr.mono hb.size)
            by_cases hlt : k < path.length
            · have hi2 : (k : Int) < (path.length : Int) := by omega
              obtain ⟨b, off, rfl, _, d0⟩ := hPr.out.at_ hlt
              have hbad := hide (hfP.out k hlt)
              have hst : Hid (freshW H.length [path[k]] (path.take k) = true → ∀ j (hj : j < path.length), j < k + 1 → freshW H.length [path[j]] (path.take j) = true) := fun g j hj hjk => by
                by_cases e : j = k
                · subst e; exact g
                · exact hall.out j hj (by omega)
              have htk := hide (IntS.take hPr.out hk)
              have hlk : (path.take k).length = k := by rw [List.length_take]; omega
              have hkc : k ≤ cp := by omega
              obtain ⟨W2, hW2⟩ : ∃ W2, wr.alloc (.cells #[.int .i64 path[k]] 3) = W2 := ⟨_, rfl⟩
              have hB2 := below_allocEq (Below.refl wr.heap.size wr) hW2 (Nat.le_refl _)
              have n0 := Blk.newEq hW2
              have hone := hide (IntS.of_blk (l := [path[k]]) (K := Old W2) n0 n0.lt)
              have hcall := hide (fresh30_any H.length (some ⟨wr.heap.size, 0, none⟩) 1 [path[k]] (some ⟨b, off, none⟩) cp (path.take k) (Old W2) W2 (fun b h => h) hone.out (by simp) (by rw [hlk]; exact htk.out.below hB2) (by rw [hlk]; omega))
              rw [hlk] at hcall
              have c2b := (m1.allocEq hW2).cell 2
              simp only [List.getElem?_toArray, List.getElem?_cons_zero, List.getElem?_cons_succ] at c2b
              have hbG := hbF.trans (hB2.mono hbF.size)
              have hbR := hbr.trans (hB2.mono hbr.size)
              clear hall hone n0 hB2 htk hPr m1 hbF hbr hcp
              generalize hfr : freshW H.length [path[k]] (path.take k) = fr at *
              generalize path[k] = x at *
              go_wp2_with fail
              clear hW2 c2b c2 d0
              refine hcall.out.mono ?_
              rintro e W3 ⟨rfl, hb3⟩
              replace hbG := hbG.trans (hb3.mono hbG.size)
              replace hbR := hbR.trans (hb3.mono hbR.size)
              clear hcall hb3
              cases fr with
              | false =>
                have hres := hide (hbad.out rfl)
                clear hst hbad hfr
                go_wp2
                go_ret
                exact ⟨by rw [hres.out]; rfl, hbG⟩
              | true =>
                have hgo := hide (hst.out rfl)
                clear hst hbad hfr
                go_wp2
                go_roundw
                case rel => exact ⟨k + 1, by omega, by go_num, hgo, hbR⟩
                case measure => simp [intOf]; omega
            · have hpw := hide (hpW.out fun j hj => hall.out j hj (by omega))
              have hL2 := hide (hL1.out.below hbr)
              clear hall hP1
              by_cases hl0 : left = []
              · subst hl0
                have hres := hide (hnil.out hbase.out hpw.out rfl)
                have hpe : decide (path = []) = ((path.length : Int) == 0) := by
                  cases path <;> simp
                  omega
                rw [hpe] at hres
                clear hpe
                go_wp2
                go_ret
                exact ⟨by rw [hres.out]; rfl, hbF⟩
              · have hl0n : 0 < left.length := List.length_pos_iff.2 hl0
                have hl0b : ((left.length : Int) == 0) = false := by simp; omega
                by_cases hle : left.length = path.length + 1
                · have hleb : ((left.length : Int) != (path.length : Int) + 1) = false := by rw [hle]; simp
                  have hyes2 := hide (hyes.out hbase.out hpw.out hl0 hle)
                  clear hyes hbase hpw hl0 hfL hnil hfP hpW hL1
                  obtain ⟨Wp, rfl⟩ : ∃ Wp, Wp = wr := ⟨_, rfl⟩
                  replace hle := hide hle
                  go_wp2_with fail
                  clear c2 c3 hl0n hl0b hleb hlt k1 k0 hbr hk hk1
                  go_loopw [73] (fun s73 wq => ∃ k : Nat, k ≤ left.length ∧ s73 = .int .i64 k ∧ Hid (∀ j (hj : j < left.length), j < k → riseW left[j] = true ∧ freshW H.length left[j] (path.take j) = true) ∧ Below Wp.heap.size Wp wq) (fun s73 _ => left.length - (intOf s73).toNat)
                  case atStart => exact ⟨0, Nat.zero_le _, by go_num, fun j hj h => absurd h (by omega), Below.refl _ _⟩
                  case round =>
                    obtain ⟨Wo, rfl⟩ : ∃ Wo, Wo = wr := ⟨_, rfl⟩
                    obtain ⟨i, hi, rfl, hall, hbr⟩ := hrel
                    have hk1 : (0 : Int) ≤ (i : Int) := Int.natCast_nonneg _
                    have hPo := hide (hPr.out.below hbr)
                    have m2 := m1.below hbr m1.lt
                    have hbG := hbF.trans (hbr.mono hbF.size)
                    by_cases hlt : i < left.length
                    · have hi2 : (i : Int) < (left.length : Int) := by omega
                      have hip : i ≤ path.length := by have := hle.out; omega
                      obtain ⟨bl, ol, Ar, cr, rfl, _, d0, hrow⟩ := (hL2.out.below hbr).at_ hlt
                      have hrl := hs3.out _ (List.getElem_mem hlt)
                      have hbad := hide (hfR.out i hlt)
                      have hst : Hid (riseW left[i] = true ∧ freshW H.length left[i] (path.take i) = true → ∀ j (hj : j < left.length), j < i + 1 → riseW left[j] = true ∧ freshW H.length left[j] (path.take j) = true) := fun g j hj hjk => by
                        by_cases e : j = i
                        · subst e; exact g
                        · exact hall.out j hj (by omega)
                      have hri := hide (riseW_iff left[i])
                      clear hall
                      generalize left[i] = row at *
                      replace hrow := hide hrow
                      go_wp2_with fail
                      clear d0
                      go_loopw [10] (fun s10 wq => ∃ j : Nat, (row.length = 0 ∧ j = 0 ∨ j < row.length) ∧ s10 = .int .i64 ((j : Int) + 1) ∧ Hid (∀ q, 0 < q → (h : q < row.length) → q < j + 1 → row[q - 1] < row[q]) ∧ Below Wo.heap.size Wo wq) (fun s10 _ => row.length - (intOf s10).toNat)
                      case atStart => exact ⟨0, by omega, by go_num, fun q h1 h2 h3 => absurd h3 (by omega), Below.refl _ _⟩
                      case round =>
                        obtain ⟨j, hj, rfl, hup, hbq⟩ := hrel
                        have hj1 : (0 : Int) ≤ (j : Int) := Int.natCast_nonneg _
                        by_cases hjl : j + 1 < row.length
                        · have hj2 : ((j : Int) + 1) < (row.length : Int) := by omega
                          have hj3 : (j : Int) < (row.length : Int) := by omega
                          obtain ⟨b, off, rfl, _, x0⟩ := (hrow.out.below hbq).at_ (i := j) (by omega)
                          have x1 := ((hrow.out.below hbq).cells (i := j + 1) hjl).2
                          have hup2 : Hid (row[j] < row[j + 1] → ∀ q, 0 < q → (h : q < row.length) → q < j + 1 + 1 → row[q - 1] < row[q]) := fun g q h1 h2 h3 => by
                            by_cases e : q = j + 1
                            · subst e; exact g
                            · exact hup.out q h1 h2 (by omega)
                          have hno : Hid (¬ row[j] < row[j + 1] → riseW row = false) := fun g => by
                            cases hrr : riseW row with
                            | false => rfl
                            | true => exact absurd (hri.out.1 hrr (j + 1) (by omega) hjl) g
                          clear hup
                          generalize row[j] = x at *
                          generalize row[j + 1] = y at *
                          by_cases hxy : x < y
                          · have hb1 : decide (x ≥ y) = false := by simp; omega
                            have hgo := hide (hup2.out hxy)
                            clear hno hup2 hxy
                            go_wp2_with fail
                            go_quiet (fail)
                            go_wp2
                            go_roundw
                            case rel => exact ⟨j + 1, by omega, by go_num, hgo, hbq.trans ⟨rfl, rfl, rfl, Nat.le_refl _, fun _ _ => rfl⟩⟩
                            case measure => simp [intOf]; omega
                          · have hb1 : decide (x ≥ y) = true := by simp; omega
                            have hres := hide (hbad.out (.inl (hno.out hxy)))
                            clear hno hup2 hxy
                            go_wp2_with fail
                            go_quiet (fail)
                            go_wp2
                            go_ret
                            exact ⟨by rw [hres.out]; rfl, (hbG.trans (hbq.mono hbG.size)).trans ⟨rfl, rfl, rfl, Nat.le_refl _, fun _ _ => rfl⟩⟩
                        · have hrise := hide (hri.out.2 fun q h1 h2 => hup.out q h1 h2 (by omega))
                          have hj2 : ((j : Int) + 1) ≥ (row.length : Int) := by omega
                          have m3 := m2.below hbq m2.lt
                          have c2 := m3.cell 2
                          simp only [List.getElem?_toArray, List.getElem?_cons_zero, List.getElem?_cons_succ] at c2
                          have hlk : (path.take i).length = i := by rw [List.length_take]; omega
                          have hkc : i ≤ cp := by omega
                          have htk := (IntS.take hPo.out hip).below hbq
                          have hcall := hide (fresh30_any H.length Ar cr row Ap cp (path.take i) (Old wr) wr (fun b h => h) (hrow.out.below hbq) hrl (by rw [hlk]; exact htk) (by rw [hlk]; omega))
                          rw [hlk] at hcall
                          have hbR := hbr.trans (hbq.mono hbr.size)
                          have hbS := hbG.trans (hbq.mono hbG.size)
                          clear hri hup hrow htk m2 m3 hPo hbG hbr hbq m1 hlk hj hjl
                          generalize hfr : freshW H.length row (path.take i) = fr at *
                          go_wp2_with fail
                          clear c2
                          refine hcall.out.mono ?_
                          rintro e W3 ⟨rfl, hb3⟩
                          replace hbS := hbS.trans (hb3.mono hbS.size)
                          replace hbR := hbR.trans (hb3.mono hbR.size)
                          clear hcall hb3
                          cases fr with
                          | false =>
                            have hres := hide (hbad.out (.inr rfl))
                            clear hst hbad hfr
                            go_wp2
                            go_ret
                            exact ⟨by rw [hres.out]; rfl, hbS⟩
                          | true =>
                            have hgo := hide (hst.out ⟨hrise.out, rfl⟩)
                            clear hst hbad hfr
                            go_wp2
                            go_roundw
                            case rel => exact ⟨i + 1, by omega, by go_num, hgo, hbR⟩
                            case measure => simp [intOf]; omega
                    · have hres := hide (hyes2.out (hlW.out fun j hj => hall.out j hj (by omega)))
                      go_wp2
                      go_ret
                      exact ⟨by rw [hres.out]; rfl, hbG⟩
                · have hleb : ((left.length : Int) != (path.length : Int) + 1) = true := by simp; omega
                  have hres := hide (hfL.out hl0 hle)
                  go_wp2
                  go_ret
                  exact ⟨by rw [hres.out]; rfl, hbF⟩
        · have hres := hide (hfB.out (by rw [hbW.out]; simp [hp]))
          have hmb : decide ((path.length : Int) > max ((H.length : Int) - 1) 0) = true := by simp; omega
          clear hp hw1 hw2
          go_wp2
          go_ret
          exact ⟨by rw [hres.out]; rfl, hb⟩
      · have hw2b : decide (width > 32) = true := by simpa using hw2
        have hres := hide (hfB.out (by rw [hbW.out]; simp [hw2]))
        clear hw2
        go_wp2
        go_ret
        exact ⟨by rw [hres.out]; rfl, hb⟩
    · have hw1b : decide (width < 1) = true := by simpa using hw1
      have hres := hide (hfB.out (by rw [hbW.out]; simp [hw1]))
      clear hw1
      go_wp2
      go_ret
      exact ⟨by rw [hres.out]; rfl, hb⟩
end Go.Proofs.YtjomijnbnbideaaGreatDoor

namespace Go.Proofs.YtjomijnbnbideaaGreatDoor
open Go.RowKit Go.Inq
set_option maxHeartbeats 1000000
attribute [local go_sem ↓] Go.wp_at_zero Go.wp_at_succ

theorem idxI_some {l : List Int} {x : Int} {i : Nat} (h : l.idxOf? x = some i) : idxI l x = i := by
  unfold idxI
  have : l.findIdx? (· == x) = some i := h
  rw [this]
theorem idxI_no {l : List Int} {x : Int} (h : l.idxOf? x = none) : idxI l x = -1 := by
  unfold idxI
  have : l.findIdx? (· == x) = none := h
  rw [this]
theorem turnC_none {path : List Int} {p : Cho} (h1 : idxI path p.a < 0) (h2 : idxI path p.b < 0) : turnC path p = none := by
  unfold turnC
  cases ha : path.idxOf? p.a with
  | some i => rw [idxI_some ha] at h1; omega
  | none =>
    cases hb : path.idxOf? p.b with
    | some i => rw [idxI_some hb] at h2; omega
    | none => rfl
theorem turnC_turn {path : List Int} {p : Cho} (h0 : ¬ (idxI path p.a < 0 ∧ idxI path p.b < 0)) (h : idxI path p.a < 0 ∨ (0 ≤ idxI path p.b ∧ idxI path p.b < idxI path p.a)) : turnC path p = some ⟨p.key, p.b, p.a⟩ := by
  unfold turnC
  cases ha : path.idxOf? p.a with
  | some i =>
    rw [idxI_some ha] at h h0
    cases hb : path.idxOf? p.b with
    | some j =>
      rw [idxI_some hb] at h h0
      dsimp only
      rw [if_pos (by omega)]
    | none => rw [idxI_no hb] at h; omega
  | none =>
    rw [idxI_no ha] at h h0
    cases hb : path.idxOf? p.b with
    | some j => rfl
    | none => rw [idxI_no hb] at h0; omega
theorem turnC_same {path : List Int} {p : Cho} (h : ¬ (idxI path p.a < 0 ∨ (0 ≤ idxI path p.b ∧ idxI path p.b < idxI path p.a))) : turnC path p = some p := by
  unfold turnC
  cases ha : path.idxOf? p.a with
  | some i =>
    rw [idxI_some ha] at h
    cases hb : path.idxOf? p.b with
    | some j =>
      rw [idxI_some hb] at h
      dsimp only
      rw [if_neg (by omega)]
    | none => rfl
  | none => rw [idxI_no ha] at h; omega
theorem dec_snoc (path : List Int) (l : List Cho) (x : Cho) : (l ++ [x]).filterMap (turnC path) = l.filterMap (turnC path) ++ (match turnC path x with | some y => [y] | none => []) := by
  rw [List.filterMap_append]
  congr 1
  cases h : turnC path x <;> simp [h]
theorem own_base' {w : World} {base base' : Nat} {e : TypeId} {size n : Nat} {v : Value} {xs : List Value} (h : w.ownsRow base e size v n xs) (hb : base' ≤ base) : w.ownsRow base' e size v n xs := by
  refine ⟨h.1, ?_⟩
  rcases h.2 with h2 | ⟨g, cap, cur, hv, hg, r⟩
  · exact .inl h2
  · exact .inr ⟨g, cap, cur, hv, Nat.le_trans hb hg, r⟩
set_option maxRecDepth 100000 in
theorem dec30_any (A : Option Addr) (c : Nat) (H : List Txn) (Ap : Option Addr) (cp : Nat) (path : List Int) (w : World) (h : TxnS w (Old w) (.slice A H.length c) H) (hn : SmallH H) (hr : rightH H = true) (hP : IntS w (Old w) (.slice Ap path.length cp) path) (hpl : path.length ≤ 1000000000) :
    Calls Tryz.prog 60 #[.agg #[.slice A H.length c], .slice Ap path.length cp] w (OutC w (decW H path)) := by
  obtain ⟨ic, hic, hi1, hi2, hi3⟩ := info_parts infoC9
  obtain ⟨W0, hW0⟩ : ∃ W0, w.alloc (.cells #[.slice A H.length c] 24) = W0 := ⟨_, rfl⟩
  have hB := below_allocEq (Below.refl w.heap.size w) hW0 (Nat.le_refl _)
  have k0 := Blk.newEq hW0
  have hT := hide (h.below hB)
  have hP0 := hide (hP.below hB)
  have c0 := k0.cell 0
  simp only [List.getElem?_toArray, List.getElem?_cons_zero, List.getElem?_cons_succ] at c0
  have hLn := pairsL_len hr
  have hdef : Hid (decW H path = (pairsL H).filterMap (turnC path)) := hide rfl
  replace hn := hide hn
  replace hr := hide hr
  clear h hP k0
  go_enter Tryz.func60, Tryz.ntmps60
  go_wp2_with fail
  clear hW0 c0
  refine (pairs9_any A c H _ hT.out hn.out hr.out).mono ?_
  rintro e w1 ⟨vL, rfl, hLO, hb1⟩
  have hP1 := hide (hP0.out.below hb1)
  have hL := hide (hLO.sl (K := Old w1) (fun g _ h => h))
  obtain ⟨AL, cL, rfl⟩ := hLO.form
  have hb := hB.trans (hb1.mono hB.size)
  clear hLO hb1 hB hT hP0
  generalize pairsL H = L at *
  go_wp2_with fail
  go_loopw [5, 13] (fun s5 s13 wr => ∃ k : Nat, k ≤ L.length ∧ s13 = .int .i64 k ∧ OwnC wr w1.heap.size s5 ((L.take k).filterMap (turnC path)) ∧ Below w1.heap.size w1 wr) (fun _ s13 _ => L.length - (intOf s13).toNat)
  case atStart => exact ⟨0, Nat.zero_le _, by go_num, OwnC.nil _ _, Below.refl _ _⟩
  case round =>
    obtain ⟨k, hk, rfl, hown, hbr⟩ := hrel
    have hk1 : (0 : Int) ≤ (k : Int) := Int.natCast_nonneg _
    have hbF := hb.trans (hbr.mono hb.size)
    by_cases hlt : k < L.length
    · have hil2 : (k : Int) < (L.length : Int) := by omega
      obtain ⟨b, off, rfl, _, d0, d1, d2⟩ := (hL.out.below hbr).at_ hlt
      have hst := hide (dec_snoc path (L.take k) L[k])
      rw [← take_snoc' hlt] at hst
      have hnon := hide (turnC_none (path := path) (p := L[k]))
      have htur := hide (turnC_turn (path := path) (p := L[k]))
      have hsam := hide (turnC_same (path := path) (p := L[k]))
      have hll : ((L.take k).filterMap (turnC path)).length ≤ k := Nat.le_trans (List.length_filterMap_le _ _) (by rw [List.length_take]; omega)
      generalize hDe : (L.take (k + 1)).filterMap (turnC path) = D' at *
      generalize (L.take k).filterMap (turnC path) = D at *
      generalize L[k] = p at *
      obtain ⟨key, a, b2⟩ := p
      dsimp only at *
      obtain ⟨W2, hW2⟩ : ∃ W2, wr.alloc (.cells #[.int .i64 key, .int .i64 a, .int .i64 b2] 49) = W2 := ⟨_, rfl⟩
      have hB2 := below_allocEq (Below.refl wr.heap.size wr) hW2 (Nat.le_refl _)
      have n0 := Blk.newEq hW2
      have e0 := n0.cell 0
      have e1 := n0.cell 1
      have e2 := n0.cell 2
      simp only [List.getElem?_toArray, List.getElem?_cons_zero, List.getElem?_cons_succ] at e0 e1 e2
      have hP2 := hide ((hP1.out.below hbr).below hB2)
      obtain ⟨As, cs, rfl⟩ := hown.form
      have hown2 : OwnC W2 w1.heap.size _ D := own_below hown hB2 (Nat.le_refl _)
      have hbW := hbr.trans (hB2.mono hbr.size)
      have hsW := hB2.size
      have hrs := hbr.size
      have hfar := hide (fun g hg => (hown.lt g hg).2)
      clear hown hbr hbF
      have hca := hide (fun W z (hq : IntS W (Old W2) (.slice Ap path.length cp) path) => (index_int Ap cp path z (Old W2) W hq (by unfold maxLen; omega)).mono fun _ _ h => (⟨h.1, h.2.symm⟩ : _ ∧ _))
      replace n0 := hide n0
      go_wp2_with fail
      go_quiet ((go_at_call 115; exact Calls.quiet_of_same (hca.out _ _ (hP2.out.keep (Agree.drewN _ _ _) (fun _ h => h)))))
      generalize idxI path a = x at *
      generalize idxI path b2 = y at *
      have hkD : D.length + 1 ≤ maxLen := by unfold maxLen; omega
      have hkb : (D.length + 1) * 24 ≤ 140737488355328 := by omega
      have hj : decide (x < 0) = decide (x < 0) := rfl
      by_cases hn2 : x < 0 ∧ y < 0
      · have q1 : decide (x < 0) = true := by simpa using hn2.1
        have q2 : decide (y < 0) = true := by simpa using hn2.2
        have hD : D' = D := by rw [hst.out, hnon.out hn2.1 hn2.2, List.append_nil]
        rw [hD] at hDe
        replace hDe := hide hDe
        clear hn2 htur hsam hnon hst hD
        go_wp2
        go_roundw
        case rel => exact ⟨k + 1, by omega, by go_num, by rw [hDe.out]; exact own_drewN hown2 _, hbW.trans ⟨rfl, rfl, rfl, Nat.le_refl _, fun _ _ => rfl⟩⟩
        case measure => simp [intOf]; omega
      · by_cases ht : x < 0 ∨ (0 ≤ y ∧ y < x)
        · have hD : D' = D ++ [⟨key, b2, a⟩] := by rw [hst.out, htur.out hn2 ht]
          rw [hD] at hDe
          replace hDe := hide hDe
          replace hn2 := hide hn2
          replace ht := hide ht
          clear htur hsam hnon hst hD
          have hne1 : (Value.slice As D.length cs).ownBlock ≠ some wr.heap.size := fun e => Nat.lt_irrefl _ (hfar.out _ e)
          have hown3 : (((W2.drewN nq).setCell ⟨wr.heap.size, 1, none⟩ (.int .i64 b2)).setCell ⟨wr.heap.size, 2, none⟩ (.int .i64 a)).ownsRow w1.heap.size 49 3 (.slice As D.length cs) D.length (D.map encC).flatten :=
            own_setCell (own_setCell (own_drewN hown2 nq) (p := ⟨wr.heap.size, 1, none⟩) hne1 _) (p := ⟨wr.heap.size, 2, none⟩) hne1 _
          have hbX : Below w1.heap.size w1 (((W2.drewN nq).setCell ⟨wr.heap.size, 1, none⟩ (.int .i64 b2)).setCell ⟨wr.heap.size, 2, none⟩ (.int .i64 a)) :=
            ((hbW.trans ⟨rfl, rfl, rfl, Nat.le_refl _, fun _ _ => rfl⟩ : Below w1.heap.size w1 (W2.drewN nq)).setCell (p := ⟨wr.heap.size, 1, none⟩) hrs _).setCell (p := ⟨wr.heap.size, 2, none⟩) hrs _
          clear hne1
          have f1 := n0.out.frozen 1
          have f2 := n0.out.frozen 2
          by_cases q1 : x < 0
          · have q1b : decide (x < 0) = true := by simpa using q1
            have q2b : decide (y < 0) = false := by have := hn2.out; simp; omega
            clear q1
            go_wp2_with (at_builtin; go_loud (refine wpList_push (enc := encC) rfl (.tmp 48) (.tmp 50) 61 rfl w1.heap.size 49 ic _ 3 24 Tryz.underlying61 hic hi1 hi2 hi3 rfl (by decide) (.slice As D.length cs) D rfl hown3 (fun _ => rfl) (⟨key, b2, a⟩ : Cho) _ rfl (by first | rfl | (simp [Act.eval]; done) | (simp; rfl)) encC_one hkD hkb (by simp; omega) w1 w1.heap.size (Nat.le_refl _) hbX ?_); intro v1 w6 hown1 hg1 hb1 hat1)
            go_roundw
            case rel => exact ⟨k + 1, by omega, by go_num, by rw [hDe.out]; exact hown1, hb1⟩
            case measure => simp [intOf]; omega
          · have q1b : decide (x < 0) = false := by simpa using q1
            have q3b : decide (y ≥ 0) = true := by have := ht.out; simp; omega
            have q4b : decide (y < x) = true := by have := ht.out; simp; omega
            clear q1
            go_wp2_with (at_builtin; go_loud (refine wpList_push (enc := encC) rfl (.tmp 48) (.tmp 50) 61 rfl w1.heap.size 49 ic _ 3 24 Tryz.underlying61 hic hi1 hi2 hi3 rfl (by decide) (.slice As D.length cs) D rfl hown3 (fun _ => rfl) (⟨key, b2, a⟩ : Cho) _ rfl (by first | rfl | (simp [Act.eval]; done) | (simp; rfl)) encC_one hkD hkb (by simp; omega) w1 w1.heap.size (Nat.le_refl _) hbX ?_); intro v1 w6 hown1 hg1 hb1 hat1)
            go_roundw
            case rel => exact ⟨k + 1, by omega, by go_num, by rw [hDe.out]; exact hown1, hb1⟩
            case measure => simp [intOf]; omega
        · have hD : D' = D ++ [⟨key, a, b2⟩] := by rw [hst.out, hsam.out ht]
          rw [hD] at hDe
          replace hDe := hide hDe
          replace ht := hide ht
          clear htur hsam hnon hst hD
          have q1b : decide (x < 0) = false := by have := ht.out; simp; omega
          by_cases q3 : 0 ≤ y
          · have q3b : decide (y ≥ 0) = true := by simpa using q3
            have q4b : decide (y < x) = false := by have := ht.out; simp; omega
            clear q3
            go_wp2_with (at_builtin; go_loud (refine wpList_push (enc := encC) rfl (.tmp 48) (.tmp 50) 61 rfl w1.heap.size 49 ic _ 3 24 Tryz.underlying61 hic hi1 hi2 hi3 rfl (by decide) (.slice As D.length cs) D rfl (own_drewN hown2 _) (fun _ => rfl) (⟨key, a, b2⟩ : Cho) _ rfl rfl encC_one hkD hkb (Nat.le_trans hrs hsW) w1 w1.heap.size (Nat.le_refl _) (hbW.trans ⟨rfl, rfl, rfl, Nat.le_refl _, fun _ _ => rfl⟩) ?_); intro v1 w6 hown1 hg1 hb1 hat1)
            go_roundw
            case rel => exact ⟨k + 1, by omega, by go_num, by rw [hDe.out]; exact hown1, hb1⟩
            case measure => simp [intOf]; omega
          · have q3b : decide (y ≥ 0) = false := by simpa using q3
            clear q3
            go_wp2_with (at_builtin; go_loud (refine wpList_push (enc := encC) rfl (.tmp 48) (.tmp 50) 61 rfl w1.heap.size 49 ic _ 3 24 Tryz.underlying61 hic hi1 hi2 hi3 rfl (by decide) (.slice As D.length cs) D rfl (own_drewN hown2 _) (fun _ => rfl) (⟨key, a, b2⟩ : Cho) _ rfl rfl encC_one hkD hkb (Nat.le_trans hrs hsW) w1 w1.heap.size (Nat.le_refl _) (hbW.trans ⟨rfl, rfl, rfl, Nat.le_refl _, fun _ _ => rfl⟩) ?_); intro v1 w6 hown1 hg1 hb1 hat1)
            go_roundw
            case rel => exact ⟨k + 1, by omega, by go_num, by rw [hDe.out]; exact hown1, hb1⟩
            case measure => simp [intOf]; omega
    · obtain rfl : k = L.length := by omega
      rw [List.take_length] at hown
      clear hL hP1
      go_wp2
      go_ret
      exact ⟨_, rfl, by rw [hdef.out]; exact own_base' hown hb.size, hbF⟩
end Go.Proofs.YtjomijnbnbideaaGreatDoor

namespace Go.Proofs.YtjomijnbnbideaaGreatDoor
open Go.RowKit Go.Inq
set_option maxHeartbeats 4000000
attribute [local go_sem ↓] Go.wp_at_zero Go.wp_at_succ

/-- A row of sets that grows. -/
def OwnU (w : World) (base : Nat) (v : Value) (l : List Nat) : Prop := w.ownsRow base 145 1 v l.length (l.map encU).flatten
theorem encU_one12 (x : Nat) : ∀ u ∈ encU x, u.oneCell' = true := by intro u hu; simp [encU] at hu; subst hu; rfl
theorem OwnU.form {w : World} {base : Nat} {v : Value} {l : List Nat} (h : OwnU w base v l) : ∃ A c, v = .slice A l.length c := own_slice h
/-- A reference's graph: rows of the call's own, with room perhaps. -/
def RG (W : World) (base n : Nat) (E : Edges) (v : Value) : Prop :=
  (n = 0 ∧ v = .slice none 0 0) ∨ ∃ g cap cur, v = .slice (some ⟨g, 0, none⟩) n cap ∧ base ≤ g ∧ Blk W g 145 cur ∧ n ≤ cap ∧ cap ≤ maxLen ∧ cur.size = cap ∧ ∀ i, i < n → cur[i]? = some (.int .u64 (setB (E i) n : Nat))
theorem RG.of_own {W : World} {base n : Nat} {E : Edges} {v : Value} (h : OwnU W base v (rowsG n E)) : RG W base n E v := by
  obtain ⟨h1, h2⟩ := h
  rw [rowsG_length] at h2
  rcases h2 with ⟨h3, h4⟩ | ⟨g, cap, cur, h3, h4, h5, h6, h7, h8, h9⟩
  · exact .inl ⟨h4, h3⟩
  · refine .inr ⟨g, cap, cur, h3, h4, h5, h6, h7, by rw [h8]; simp, fun i hi => ?_⟩
    have h10 : (cur.toList.take (n * 1))[i]? = some (.int .u64 (setB (E i) n : Nat)) := by
      rw [h9]
      have : ∀ l : List Nat, (l.map encU).flatten = l.map fun x : Nat => Value.int .u64 x := fun l => by
        induction l with
        | nil => rfl
        | cons a l ih => simp [encU] at ih ⊢; exact ih
      rw [this, List.getElem?_map, List.getElem?_eq_getElem (by rw [rowsG_length]; exact hi), rowsG_at hi]
      rfl
    rw [List.getElem?_take] at h10
    split at h10
    · simpa using h10
    · cases h10
theorem rowsG_no (n : Nat) : rowsG n noE = List.replicate n 0 := by
  unfold rowsG
  rw [List.eq_replicate_iff]
  refine ⟨by simp, fun x hx => ?_⟩
  obtain ⟨a, _, rfl⟩ := List.mem_map.1 hx
  refine Nat.eq_of_testBit_eq fun j => ?_
  rw [testBit_setB]
  simp [noE]
/-- What New tells: a graph with no edge, in memory of its own. -/
def OutR (w : World) (n : Nat) (E : Edges) (e : Ending) (w' : World) : Prop := ∃ v, e = .returned (.agg #[.int .i64 n, v]) ∧ RG w' w.heap.size n E v ∧ Below w.heap.size w w'
set_option maxRecDepth 100000 in
theorem rnew12_any (n : Nat) (hn : n ≤ 64) (w : World) : Calls Tryz.prog 180 #[.int .i64 (n : Int)] w (OutR w n noE) := by
  obtain ⟨iu, hiu, hi1, hi2, hi3⟩ := info_parts infoU12
  go_enter Tryz.func180, Tryz.ntmps180
  go_upto_region 2 with fail
  obtain ⟨W0, hW0⟩ : ∃ W0, (w.alloc (.cells #[.int .i64 0, .slice none 0 0] 124)).alloc (.cells #[.int .i64 n, .slice none 0 0] 124) = W0 := ⟨_, rfl⟩
  have hb := below_two hW0
  have k1 := Blk.two1 hW0
  have k2 := Blk.two2 hW0
  have s0 := size_two hW0
  rw [hW0]
  clear hW0
  replace s0 := hide s0
  go_wp2_with fail
  go_loopw [4] (fun s4 wr => ∃ k : Nat, k ≤ n ∧ s4 = .int .i64 k ∧ ∃ v, Blk wr w.heap.size 124 #[.int .i64 0, .slice none 0 0] ∧ Blk wr (w.heap.size + 1) 124 #[.int .i64 n, v] ∧ OwnU wr (w.heap.size + 2) v (List.replicate k 0) ∧ Below w.heap.size w wr) (fun s4 _ => n - (intOf s4).toNat)
  case atStart => exact ⟨0, Nat.zero_le _, by go_num, _, k1, k2, World.ownsRow_nil _ _ _ _, hb⟩
  case round =>
    obtain ⟨k, hk, rfl, v, m1, m2, hown, hbr⟩ := hrel
    obtain ⟨Wr, rfl⟩ : ∃ Wr, Wr = wr := ⟨_, rfl⟩
    have hk1 : (0 : Int) ≤ (k : Int) := Int.natCast_nonneg _
    obtain ⟨A, c, rfl⟩ := OwnU.form hown
    have c0 := m2.cell 0
    have c1 := m2.cell 1
    have f1 := m2.frozen 1
    have m2l := m2.lt
    simp only [List.getElem?_toArray, List.getElem?_cons_zero, List.getElem?_cons_succ] at c0 c1
    by_cases hlt : k < n
    · have hki : (k : Int) < (n : Int) := by omega
      have hll : (List.replicate k 0).length = k := List.length_replicate
      have hkD : (List.replicate k (0 : Nat)).length + 1 ≤ maxLen := by unfold maxLen; simp; omega
      have hkb : ((List.replicate k (0 : Nat)).length + 1) * 8 ≤ 140737488355328 := by simp; omega
      have hsn : Hid (List.replicate k (0 : Nat) ++ [0] = List.replicate (k + 1) 0) := hide (by rw [List.replicate_succ'])
      clear hll
      generalize List.replicate k (0 : Nat) = D at *
      have hsz : w.heap.size + 2 ≤ Wr.heap.size := by omega
      have hfar : ∀ g, (Value.slice A D.length c).ownBlock = some g → w.heap.size + 2 ≤ g := fun g hg => (hown.lt g hg).1
      replace hown := hide hown
      replace hfar := hide hfar
      go_upto_region 5 with fail
      go_wp2_with (at_builtin; go_loud (refine wpList_push (enc := encU) rfl (.tmp 13) (.tmp 14) 54 rfl (w.heap.size + 2) 145 iu _ 1 8 Tryz.underlying54 hiu hi1 hi2 hi3 rfl (by decide) (.slice A D.length c) D rfl hown.out (fun _ => rfl) 0 _ rfl rfl encU_one12 hkD hkb hsz w w.heap.size (by omega) hbr ?_); intro v1 w6 hown1 hg1 hb1 hat1; have j1 := (m1.alloc (.cells #[.int .u64 0] 145)).grown hg1 (fun e => by have := hfar.out _ e.symm; omega); have j2 := (m2.alloc (.cells #[.int .u64 0] 145)).grown hg1 (fun e => by have := hfar.out _ e.symm; omega); have d1 := j2.cell 1; have g1 := j2.frozen 1; simp only [List.getElem?_toArray, List.getElem?_cons_zero, List.getElem?_cons_succ] at d1; obtain ⟨A6, c6, rfl⟩ := OwnU.form hown1)
      go_roundw
      case rel =>
        refine ⟨k + 1, by omega, by go_num, .slice A6 (D ++ [0]).length c6, j1.far (p := ⟨w.heap.size + 1, 1, none⟩) (show w.heap.size ≠ w.heap.size + 1 by omega) _, ?_, ?_, hb1.setCell (p := ⟨w.heap.size + 1, 1, none⟩) (by simp) _⟩
        · have := j2.set_ 1 (.slice A6 (D ++ [0]).length c6)
          simpa using this
        · rw [← hsn.out]
          exact own_setCell hown1 (p := ⟨w.heap.size + 1, 1, none⟩) (fun e => by have h := (World.ownsRow.lt hown1 (w.heap.size + 1) e).1; omega) _
      case measure => simp [intOf]; omega
    · obtain rfl : k = n := by omega
      have d0 := m1.cell 0
      have d1 := m1.cell 1
      have g0 := m1.frozen 0
      have g1 := m1.frozen 1
      simp only [List.getElem?_toArray, List.getElem?_cons_zero, List.getElem?_cons_succ] at d0 d1
      rw [List.length_replicate] at hown
      have hlr : (List.replicate k (0 : Nat)).length = k := List.length_replicate
      have hq := (m1.set_ 0 (.int .i64 k)).set_ 1 (.slice A k c)
      simp only [List.setIfInBounds_toArray, List.set_cons_zero, List.set_cons_succ] at hq
      have y0 := hq.cell 0
      have y1 := hq.cell 1
      simp only [List.getElem?_toArray, List.getElem?_cons_zero, List.getElem?_cons_succ] at y0 y1
      have hO : Hid (OwnU Wr (w.heap.size + 2) (.slice A k c) (rowsG k noE)) := hide (by rw [rowsG_no]; exact hown)
      replace hlr := hide hlr
      go_wp2_with fail
      refine bodyPost_ret (v := .agg #[.int .i64 k, .slice A k c]) (by simp [results, Tryz.results180, go_sem, y0, y1]) rfl ⟨_, rfl, RG.of_own ?_, (hbr.setCell (p := ⟨w.heap.size, 0, none⟩) (by simp) _).setCell (p := ⟨w.heap.size, 1, none⟩) (by simp) _⟩
      have h1 := own_setCell (own_setCell hO.out (p := ⟨w.heap.size, 0, none⟩) (fun e => by have h := (hO.out.lt _ e).1; dsimp only at h; omega) (.int .i64 k)) (p := ⟨w.heap.size, 1, none⟩) (fun e => by have h := (hO.out.lt _ e).1; dsimp only at h; omega) (.slice A k c)
      exact own_base' h1 (by omega)
theorem hasB_setB {p : Nat → Bool} {n b : Nat} (hb : b < n) : hasB (setB p n) (b : Int) = p b := by
  rw [hasB_nat, testBit_setB]; simp [hb]
theorem RG.gr {W : World} {base n : Nat} {E : Edges} {v : Value} (h : RG W base n E v) (hn : n ≤ 64) {K : Nat → Prop} (hK : ∀ g, base ≤ g → g < W.heap.size → K g) : ∃ A c, v = .slice A n c ∧ GrS W K n A c E := by
  rcases h with ⟨h1, rfl⟩ | ⟨g, cap, cur, rfl, h2, h3, h4, h5, h6, h7⟩
  · subst h1
    exact ⟨none, 0, rfl, GrS.zero _ _ _ _ _⟩
  · refine ⟨_, cap, rfl, ⟨?_, hn⟩⟩
    refine ⟨some ⟨g, 0, none⟩, cap, (rowsG n E).map encU, by rw [rowsG_length], by rw [rowsG_length]; exact h4, by simp, fun i cs x g1 g2 => ?_, fun _ => ⟨g, 0, rfl, hK g h2 h3.lt, fun i j cs u g1 g2 => ?_⟩⟩
    · rw [List.getElem?_map, g2] at g1
      injection g1 with g1
      exact ⟨by rw [← g1]; rfl, g1.symm⟩
    · rw [List.getElem?_map] at g1
      cases hx : (rowsG n E)[i]? with
      | none => rw [hx] at g1; cases g1
      | some x =>
        rw [hx] at g1
        injection g1 with g1
        subst g1
        obtain ⟨hi, he⟩ := List.getElem?_eq_some_iff.1 hx
        have hi' : i < n := by rw [rowsG_length] at hi; exact hi
        rw [rowsG_at hi'] at he
        cases j with
        | succ j => simp [encU] at g2
        | zero =>
          simp [encU] at g2
          subst g2
          have := (h3.cell i).trans (h7 i hi')
          rw [he] at this
          simpa using this
/-- One more edge, by a store. -/
theorem RG.add {W : World} {base n : Nat} {E : Edges} {g cap : Nat} (h : RG W base n E (.slice (some ⟨g, 0, none⟩) n cap)) {x y : Nat} (hx : x < n) (hy : y < n) (hn : n ≤ 64) :
    RG (W.setCell ⟨g, x, none⟩ (.int .u64 (withB (setB (E x) n) (y : Int) : Nat))) base n (orE E (oneE x y)) (.slice (some ⟨g, 0, none⟩) n cap) := by
  rcases h with ⟨h1, h2⟩ | ⟨g', cap', cur, h1, h2, h3, h4, h5, h6, h7⟩
  · cases h2
  · simp only [Value.slice.injEq, Option.some.injEq, Addr.mk.injEq, and_true, true_and] at h1
    obtain ⟨rfl, rfl⟩ := h1
    refine .inr ⟨g, cap, _, rfl, h2, h3.set_ x _, h4, h5, by simp [h6], fun i hi => ?_⟩
    rw [setB_with hy hn]
    by_cases e : i = x
    · subst e
      rw [Array.getElem?_setIfInBounds_self_of_lt (by omega)]
      congr 3
      refine setB_congr fun b hb => ?_
      simp [orE, oneE]
    · rw [Array.getElem?_setIfInBounds_ne (by omega), h7 i hi]
      congr 3
      refine setB_congr fun b hb => ?_
      simp [orE, oneE, e]
set_option maxRecDepth 100000 in
theorem rhas12_any (n : Nat) (A : Option Addr) (c : Nat) (E : Edges) (a b : Nat) (K : Nat → Prop) (w : World) (h : GrS w K n A c E) (hK : ∀ b, K b → b < w.heap.size) (ha : a < n) (hb : b < n) :
    Calls Tryz.prog 130 #[.agg #[.int .i64 n, .slice A n c], .int .i64 (a : Int), .int .i64 (b : Int)] w fun e w' => e = .returned (.bool (E a b)) ∧ Below w.heap.size w w' := by
  have hn64 := h.n64
  obtain ⟨g, off, rfl, hg, hc⟩ := h.at_ ha
  have hgl := hK _ hg
  have hB : Below w.heap.size w (w.alloc (.cells #[.int .i64 n, .slice (some ⟨g, off, none⟩) n c] 124)) := (Below.refl _ _).alloc (Nat.le_refl _) _
  have hc2 := (hB.cell (p := ⟨g, off + a, none⟩) hgl).trans hc
  have hai : (a : Int) < (n : Int) := by omega
  have ha0 : (0 : Int) ≤ (a : Int) := Int.natCast_nonneg _
  have hr := hide (hasB_setB (p := E a) hb)
  have hs := setB_64 (p := E a) hn64
  generalize setB (E a) n = x at *
  clear h
  replace hB := hide hB
  go_enter Tryz.func130, Tryz.ntmps130
  go_wp2_with fail
  refine (rhas10_any x hs (b : Int) _).mono ?_
  rw [hr.out]
  rintro e w1 ⟨rfl, rfl⟩
  go_wp2
  go_ret
  exact ⟨rfl, hB.out⟩
end Go.Proofs.YtjomijnbnbideaaGreatDoor

namespace Go.Proofs.YtjomijnbnbideaaGreatDoor
open Go.RowKit Go.Inq
set_option maxHeartbeats 4000000
attribute [local go_sem ↓] Go.wp_at_zero Go.wp_at_succ

theorem hasB_beyond {p : Nat → Bool} {n b : Nat} (hb : n ≤ b) : hasB (setB p n) (b : Int) = false := by
  rw [hasB_nat, testBit_setB]; simp; omega
set_option maxRecDepth 100000 in
theorem rright12_any (n : Nat) (A : Option Addr) (c : Nat) (E : Edges) (K : Nat → Prop) (w : World) (h : GrS w K n A c E) (hK : ∀ b, K b → b < w.heap.size) :
    Calls Tryz.prog 128 #[.agg #[.int .i64 n, .slice A n c]] w fun e w' => e = .returned (.bool true) ∧ Below w.heap.size w w' := by
  have hn64 := h.n64
  have hB : Below w.heap.size w (w.alloc (.cells #[.int .i64 n, .slice A n c] 124)) := (Below.refl _ _).alloc (Nat.le_refl _) _
  have kG := Blk.new w 124 #[.int .i64 n, .slice A n c]
  have hg := hide (h.keep (Agree.below hB hK) (fun b hb => hb))
  have h0 : decide ((n : Int) < 0) = false := by simp
  have h1 : decide ((n : Int) > 64) = false := by simp; omega
  clear h
  go_enter Tryz.func128, Tryz.ntmps128
  go_upto_region 1 with fail
  generalize w.alloc (.cells #[.int .i64 n, .slice A n c] 124) = W at *
  have c0 := kG.cell 0
  have c1 := kG.cell 1
  simp only [List.getElem?_toArray, List.getElem?_cons_zero, List.getElem?_cons_succ] at c0 c1
  replace hB := hide hB
  clear kG
  go_wp2_with fail
  go_loop [3] (fun s3 => ∃ i : Nat, i ≤ n ∧ s3 = .int .i64 i) (fun s3 => n - (intOf s3).toNat)
  case atStart => exact ⟨0, Nat.zero_le _, by go_num⟩
  case round =>
    obtain ⟨i, hi, rfl⟩ := hrel
    have hi1 : (0 : Int) ≤ (i : Int) := Int.natCast_nonneg _
    by_cases hlt : i < n
    · have hi2 : (i : Int) < (n : Int) := by omega
      obtain ⟨g, off, rfl, hgk, hc⟩ := hg.out.at_ hlt
      have hs := setB_64 (p := E i) hn64
      have hbe := hide (fun b hb => hasB_beyond (p := E i) (n := n) (b := b) hb)
      generalize setB (E i) n = x at *
      go_wp2_with fail
      go_loop [4] (fun s4 => ∃ k : Nat, n ≤ k ∧ k ≤ 64 ∧ s4 = .int .i64 k) (fun s4 => 64 - (intOf s4).toNat)
      case atStart => exact ⟨n, Nat.le_refl _, hn64, rfl⟩
      case round =>
        obtain ⟨k, hk, hk64, rfl⟩ := hrel
        have hk1 : (0 : Int) ≤ (k : Int) := Int.natCast_nonneg _
        by_cases hkl : k < 64
        · have hk2 : decide ((k : Int) < 64) = true := by simp; omega
          have hf := hide (hbe.out k hk)
          go_wp2_with fail
          refine (rhas10_any x hs (k : Int) _).mono ?_
          rw [hf.out]
          rintro e w1 ⟨rfl, rfl⟩
          go_wp2
          go_round
          case rel => exact ⟨k + 1, by omega, by omega, by go_num⟩
          case measure => simp [intOf]; omega
        · have hk2 : decide ((k : Int) < 64) = false := by simp; omega
          go_wp2
          go_round
          case rel => exact ⟨i + 1, by omega, by go_num⟩
          case measure => simp [intOf]; omega
    · obtain rfl : i = n := by omega
      go_wp2
      go_ret
      exact ⟨rfl, hB.out⟩
end Go.Proofs.YtjomijnbnbideaaGreatDoor

namespace Go.Proofs.YtjomijnbnbideaaGreatDoor
open Go.RowKit Go.Inq

theorem below_drew {B : Nat} {w w1 : World} (h : Below B w w1) : Below B w w1.drew := h.trans ⟨rfl, rfl, rfl, Nat.le_refl _, fun _ _ => rfl⟩
theorem RG.keep {W W' : World} {B n : Nat} {E : Edges} {v : Value} (h : RG W B n E v) (hk : ∀ g, B ≤ g → g < W.heap.size → W'.heap[g]? = W.heap[g]?) : RG W' B n E v := by
  rcases h with h | ⟨g, cap, cur, h1, h2, h3, r⟩
  · exact .inl h
  · exact .inr ⟨g, cap, cur, h1, h2, (hk g h2 h3.lt).trans h3, r⟩
theorem RG.below {W W' : World} {B B' n : Nat} {E : Edges} {v : Value} (h : RG W B n E v) (hb : Below B' W W') (hB : W.heap.size ≤ B') : RG W' B n E v := h.keep fun g _ hg => hb.block g (by omega)
theorem RG.alloc {W : World} {B n : Nat} {E : Edges} {v : Value} (h : RG W B n E v) (o : Obj) : RG (W.alloc o) B n E v := h.keep fun g _ hg => Below.heap_alloc W o g hg
theorem RG.far {W : World} {B n : Nat} {E : Edges} {v : Value} (h : RG W B n E v) {p : Addr} (hp : p.block < B) (u : Value) : RG (W.setCell p u) B n E v := h.keep fun g hg _ => Below.heap_setCell W p u g (by omega)
theorem RG.drew {W : World} {B n : Nat} {E : Edges} {v : Value} (h : RG W B n E v) : RG W.drew B n E v := h.keep fun _ _ _ => rfl
theorem RG.base {W : World} {B B' n : Nat} {E : Edges} {v : Value} (h : RG W B n E v) (hB : B' ≤ B) : RG W B' n E v := by
  rcases h with h | ⟨g, cap, cur, h1, h2, r⟩
  · exact .inl h
  · exact .inr ⟨g, cap, cur, h1, by omega, r⟩
theorem RG.congr {W : World} {base n : Nat} {E F : Edges} {v : Value} (h : RG W base n E v) (hE : ∀ a b, a < n → b < n → E a b = F a b) : RG W base n F v := by
  rcases h with h | ⟨g, cap, cur, h1, h2, h3, h4, h5, h6, h7⟩
  · exact .inl h
  · exact .inr ⟨g, cap, cur, h1, h2, h3, h4, h5, h6, fun i hi => by rw [h7 i hi]; congr 3; exact setB_congr fun b hb => hE i b hi hb⟩

/-- A variable p that holds a graph: its rows are the call's own, from B on, and made ahead of p. -/
structure RGP (W : World) (B p n : Nat) (E : Edges) (A : Option Addr) (c : Nat) : Prop where
  box : Blk W p 124 #[.int .i64 n, .slice A n c]
  rg : RG W B n E (.slice A n c)
  lt : ∀ g, A = some g → g.block < p
  n64 : n ≤ 64
section
variable {W W' : World} {B p n : Nat} {E F : Edges} {A : Option Addr} {c : Nat}
theorem RGP.plt (h : RGP W B p n E A c) : p < W.heap.size := h.box.lt
theorem RGP.c0 (h : RGP W B p n E A c) : W.cell? ⟨p, 0, none⟩ = some (.int .i64 n) := by simpa using h.box.cell 0
theorem RGP.c1 (h : RGP W B p n E A c) : W.cell? ⟨p, 1, none⟩ = some (.slice A n c) := by simpa using h.box.cell 1
theorem RGP.below (h : RGP W B p n E A c) {B' : Nat} (hb : Below B' W W') (hB : W.heap.size ≤ B') : RGP W' B p n E A c :=
  ⟨h.box.below hb (Nat.lt_of_lt_of_le h.plt hB), h.rg.below hb hB, h.lt, h.n64⟩
theorem RGP.alloc (h : RGP W B p n E A c) (o : Obj) : RGP (W.alloc o) B p n E A c := ⟨h.box.alloc o, h.rg.alloc o, h.lt, h.n64⟩
theorem RGP.drew (h : RGP W B p n E A c) : RGP W.drew B p n E A c := ⟨h.box.drew, h.rg.drew, h.lt, h.n64⟩
theorem RGP.drewN (h : RGP W B p n E A c) (k : Nat) : RGP (W.drewN k) B p n E A c := ⟨h.box.drewN k, h.rg.keep fun _ _ _ => rfl, h.lt, h.n64⟩
theorem RGP.congr (h : RGP W B p n E A c) (hE : ∀ a b, a < n → b < n → E a b = F a b) : RGP W B p n F A c := ⟨h.box, h.rg.congr hE, h.lt, h.n64⟩
/-- Rows, of a graph with nodes. -/
structure RGX (W : World) (B p n x : Nat) (E : Edges) (g c : Nat) : Prop where
  box : RGP W B p n E (some ⟨g, 0, none⟩) c
  c0 : W.cell? ⟨p, 0, none⟩ = some (.int .i64 n)
  c1 : W.cell? ⟨p, 1, none⟩ = some (.slice (some ⟨g, 0, none⟩) n c)
  at_ : W.cell? ⟨g, x, none⟩ = some (.int .u64 (setB (E x) n : Nat))
  fr : W.frozen? ⟨g, x, none⟩ = false
  gp : g < p
  gl : g < W.heap.size
  B : B ≤ g
  h64 : setB (E x) n < 18446744073709551616
theorem RGP.at_ (h : RGP W B p n E A c) {x : Nat} (hx : x < n) : ∃ g, A = some ⟨g, 0, none⟩ ∧ RGX W B p n x E g c := by
  rcases h.rg with ⟨h1, _⟩ | ⟨g, cap, cur, h1, h2, h3, h4, h5, h6, h7⟩
  · omega
  · simp only [Value.slice.injEq, true_and] at h1
    obtain ⟨rfl, rfl⟩ := h1
    exact ⟨g, rfl, h, h.c0, h.c1, (h3.cell x).trans (h7 x hx), h3.frozen x, h.lt _ rfl, h3.lt, h2, setB_64 h.n64⟩
theorem RGX.add {x : Nat} {g : Nat} (h : RGX W B p n x E g c) {y : Nat} (hx : x < n) (hy : y < n) :
    RGP (W.setCell ⟨g, x, none⟩ (.int .u64 (withB (setB (E x) n) (y : Int) : Nat))) B p n (orE E (oneE x y)) (some ⟨g, 0, none⟩) c :=
  ⟨h.box.box.far (p := ⟨g, x, none⟩) (Nat.ne_of_gt h.gp) _, h.box.rg.add hx hy h.box.n64, h.box.lt, h.box.n64⟩
end
/-- The edges of rows ahead of x, and of row x ahead of y. -/
def uptoE (E : Edges) (x y : Nat) : Edges := fun a b => E a b && (decide (a < x) || (decide (a = x) && decide (b < y)))
theorem uptoE_zero (E : Edges) : uptoE E 0 0 = noE := by
  funext a b; simp [uptoE, noE]
theorem uptoE_step {E : Edges} {x y : Nat} (h : E x y = true) : uptoE E x (y + 1) = orE (uptoE E x y) (oneE x y) := by
  funext a b
  unfold uptoE orE oneE
  rw [Bool.eq_iff_iff]
  simp
  constructor
  · rintro ⟨h1, h2 | ⟨h2, h3⟩⟩
    · exact .inl ⟨h1, .inl h2⟩
    · rcases Nat.lt_or_ge b y with g | g
      · exact .inl ⟨h1, .inr ⟨h2, g⟩⟩
      · exact .inr ⟨h2, by omega⟩
  · rintro (⟨h1, h2 | ⟨h2, h3⟩⟩ | ⟨rfl, rfl⟩)
    · exact ⟨h1, .inl h2⟩
    · exact ⟨h1, .inr ⟨h2, by omega⟩⟩
    · exact ⟨h, .inr ⟨rfl, by omega⟩⟩
theorem uptoE_skip {E : Edges} {x y : Nat} (h : E x y = false) : uptoE E x (y + 1) = uptoE E x y := by
  funext a b
  unfold uptoE
  rw [Bool.eq_iff_iff]
  simp
  intro h1
  constructor
  · rintro (h2 | ⟨rfl, h3⟩)
    · exact .inl h2
    · rcases Nat.lt_or_ge b y with g | g
      · exact .inr ⟨rfl, g⟩
      · obtain rfl : b = y := by omega
        rw [h] at h1; cases h1
  · rintro (h2 | ⟨rfl, h3⟩)
    · exact .inl h2
    · exact .inr ⟨rfl, by omega⟩
theorem uptoE_row {E : Edges} {x n a b : Nat} (hb : b < n) : uptoE E x n a b = uptoE E (x + 1) 0 a b := by
  unfold uptoE
  rw [Bool.eq_iff_iff]
  simp
  intro _
  omega
theorem uptoE_all {E : Edges} {n a b : Nat} (ha : a < n) : uptoE E n 0 a b = E a b := by
  unfold uptoE; simp [ha]
end Go.Proofs.YtjomijnbnbideaaGreatDoor
