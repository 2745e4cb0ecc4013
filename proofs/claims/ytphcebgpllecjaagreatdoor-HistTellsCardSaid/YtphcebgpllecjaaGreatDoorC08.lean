/-
  Walks: layer 6: an item is put into its cell.
-/
import Derived.Test.YtphcebgpllecjaaGreatDoorC07
set_option linter.unusedVariables false
set_option linter.unusedSimpArgs false
namespace Go.Proofs.YtphcebgpllecjaaGreatDoor
open Go.RowKit Go.Inq
set_option maxHeartbeats 2000000
attribute [local go_sem ↓] Go.wp_at_zero Go.wp_at_succ

theorem enc_len (l : List It) : ((l.map It.enc).flatten).length = l.length * 2 := by
  induction l with
  | nil => rfl
  | cons x r ih => simp [It.enc, ih]; omega
theorem enc_set {l : List It} {i : Nat} {x : It} (v : Int) (hi : l[i]? = some x) : ((l.map It.enc).flatten).set (i * 2 + 1) (.int .i64 v) = ((l.set i ⟨x.a, v⟩).map It.enc).flatten := by
  induction l generalizing i with
  | nil => simp at hi
  | cons y r ih =>
    cases i with
    | zero => simp at hi; subst hi; simp [It.enc]
    | succ i =>
      simp at hi
      rw [show (i + 1) * 2 + 1 = (i * 2 + 1) + 2 by omega]
      simp [It.enc]
      have := ih hi
      simp [It.enc] at this
      exact this

theorem enc_at {l : List It} {i : Nat} {x : It} (hi : l[i]? = some x) : ((l.map It.enc).flatten)[i * 2 + 1]? = some (.int .i64 x.b) := by
  induction l generalizing i with
  | nil => simp at hi
  | cons y r ih =>
    cases i with
    | zero => simp at hi; subst hi; simp [It.enc]
    | succ i =>
      simp at hi
      rw [show (i + 1) * 2 + 1 = (i * 2 + 1) + 2 by omega]
      have := ih hi
      simp [It.enc] at this ⊢
      exact this
theorem insI_at {l : List It} {i : Nat} {x : It} (hi : i ≤ l.length) : (insI l i x)[i]? = some x := by
  unfold insI
  rw [List.append_assoc, List.getElem?_append_right (by rw [List.length_take]; omega), List.length_take]
  simp [Nat.min_eq_left hi]
theorem insI_set {l : List It} {i : Nat} {x y : It} (hi : i ≤ l.length) : (insI l i x).set i y = insI l i y := by
  unfold insI
  rw [List.append_assoc, List.append_assoc, List.set_append]
  simp [Nat.min_eq_left hi]
theorem insI_len {l : List It} {i : Nat} {x : It} (hi : i ≤ l.length) : (insI l i x).length = l.length + 1 := by
  simp [insI]; omega
theorem putI_len_le (l : List It) (k v : Int) : (putI l k v).length ≤ l.length + 1 := by
  unfold putI
  split
  · simp
  · rw [insI_len (posI_le l k)]; exact Nat.le_refl _

/-- What putting leaves: the slice at ⟨F, o⟩ has the item; beside F and the row all that was there stays. -/
def PutOut (F o base : Nat) (v0 v1 ov : Value) (l : List It) (w w' : World) : Prop :=
  ∃ v', Blk w' F 86 (#[v0, v1].setIfInBounds o v') ∧ w'.ownsRow base 91 2 v' l.length (l.map It.enc).flatten ∧ (∀ b, b < w.heap.size → b ≠ F → some b ≠ ov.ownBlock → w'.heap[b]? = w.heap[b]?) ∧
    w.heap.size ≤ w'.heap.size ∧ w'.os = w.os ∧ w'.tape = w.tape ∧ w'.output = w.output ∧ (∀ g, v'.ownBlock = some g → ov.ownBlock = some g ∨ w.heap.size ≤ g)

set_option maxRecDepth 100000 in
theorem put_has (gi gl gt gk F o base : Nat) (v0 v1 ov : Value) (l : List It) (k val : Int) (w : World) (ho : #[v0, v1][o]? = some ov)
    (ci : w.cell? ⟨gi, 0, none⟩ = some (.bool (hasI l k))) (cl : w.cell? ⟨gl, 0, none⟩ = some (.pointer (some ⟨F, o, none⟩))) (ct : w.cell? ⟨gt, 0, none⟩ = some (.int .i64 (posI l k)))
    (hF : Blk w F 86 #[v0, v1]) (hown : w.ownsRow base 91 2 ov l.length (l.map It.enc).flatten) (hFo : ov.ownBlock ≠ some F) (hn : l.length ≤ 1000000) (hh : hasI l k = true) :
    Calls Tryz.prog 81 #[.int .i64 val, .pointer (some ⟨gi, 0, none⟩), .pointer (some ⟨gl, 0, none⟩), .pointer (some ⟨gt, 0, none⟩), .pointer (some ⟨gk, 0, none⟩)] w fun e w' => e = .returned (.tuple #[]) ∧ PutOut F o base v0 v1 ov (putI l k val) w w' := by
  obtain ⟨hp, hk⟩ := hasI_at hh
  have cF := (hF.cell o).trans ho
  rw [hh] at ci
  obtain ⟨g, cap, cur, rfl, _⟩ : ∃ g cap, ∃ (cur : Unit), ov = .slice (some ⟨g, 0, none⟩) l.length cap ∧ True := by
    rcases hown.2 with ⟨h1, h2⟩ | ⟨g, cap, cur, h1, _⟩
    · omega
    · exact ⟨g, cap, (), h1, trivial⟩
  have hs := hown.stored (posI l k * 2 + 1) (.int .i64 val)
  have fz := hown.frozenAt (posI l k * 2 + 1)
  have hj : w.cell? ⟨g, posI l k * 2 + 1, none⟩ = some (.int .i64 l[posI l k].b) := (hown.cellAt (posI l k * 2 + 1) (by omega)).trans (enc_at (List.getElem?_eq_getElem hp))
  have hset := enc_set (l := l) (i := posI l k) val (List.getElem?_eq_getElem hp)
  rw [hk] at hset
  rw [hset] at hs
  have hfin : PutOut F o base v0 v1 (.slice (some ⟨g, 0, none⟩) l.length cap) (putI l k val) w (w.setCell ⟨g, posI l k * 2 + 1, none⟩ (.int .i64 val)) := by
    unfold putI
    rw [if_pos hh]
    refine ⟨.slice (some ⟨g, 0, none⟩) l.length cap, ?_, by rw [List.length_set]; exact hs.1, fun b hb h1 h2 => hs.2.block b hb h2, hs.2.size, rfl, rfl, rfl, fun g h => .inl h⟩
    have e : #[v0, v1].setIfInBounds o (.slice (some ⟨g, 0, none⟩) l.length cap) = #[v0, v1] := by
      have : o < 2 := by
        rcases Nat.lt_or_ge o 2 with h | h
        · exact h
        · rw [Array.getElem?_eq_none (by simpa using h)] at ho; cases ho
      rcases Nat.lt_or_ge o 1 with h | h
      · have : o = 0 := by omega
        subst this
        simp at ho
        simp [ho]
      · have : o = 1 := by omega
        subst this
        simp at ho
        simp [ho]
    rw [e]
    exact hF.grown hs.2 (fun e => hFo e.symm)
  have hfin := hide hfin
  clear hset hs hown
  have hz : (0 : Int) ≤ (posI l k : Int) := Int.natCast_nonneg _
  have hz2 : (posI l k : Int) < (l.length : Int) := by omega
  have hp' := hide hp
  generalize posI l k = p at *
  go_enter Tryz.func81, Tryz.ntmps81
  go_wp2_with fail
  refine wp_region_plan [0, 1, 2, 3, 4, 5, 6] [7] (by kernel_rfl) (by kernel_rfl) (fun _ _ d _ _ h => by cases d <;> exact h) ?_
  simp only [List.filterMap_cons, List.filterMap_nil, List.getElem?_cons_zero, List.getElem?_cons_succ]
  repeat still_step
  refine wpStill_nil ?_
  go_wp2
  go_end0
  exact ⟨rfl, hfin.out⟩

theorem put_fin {F o base : Nat} {v0 v1 ov : Value} {l : List It} {k val : Int} {w W w1 : World} {p g cap : Nat} (hp : p ≤ l.length) (hF : Blk w F 86 #[v0, v1])
    (hWb : Below w.heap.size w W) (hgrow : W.grownBy w1 ov.ownBlock) (hFo : ov.ownBlock ≠ some F) (hov : ∀ g, ov.ownBlock = some g → g < w.heap.size) (hlt : w.heap.size ≤ W.heap.size)
    (hown1 : w1.ownsRow base 91 2 (.slice (some ⟨g, 0, none⟩) (l.length + 1) cap) (l.length + 1) ((insI l p ⟨k, 0⟩).map It.enc).flatten) (hat : ov.ownBlock = some g ∨ W.heap.size ≤ g) :
    PutOut F o base v0 v1 ov (insI l p ⟨k, val⟩) w ((w1.setCell ⟨F, o, none⟩ (.slice (some ⟨g, 0, none⟩) (l.length + 1) cap)).setCell ⟨g, p * 2 + 1, none⟩ (.int .i64 val)) := by
  have hFl := hF.lt
  have hgF : g ≠ F := by
    rcases hat with h | h
    · intro e; subst e; exact hFo h
    · omega
  have hB : Blk (w1.setCell ⟨F, o, none⟩ (.slice (some ⟨g, 0, none⟩) (l.length + 1) cap)) F 86 (#[v0, v1].setIfInBounds o (.slice (some ⟨g, 0, none⟩) (l.length + 1) cap)) :=
    ((hF.below hWb hFl).grown hgrow (fun e => hFo e.symm)).set_ o _
  have ho2 : (w1.setCell ⟨F, o, none⟩ (.slice (some ⟨g, 0, none⟩) (l.length + 1) cap)).ownsRow base 91 2 (.slice (some ⟨g, 0, none⟩) (l.length + 1) cap) (l.length + 1) ((insI l p ⟨k, 0⟩).map It.enc).flatten :=
    own_setCell hown1 (fun e => hgF (by simpa [Value.ownBlock] using e)) _
  have hst := ho2.stored (p * 2 + 1) (.int .i64 val)
  have hset := enc_set (l := insI l p ⟨k, 0⟩) (i := p) val (insI_at hp)
  rw [insI_set hp] at hset
  rw [hset] at hst
  refine ⟨.slice (some ⟨g, 0, none⟩) (l.length + 1) cap, hB.far (p := ⟨g, p * 2 + 1, none⟩) (fun e => hgF e.symm) _, by rw [insI_len hp]; exact hst.1, fun b hb h1 h2 => ?_, ?_, ?_, ?_, ?_, fun x hx => ?_⟩
  · have h3 : b ≠ g := by
      rcases hat with h | h
      · intro e; subst e; exact h2 h.symm
      · omega
    rw [Below.heap_setCell _ _ _ _ h3, Below.heap_setCell _ _ _ _ h1, hgrow.block b (by omega) h2, hWb.block b hb]
  · have := hgrow.size
    simp
    omega
  · exact hgrow.os.trans hWb.os
  · exact hgrow.tape.trans hWb.tape
  · exact hgrow.output.trans hWb.output
  · have : x = g := by simpa [Value.ownBlock] using hx.symm
    subst this
    rcases hat with h | h
    · exact .inl h
    · exact .inr (by omega)

set_option maxRecDepth 100000 in
theorem put_new (gi gl gt gk F o base : Nat) (v0 v1 ov : Value) (l : List It) (k val : Int) (w : World) (ho : #[v0, v1][o]? = some ov)
    (ci : w.cell? ⟨gi, 0, none⟩ = some (.bool (hasI l k))) (cl : w.cell? ⟨gl, 0, none⟩ = some (.pointer (some ⟨F, o, none⟩))) (ct : w.cell? ⟨gt, 0, none⟩ = some (.int .i64 (posI l k))) (ck : w.cell? ⟨gk, 0, none⟩ = some (.int .i64 k))
    (hF : Blk w F 86 #[v0, v1]) (hown : w.ownsRow base 91 2 ov l.length (l.map It.enc).flatten) (hFo : ov.ownBlock ≠ some F) (hn : l.length ≤ 1000000) (hbase : base ≤ w.heap.size) (hh : hasI l k = false)
    (ni : ov.ownBlock ≠ some gi) (nl : ov.ownBlock ≠ some gl) (nt : ov.ownBlock ≠ some gt) (nk : ov.ownBlock ≠ some gk) (mi : gi ≠ F) (ml : gl ≠ F) (mt : gt ≠ F) :
    Calls Tryz.prog 81 #[.int .i64 val, .pointer (some ⟨gi, 0, none⟩), .pointer (some ⟨gl, 0, none⟩), .pointer (some ⟨gt, 0, none⟩), .pointer (some ⟨gk, 0, none⟩)] w fun e w' => e = .returned (.tuple #[]) ∧ PutOut F o base v0 v1 ov (putI l k val) w w' := by
  have cF := (hF.cell o).trans ho
  rw [hh] at ci
  have ho2 : o < 2 := by
    rcases Nat.lt_or_ge o 2 with h | h
    · exact h
    · rw [Array.getElem?_eq_none (by simpa using h)] at ho; cases ho
  have hFl := hF.lt
  have lt_i := block_lt_of_cell ci
  have lt_l := block_lt_of_cell cl
  have lt_t := block_lt_of_cell ct
  have fF := hF.frozen o
  have hpl := posI_le l k
  have hown' := hown
  obtain ⟨A, c, rfl⟩ := own_slice hown
  have hbo : ∀ g, Value.ownBlock (.slice A l.length c) = some g → base ≤ g ∧ g < w.heap.size := fun g hg => hown.lt g hg
  have e0 : putI l k val = insI l (posI l k) ⟨k, val⟩ := by unfold putI; rw [if_neg (by rw [hh]; simp)]
  rw [e0]
  have hz : (0 : Int) ≤ (posI l k : Int) := Int.natCast_nonneg _
  generalize posI l k = p at *
  go_enter Tryz.func81, Tryz.ntmps81
  go_wp2_with fail
  refine wp_region_alts [1, 2, 3, 4, 5, 6] [0, 7, 8, 9, 10] [[0, 7, 8, 9, 10], [7, 0, 8, 9, 10], [7, 8, 0, 9, 10]] (by kernel_rfl) (by kernel_rfl) (fun _ _ d _ _ h => by cases d <;> exact h) ?_
  simp only [List.filterMap_cons, List.filterMap_nil, List.getElem?_cons_zero, List.getElem?_cons_succ]
  repeat still_step
  refine wpStill_nil ?_
  intro i hi
  simp only [List.filterMap_cons, List.head?_cons, List.filterMap_nil, List.mem_cons, List.not_mem_nil, or_false, or_self] at hi
  obtain rfl | rfl : i = 0 ∨ i = 7 := by omega
  · refine wpOp_list rfl ?_
    simp only [tailsOf, List.filterMap_cons, List.filterMap_nil, if_true, if_false, reduceIte, Nat.reduceEqDiff, List.length_cons, List.length_nil, Nat.reduceAdd]
    clear hi
    go_wp2_with fail
    refine wpAlt_one _ _ _ _ rfl ?_
    simp only [List.filterMap_cons, List.filterMap_nil, List.getElem?_toArray, List.getElem?_cons_zero, List.getElem?_cons_succ]
    go_wp2_with fail
    refine (insert_any base _ p l ⟨k, 0⟩ w.heap.size _ (hown.alloc _).drew hpl hn (by simp; omega) (Blk.new _ _ _).drew (fun e => by have := (hbo _ e).2; omega)).mono ?_
    rintro e w1 ⟨g, cap, rfl, hown1, hgrow, hat⟩
    have hWb : Below w.heap.size w (w.alloc (.cells #[.int .i64 k, .int .i64 0] 91)).drew := ((Below.refl _ _).alloc (Nat.le_refl _) _).drew
    have hWs : w.heap.size ≤ ((w.alloc (.cells #[.int .i64 k, .int .i64 0] 91)).drew).heap.size := by simp
    have hfin := hide (put_fin (val := val) (base := base) (o := o) (v0 := v0) (v1 := v1) hpl hF hWb hgrow hFo (fun g hg => (hbo g hg).2) hWs hown1 hat)
    have far : ∀ b j u, b < w.heap.size → some b ≠ Value.ownBlock (.slice A l.length c) → w.cell? ⟨b, j, none⟩ = some u → w1.cell? ⟨b, j, none⟩ = some u := fun b j u h1 h2 h3 =>
      (hgrow.cell_far ⟨b, j, none⟩ (by simp; omega) h2).trans ((hWb.cell (p := ⟨b, j, none⟩) h1).trans h3)
    have d_l := far gl 0 _ lt_l (fun e => nl e.symm) cl
    have d_t := far gt 0 _ lt_t (fun e => nt e.symm) ct
    have d_F := far F o _ hFl (fun e => hFo e.symm) cF
    have z_F : w1.frozen? ⟨F, o, none⟩ = false := (hgrow.frozen_far ⟨F, o, none⟩ (by simp; omega) (fun e => hFo e.symm)).trans ((hWb.frozen (p := ⟨F, o, none⟩) hFl).trans fF)
    have hgF : g ≠ F := by
      rcases hat with h | h
      · intro e; subst e; exact hFo h
      · have : w.heap.size + 1 ≤ g := by simpa using h
        omega
    have d_g : w1.cell? ⟨g, p * 2 + 1, none⟩ = some (.int .i64 0) := (hown1.cellAt (p * 2 + 1) (by omega)).trans (enc_at (insI_at hpl))
    have z_g := hown1.frozenAt (p * 2 + 1)
    have r_l : (w1.setCell ⟨F, o, none⟩ (.slice (some ⟨g, 0, none⟩) (l.length + 1) cap)).cell? ⟨gl, 0, none⟩ = _ := (World.cell?_of_block (Below.heap_setCell w1 ⟨F, o, none⟩ (.slice (some ⟨g, 0, none⟩) (l.length + 1) cap) gl ml)).trans d_l
    have r_t : (w1.setCell ⟨F, o, none⟩ (.slice (some ⟨g, 0, none⟩) (l.length + 1) cap)).cell? ⟨gt, 0, none⟩ = _ := (World.cell?_of_block (Below.heap_setCell w1 ⟨F, o, none⟩ (.slice (some ⟨g, 0, none⟩) (l.length + 1) cap) gt mt)).trans d_t
    have r_F : (w1.setCell ⟨F, o, none⟩ (.slice (some ⟨g, 0, none⟩) (l.length + 1) cap)).cell? ⟨F, o, none⟩ = some (.slice (some ⟨g, 0, none⟩) (l.length + 1) cap) := by
      have hB := ((hF.below hWb hFl).grown hgrow (fun e => hFo e.symm)).set_ o (.slice (some ⟨g, 0, none⟩) (l.length + 1) cap)
      rw [hB.cell o]
      simp [ho2]
    have r_g : (w1.setCell ⟨F, o, none⟩ (.slice (some ⟨g, 0, none⟩) (l.length + 1) cap)).cell? ⟨g, p * 2 + 1, none⟩ = _ := (World.cell?_of_block (Below.heap_setCell w1 ⟨F, o, none⟩ (.slice (some ⟨g, 0, none⟩) (l.length + 1) cap) g hgF)).trans d_g
    have y_g : (w1.setCell ⟨F, o, none⟩ (.slice (some ⟨g, 0, none⟩) (l.length + 1) cap)).frozen? ⟨g, p * 2 + 1, none⟩ = _ := (World.frozen?_of_block (Below.heap_setCell w1 ⟨F, o, none⟩ (.slice (some ⟨g, 0, none⟩) (l.length + 1) cap) g hgF)).trans z_g
    have hp1 : (p : Int) < (l.length : Int) + 1 := by omega
    clear far hWb hWs hown1 hgrow hat hbo hF hown hown'
    go_wp2_with fail
    refine wp_region_plan [0, 1, 2, 3, 4, 5, 6] [7] (by kernel_rfl) (by kernel_rfl) (fun _ _ d _ _ h => by cases d <;> exact h) ?_
    simp only [List.filterMap_cons, List.filterMap_nil, List.getElem?_cons_zero, List.getElem?_cons_succ]
    repeat still_step
    refine wpStill_nil ?_
    go_wp2
    go_end0
    exact ⟨rfl, hfin.out⟩
  · refine wpOp_list rfl ?_
    simp only [tailsOf, List.filterMap_cons, List.filterMap_nil, if_true, if_false, reduceIte, Nat.reduceEqDiff, List.length_cons, List.length_nil, Nat.reduceAdd]
    clear hi
    go_wp2_with fail
    intro i hi
    simp only [List.filterMap_cons, List.head?_cons, List.filterMap_nil, List.mem_cons, List.not_mem_nil, or_false, or_self] at hi
    obtain rfl | rfl : i = 0 ∨ i = 8 := by omega
    · refine wpOp_list rfl ?_
      simp only [tailsOf, List.filterMap_cons, List.filterMap_nil, if_true, if_false, reduceIte, Nat.reduceEqDiff, List.length_cons, List.length_nil, Nat.reduceAdd]
      clear hi
      go_wp2_with fail
      refine wpAlt_one _ _ _ _ rfl ?_
      simp only [List.filterMap_cons, List.filterMap_nil, List.getElem?_toArray, List.getElem?_cons_zero, List.getElem?_cons_succ]
      go_wp2_with fail
      refine (insert_any base _ p l ⟨k, 0⟩ w.heap.size _ (hown.alloc _).drew hpl hn (by simp; omega) (Blk.new _ _ _).drew (fun e => by have := (hbo _ e).2; omega)).mono ?_
      rintro e w1 ⟨g, cap, rfl, hown1, hgrow, hat⟩
      have hWb : Below w.heap.size w (w.alloc (.cells #[.int .i64 k, .int .i64 0] 91)).drew := ((Below.refl _ _).alloc (Nat.le_refl _) _).drew
      have hWs : w.heap.size ≤ ((w.alloc (.cells #[.int .i64 k, .int .i64 0] 91)).drew).heap.size := by simp
      have hfin := hide (put_fin (val := val) (base := base) (o := o) (v0 := v0) (v1 := v1) hpl hF hWb hgrow hFo (fun g hg => (hbo g hg).2) hWs hown1 hat)
      have far : ∀ b j u, b < w.heap.size → some b ≠ Value.ownBlock (.slice A l.length c) → w.cell? ⟨b, j, none⟩ = some u → w1.cell? ⟨b, j, none⟩ = some u := fun b j u h1 h2 h3 =>
        (hgrow.cell_far ⟨b, j, none⟩ (by simp; omega) h2).trans ((hWb.cell (p := ⟨b, j, none⟩) h1).trans h3)
      have d_l := far gl 0 _ lt_l (fun e => nl e.symm) cl
      have d_t := far gt 0 _ lt_t (fun e => nt e.symm) ct
      have d_F := far F o _ hFl (fun e => hFo e.symm) cF
      have z_F : w1.frozen? ⟨F, o, none⟩ = false := (hgrow.frozen_far ⟨F, o, none⟩ (by simp; omega) (fun e => hFo e.symm)).trans ((hWb.frozen (p := ⟨F, o, none⟩) hFl).trans fF)
      have hgF : g ≠ F := by
        rcases hat with h | h
        · intro e; subst e; exact hFo h
        · have : w.heap.size + 1 ≤ g := by simpa using h
          omega
      have d_g : w1.cell? ⟨g, p * 2 + 1, none⟩ = some (.int .i64 0) := (hown1.cellAt (p * 2 + 1) (by omega)).trans (enc_at (insI_at hpl))
      have z_g := hown1.frozenAt (p * 2 + 1)
      have r_l : (w1.setCell ⟨F, o, none⟩ (.slice (some ⟨g, 0, none⟩) (l.length + 1) cap)).cell? ⟨gl, 0, none⟩ = _ := (World.cell?_of_block (Below.heap_setCell w1 ⟨F, o, none⟩ (.slice (some ⟨g, 0, none⟩) (l.length + 1) cap) gl ml)).trans d_l
      have r_t : (w1.setCell ⟨F, o, none⟩ (.slice (some ⟨g, 0, none⟩) (l.length + 1) cap)).cell? ⟨gt, 0, none⟩ = _ := (World.cell?_of_block (Below.heap_setCell w1 ⟨F, o, none⟩ (.slice (some ⟨g, 0, none⟩) (l.length + 1) cap) gt mt)).trans d_t
      have r_F : (w1.setCell ⟨F, o, none⟩ (.slice (some ⟨g, 0, none⟩) (l.length + 1) cap)).cell? ⟨F, o, none⟩ = some (.slice (some ⟨g, 0, none⟩) (l.length + 1) cap) := by
        have hB := ((hF.below hWb hFl).grown hgrow (fun e => hFo e.symm)).set_ o (.slice (some ⟨g, 0, none⟩) (l.length + 1) cap)
        rw [hB.cell o]
        simp [ho2]
      have r_g : (w1.setCell ⟨F, o, none⟩ (.slice (some ⟨g, 0, none⟩) (l.length + 1) cap)).cell? ⟨g, p * 2 + 1, none⟩ = _ := (World.cell?_of_block (Below.heap_setCell w1 ⟨F, o, none⟩ (.slice (some ⟨g, 0, none⟩) (l.length + 1) cap) g hgF)).trans d_g
      have y_g : (w1.setCell ⟨F, o, none⟩ (.slice (some ⟨g, 0, none⟩) (l.length + 1) cap)).frozen? ⟨g, p * 2 + 1, none⟩ = _ := (World.frozen?_of_block (Below.heap_setCell w1 ⟨F, o, none⟩ (.slice (some ⟨g, 0, none⟩) (l.length + 1) cap) g hgF)).trans z_g
      have hp1 : (p : Int) < (l.length : Int) + 1 := by omega
      clear far hWb hWs hown1 hgrow hat hbo hF hown hown'
      go_wp2_with fail
      refine wp_region_plan [0, 1, 2, 3, 4, 5, 6] [7] (by kernel_rfl) (by kernel_rfl) (fun _ _ d _ _ h => by cases d <;> exact h) ?_
      simp only [List.filterMap_cons, List.filterMap_nil, List.getElem?_cons_zero, List.getElem?_cons_succ]
      repeat still_step
      refine wpStill_nil ?_
      go_wp2
      go_end0
      exact ⟨rfl, hfin.out⟩
    · refine wpOp_list rfl ?_
      simp only [tailsOf, List.filterMap_cons, List.filterMap_nil, if_true, if_false, reduceIte, Nat.reduceEqDiff, List.length_cons, List.length_nil, Nat.reduceAdd]
      clear hi
      go_wp2_with fail
      refine (insert_any base _ p l ⟨k, 0⟩ w.heap.size _ (hown.alloc _).drew hpl hn (by simp; omega) (Blk.new _ _ _).drew (fun e => by have := (hbo _ e).2; omega)).mono ?_
      rintro e w1 ⟨g, cap, rfl, hown1, hgrow, hat⟩
      have hWb : Below w.heap.size w (w.alloc (.cells #[.int .i64 k, .int .i64 0] 91)).drew := ((Below.refl _ _).alloc (Nat.le_refl _) _).drew
      have hWs : w.heap.size ≤ ((w.alloc (.cells #[.int .i64 k, .int .i64 0] 91)).drew).heap.size := by simp
      have hfin := hide (put_fin (val := val) (base := base) (o := o) (v0 := v0) (v1 := v1) hpl hF hWb hgrow hFo (fun g hg => (hbo g hg).2) hWs hown1 hat)
      have far : ∀ b j u, b < w.heap.size → some b ≠ Value.ownBlock (.slice A l.length c) → w.cell? ⟨b, j, none⟩ = some u → w1.cell? ⟨b, j, none⟩ = some u := fun b j u h1 h2 h3 =>
        (hgrow.cell_far ⟨b, j, none⟩ (by simp; omega) h2).trans ((hWb.cell (p := ⟨b, j, none⟩) h1).trans h3)
      have d_l := far gl 0 _ lt_l (fun e => nl e.symm) cl
      have d_t := far gt 0 _ lt_t (fun e => nt e.symm) ct
      have d_F := far F o _ hFl (fun e => hFo e.symm) cF
      have z_F : w1.frozen? ⟨F, o, none⟩ = false := (hgrow.frozen_far ⟨F, o, none⟩ (by simp; omega) (fun e => hFo e.symm)).trans ((hWb.frozen (p := ⟨F, o, none⟩) hFl).trans fF)
      have hgF : g ≠ F := by
        rcases hat with h | h
        · intro e; subst e; exact hFo h
        · have : w.heap.size + 1 ≤ g := by simpa using h
          omega
      have d_g : w1.cell? ⟨g, p * 2 + 1, none⟩ = some (.int .i64 0) := (hown1.cellAt (p * 2 + 1) (by omega)).trans (enc_at (insI_at hpl))
      have z_g := hown1.frozenAt (p * 2 + 1)
      have r_l : (w1.setCell ⟨F, o, none⟩ (.slice (some ⟨g, 0, none⟩) (l.length + 1) cap)).cell? ⟨gl, 0, none⟩ = _ := (World.cell?_of_block (Below.heap_setCell w1 ⟨F, o, none⟩ (.slice (some ⟨g, 0, none⟩) (l.length + 1) cap) gl ml)).trans d_l
      have r_t : (w1.setCell ⟨F, o, none⟩ (.slice (some ⟨g, 0, none⟩) (l.length + 1) cap)).cell? ⟨gt, 0, none⟩ = _ := (World.cell?_of_block (Below.heap_setCell w1 ⟨F, o, none⟩ (.slice (some ⟨g, 0, none⟩) (l.length + 1) cap) gt mt)).trans d_t
      have r_F : (w1.setCell ⟨F, o, none⟩ (.slice (some ⟨g, 0, none⟩) (l.length + 1) cap)).cell? ⟨F, o, none⟩ = some (.slice (some ⟨g, 0, none⟩) (l.length + 1) cap) := by
        have hB := ((hF.below hWb hFl).grown hgrow (fun e => hFo e.symm)).set_ o (.slice (some ⟨g, 0, none⟩) (l.length + 1) cap)
        rw [hB.cell o]
        simp [ho2]
      have r_g : (w1.setCell ⟨F, o, none⟩ (.slice (some ⟨g, 0, none⟩) (l.length + 1) cap)).cell? ⟨g, p * 2 + 1, none⟩ = _ := (World.cell?_of_block (Below.heap_setCell w1 ⟨F, o, none⟩ (.slice (some ⟨g, 0, none⟩) (l.length + 1) cap) g hgF)).trans d_g
      have y_g : (w1.setCell ⟨F, o, none⟩ (.slice (some ⟨g, 0, none⟩) (l.length + 1) cap)).frozen? ⟨g, p * 2 + 1, none⟩ = _ := (World.frozen?_of_block (Below.heap_setCell w1 ⟨F, o, none⟩ (.slice (some ⟨g, 0, none⟩) (l.length + 1) cap) g hgF)).trans z_g
      have hp1 : (p : Int) < (l.length : Int) + 1 := by omega
      clear far hWb hWs hown1 hgrow hat hbo hF hown hown'
      go_wp2_with fail
      refine wpAlt_one _ _ _ _ rfl ?_
      simp only [List.filterMap_cons, List.filterMap_nil, List.getElem?_toArray, List.getElem?_cons_zero, List.getElem?_cons_succ]
      go_wp2_with fail
      refine wp_region_plan [0, 1, 2, 3, 4, 5, 6] [7] (by kernel_rfl) (by kernel_rfl) (fun _ _ d _ _ h => by cases d <;> exact h) ?_
      simp only [List.filterMap_cons, List.filterMap_nil, List.getElem?_cons_zero, List.getElem?_cons_succ]
      repeat still_step
      refine wpStill_nil ?_
      go_wp2
      go_end0
      exact ⟨rfl, hfin.out⟩
end Go.Proofs.YtphcebgpllecjaaGreatDoor
