/-
  Plain words of layer 15: how far it is, round by round, as an array; no program in sight.
-/
import Derived.Deep.WholeRow
import Derived.Test.YtjomijnbnbideaaGreatDoorM01
import Derived.Test.YtjomijnbnbideaaGreatDoorM21
set_option linter.unusedVariables false
set_option linter.unusedSimpArgs false
namespace Go.Inq
open Go Go.RowKit

def arrN (D : Nat → Nat) : Array Value := ((List.range 64).map fun x => Value.int .i64 ((D x : Nat) : Int)).toArray
theorem arrN_size (D : Nat → Nat) : (arrN D).size = 64 := by simp [arrN]
theorem arrN_at {D : Nat → Nat} {x : Nat} (h : x < 64) : (arrN D)[x]? = some (.int .i64 ((D x : Nat) : Int)) := by
  unfold arrN
  rw [gA, List.getElem?_map, List.getElem?_range h]; rfl
theorem arrN_set {D : Nat → Nat} {x v : Nat} (h : x < 64) : (arrN D).setIfInBounds x (.int .i64 ((v : Nat) : Int)) = arrN (fun y => if y = x then v else D y) := by
  unfold arrN
  rw [sA]
  congr 1
  refine List.ext_getElem (by simp) fun i h1 h2 => ?_
  rw [List.getElem_set, List.getElem_map, List.getElem_map, List.getElem_range]
  dsimp only
  by_cases e : x = i
  · rw [if_pos e, if_pos e.symm]
  · rw [if_neg e, if_neg (Ne.symm e)]
theorem arrN_put {D : Nat → Nat} {x k : Nat} (h : x < 64) : (arrN D).setIfInBounds x (.int .i64 ((k : Int) + 1)) = arrN (fun y => if y = x then k + 1 else D y) := by
  rw [← arrN_set h]
  rfl
theorem arrN_one (D : Nat → Nat) : (arrN D).all (·.oneCell') = true := by
  rw [Array.all_eq_true]
  intro i hi
  simp [arrN, Value.oneCell']
theorem arrN_ext {D F : Nat → Nat} (h : ∀ x, D x = F x) : arrN D = arrN F := by rw [show D = F from funext h]
theorem setRow_same {W : World} {g : Nat} {t : TypeId} {cs : Array Value} (hk : Blk W g t cs) : W.setRow g cs = W := by
  unfold Blk at hk
  have h2 : ∀ i, (W.setRow g cs).heap[i]? = W.heap[i]? := fun i => by
    unfold World.setRow
    dsimp only
    rw [Array.getElem?_modify]
    by_cases e : g = i
    · subst e
      rw [if_pos rfl, hk]
      rfl
    · rw [if_neg e]
  have h3 : (W.setRow g cs).heap = W.heap := Array.ext_getElem? h2
  unfold World.setRow at h3 ⊢
  dsimp only at h3
  rw [h3]
theorem wpList_loadArr {P : Program} {W : World} {ops : Array Oper} {rest : List Oper} {o : Oper} {a : Act} {Q : Exit → Act → World → Prop} {t e : TypeId} {p : Operand} {g n : Nat} {cs : Array Value}
    (hg : o.guard = none) (ho : o.op = .load t p) (hp : a.eval p = .pointer (some ⟨g, 0, none⟩)) (hk : Blk W g t cs) (hu : P.underlying t = some (.array n e)) (hi : (P.info? t).map (·.size) = some cs.size)
    (h : wpList P ops Q rest (a.put o.dst (.agg cs)) W) : wpList P ops Q (o :: rest) a W := by
  refine wpList_plain hg (fun K hK => ?_)
  have hr : (Instr.loadAt t (.pointer (some ⟨g, 0, none⟩))).run P W = .ok (.agg cs) W := by
    simp only [Instr.loadAt, Instr.sureAddr, Sem.run_bind, Sem.run_pure, Result.andThen]
    exact run_loadVar_row W g t t cs (0, 0) _ hk hu rfl hi
  unfold Oper.wp execOp
  simp only [ho, hp, Sem.run_bind, Sem.run_pure, Result.andThen_ok, Sem.run_map, hr]
  exact hK _ _ h
theorem results_cell1 {fn : Func} {p : Tmp} {ty : TypeId} (h : fn.results = #[.cell p ty]) {tmps : Array Value} {P : Program} {W : World} {g : Nat} {cs : Array Value} {n : Nat} {e : TypeId} (hp : tmps.getD p undef = .pointer (some ⟨g, 0, none⟩))
    (hk : Blk W g ty cs) (hu : P.underlying ty = some (.array n e)) (hi : (P.info? ty).map (·.size) = some cs.size) : (results fn tmps).run P W = .ok (.agg cs) W := by
  have hr := run_loadVar_row (P := P) W g ty ty cs (0, 0) _ hk hu rfl hi
  simp only [results, h]
  simp [Sem.run_bind, Result.andThen, asAddr, hr, Array.getD_eq_getD_getElem?] at hp ⊢
  rw [hp]
  simp [Sem.run_bind, Result.andThen, hr]
theorem wpList_storeArr {P : Program} {W : World} {ops : Array Oper} {rest : List Oper} {o : Oper} {a : Act} {Q : Exit → Act → World → Prop} {t : TypeId} {p x : Operand} {g : Nat} {cs c' : Array Value}
    (hg : o.guard = none) (ho : o.op = .store t p x) (hp : a.eval p = .pointer (some ⟨g, 0, none⟩)) (hx : a.eval x = .agg c') (hk : Blk W g t cs) (hi : (P.info? t).map (·.size) = some c'.size) (hs : cs.size = c'.size) (h1 : c'.all (·.oneCell') = true)
    (h : wpList P ops Q rest (a.put o.dst undef) (W.setRow g c')) : wpList P ops Q (o :: rest) a W := by
  refine wpList_plain hg (fun K hK => ?_)
  have hr : (Instr.storeAt t (.pointer (some ⟨g, 0, none⟩)) (.agg c')).run P W = .ok () (W.setRow g c') := by
    simp only [Instr.storeAt, Instr.sureAddr, Sem.run_bind, Sem.run_pure, Result.andThen]
    exact run_storeVar_row W g t t cs c' hk hi hs h1
  unfold Oper.wp execOp
  simp only [ho, hp, hx, Sem.run_bind, Sem.run_pure, Result.andThen_ok, Sem.run_map, hr]
  exact hK _ _ h
def farC (n : Nat) (E : Edges) (v k x : Nat) : Nat := if x < n then (match k with | 0 => 0 | k + 1 => farK n E v k x) else 0
def frontK (n : Nat) (E : Edges) (v k : Nat) (z : Nat) : Bool := match k with | 0 => E z v | k + 1 => (List.range n).any fun y => E z y && decide (farK n E v k y = k + 1)
theorem farC_next {n : Nat} {E : Edges} {v k x : Nat} (hx : x < n) : farC n E v (k + 1) x = if farC n E v k x ≠ 0 then farC n E v k x else if frontK n E v k x = true then k + 1 else 0 := by
  unfold farC
  rw [if_pos hx, if_pos hx]
  cases k with
  | zero => rfl
  | succ k => rfl
theorem farC_le {n : Nat} {E : Edges} {v k x : Nat} : farC n E v k x ≤ k := by
  unfold farC
  split
  · cases k with
    | zero => exact Nat.le_refl _
    | succ k => exact farK_le k x
  · omega
theorem farC_new {n : Nat} {E : Edges} {v k x : Nat} (hx : x < n) : farC n E v (k + 1) x = k + 1 ↔ farC n E v k x = 0 ∧ frontK n E v k x = true := by
  have hle := farC_le (n := n) (E := E) (v := v) (k := k) (x := x)
  rw [farC_next hx]
  by_cases h : farC n E v k x = 0
  · rw [if_neg (by omega)]
    cases frontK n E v k x <;> simp [h]
  · rw [if_pos h]
    constructor
    · intro e; omega
    · rintro ⟨e, _⟩; exact absurd e h
theorem frontK_next {n : Nat} {E : Edges} {v k z : Nat} : frontK n E v (k + 1) z = ((List.range n).filter (frontK n E v k)).any fun x => decide (farC n E v k x = 0) && E z x := by
  show ((List.range n).any fun y => E z y && decide (farK n E v k y = k + 1)) = _
  rw [Bool.eq_iff_iff, List.any_eq_true, List.any_eq_true]
  have hn : ∀ y, y < n → (farK n E v k y = k + 1 ↔ farC n E v k y = 0 ∧ frontK n E v k y = true) := fun y hy => by
    rw [← farC_new hy]
    unfold farC
    rw [if_pos hy]
  constructor
  · rintro ⟨y, hy, h⟩
    rw [Bool.and_eq_true] at h
    obtain ⟨h1, h2⟩ := (hn y (List.mem_range.1 hy)).1 (of_decide_eq_true h.2)
    exact ⟨y, List.mem_filter.2 ⟨hy, h2⟩, by rw [h.1, decide_eq_true h1]; rfl⟩
  · rintro ⟨y, hy, h⟩
    obtain ⟨hy1, hy2⟩ := List.mem_filter.1 hy
    rw [Bool.and_eq_true] at h
    exact ⟨y, hy1, by rw [h.2, decide_eq_true ((hn y (List.mem_range.1 hy1)).2 ⟨of_decide_eq_true h.1, hy2⟩)]; rfl⟩
def dIn (D : Nat → Nat) (k : Nat) (l : List Nat) (x : Nat) : Nat := if D x ≠ 0 then D x else if l.contains x = true then k + 1 else 0
def pIn (E : Edges) (D : Nat → Nat) (l : List Nat) (z : Nat) : Bool := l.any fun x => decide (D x = 0) && E z x
theorem dIn_nil (D : Nat → Nat) (k x : Nat) : dIn D k [] x = D x := by
  unfold dIn
  by_cases h : D x = 0 <;> simp [h]
theorem dIn_all {n : Nat} {E : Edges} {v k x : Nat} : dIn (farC n E v k) k ((List.range n).filter (frontK n E v k)) x = farC n E v (k + 1) x := by
  unfold dIn
  by_cases hx : x < n
  · rw [farC_next hx]
    have : ((List.range n).filter (frontK n E v k)).contains x = frontK n E v k x := by
      rw [Bool.eq_iff_iff, List.contains_iff_mem, List.mem_filter, List.mem_range]
      exact ⟨fun h => h.2, fun h => ⟨hx, h⟩⟩
    rw [this]
  · have h1 : farC n E v k x = 0 := by unfold farC; rw [if_neg hx]
    have h2 : farC n E v (k + 1) x = 0 := by unfold farC; rw [if_neg hx]
    have : ((List.range n).filter (frontK n E v k)).contains x = false := by
      rw [Bool.eq_false_iff]
      intro h
      rw [List.contains_iff_mem, List.mem_filter, List.mem_range] at h
      exact hx h.1
    rw [h1, h2, this]
    rfl
theorem dIn_step {D : Nat → Nat} {k : Nat} {l : List Nat} (hnd : l.Nodup) {i : Nat} (hi : i < l.length) : dIn D k (l.take i) l[i] = D l[i] ∧ (D l[i] = 0 → ∀ y, (if y = l[i] then k + 1 else dIn D k (l.take i) y) = dIn D k (l.take (i + 1)) y) ∧ (D l[i] ≠ 0 → ∀ y, dIn D k (l.take i) y = dIn D k (l.take (i + 1)) y) := by
  have hnot : l[i] ∉ l.take i := fun hm => by
    obtain ⟨j, hj, e⟩ := List.mem_take_iff_getElem.1 hm
    exact List.pairwise_iff_getElem.1 (List.nodup_iff_pairwise_ne.1 hnd) j i (by omega) hi (by omega) e
  have hc : (l.take i).contains l[i] = false := by
    rw [Bool.eq_false_iff]
    intro h
    exact hnot (List.contains_iff_mem.1 h)
  have hs : ∀ y, (l.take (i + 1)).contains y = ((l.take i).contains y || y == l[i]) := fun y => by
    rw [List.take_succ_eq_append_getElem hi, List.contains_append]
    congr 1
    rw [List.contains_cons, List.contains_nil, Bool.or_false]
  refine ⟨?_, fun h0 y => ?_, fun h0 y => ?_⟩
  · unfold dIn
    rw [hc]
    by_cases h : D l[i] = 0 <;> simp [h]
  · unfold dIn
    rw [hs]
    by_cases e : y = l[i]
    · subst e
      simp [h0]
    · have : (y == l[i]) = false := by simpa using e
      rw [if_neg e, this, Bool.or_false]
  · unfold dIn
    rw [hs]
    by_cases e : y = l[i]
    · subst e
      rw [if_pos h0, if_pos h0]
    · have : (y == l[i]) = false := by simpa using e
      rw [this, Bool.or_false]
theorem pIn_step {E : Edges} {D : Nat → Nat} {l : List Nat} {i : Nat} (hi : i < l.length) (z : Nat) : pIn E D (l.take (i + 1)) z = (pIn E D (l.take i) z || (decide (D l[i] = 0) && E z l[i])) := by
  unfold pIn
  rw [List.take_succ_eq_append_getElem hi, List.any_append]
  simp
theorem setB_zero {p : Nat → Bool} {n : Nat} : setB p n = 0 ↔ ∀ x, x < n → p x = false := by
  constructor
  · intro h x hx
    have := testBit_setB p n x
    rw [h, Nat.zero_testBit] at this
    simpa [hx] using this.symm
  · intro h
    refine Nat.eq_of_testBit_eq fun i => ?_
    rw [testBit_setB, Nat.zero_testBit]
    by_cases hi : i < n
    · simp [h i hi]
    · simp [hi]
def farA (n : Nat) (E : Edges) (v x : Nat) : Nat := if x < n then farE n E v x else 0
theorem farC_end {n : Nat} {E : Edges} {v k : Nat} (hv : v < n) (h : setB (frontK n E v k) n = 0) (x : Nat) : farC n E v k x = farA n E v x := by
  rw [setB_zero] at h
  unfold farC farA
  split
  · rename_i hx
    cases k with
    | zero =>
      have h0 : ∀ y, y < n → farK n E v 0 y = 0 := fun y hy => by
        show (if _ then _ else _) = _
        rw [if_neg (by rw [show E y v = false from h y hy]; decide)]
      have := farE_stop (n := n) (E := E) (v := v) (k := 0) (fun a b ha hb e => by rw [h0 b hb] at e; omega) hx
      rw [h0 x hx] at this
      exact this
    | succ k =>
      refine farE_stop (fun a b ha hb e => ?_) hx
      have h1 := h a ha
      have h1 : ((List.range n).any fun y => E a y && decide (farK n E v k y = k + 1)) = false := h1
      rw [List.any_eq_false] at h1
      have h2 := h1 b (List.mem_range.2 hb)
      rw [decide_eq_true e, Bool.and_true] at h2
      simpa using h2
  · rfl
theorem front_le {n : Nat} {E : Edges} {v k : Nat} (h : setB (frontK n E v k) n ≠ 0) : k ≤ n := by
  cases k with
  | zero => omega
  | succ k =>
    rcases Classical.em (∃ z, z < n ∧ frontK n E v (k + 1) z = true) with ⟨z, _, hz⟩ | hno
    · have hz : ((List.range n).any fun y => E z y && decide (farK n E v k y = k + 1)) = true := hz
      rw [List.any_eq_true] at hz
      obtain ⟨y, hy, h2⟩ := hz
      rw [Bool.and_eq_true] at h2
      have h3 := of_decide_eq_true h2.2
      have := farK_lev (n := n) (E := E) (v := v) (k := k) (List.mem_range.1 hy)
      omega
    · exact absurd (setB_zero.2 fun x hx => by
        cases hc : frontK n E v (k + 1) x with
        | false => rfl
        | true => exact absurd ⟨x, hx, hc⟩ hno) h
end Go.Inq

namespace Go.Proofs.YtjomijnbnbideaaGreatDoor
open Go.RowKit Go.Inq
set_option maxHeartbeats 8000000
attribute [local go_sem ↓] Go.wp_at_zero Go.wp_at_succ

theorem info180 : (Tryz.prog.info? 180).map (·.size) = some 64 := by kernel_rfl
theorem arrN_lit : #[Value.int .i64 0, .int .i64 0, .int .i64 0, .int .i64 0, .int .i64 0, .int .i64 0, .int .i64 0, .int .i64 0, .int .i64 0, .int .i64 0, .int .i64 0, .int .i64 0, .int .i64 0, .int .i64 0, .int .i64 0, .int .i64 0, .int .i64 0, .int .i64 0, .int .i64 0, .int .i64 0, .int .i64 0, .int .i64 0, .int .i64 0, .int .i64 0, .int .i64 0, .int .i64 0, .int .i64 0, .int .i64 0, .int .i64 0, .int .i64 0, .int .i64 0, .int .i64 0, .int .i64 0, .int .i64 0, .int .i64 0, .int .i64 0, .int .i64 0, .int .i64 0, .int .i64 0, .int .i64 0, .int .i64 0, .int .i64 0, .int .i64 0, .int .i64 0, .int .i64 0, .int .i64 0, .int .i64 0, .int .i64 0, .int .i64 0, .int .i64 0, .int .i64 0, .int .i64 0, .int .i64 0, .int .i64 0, .int .i64 0, .int .i64 0, .int .i64 0, .int .i64 0, .int .i64 0, .int .i64 0, .int .i64 0, .int .i64 0, .int .i64 0, .int .i64 0] = arrN (fun _ => 0) := by kernel_rfl
set_option maxRecDepth 100000 in
theorem far15_any (n : Nat) (A : Option Addr) (c : Nat) (E : Edges) (v : Nat) (w : World) (h : GrS w (Old w) n A c (turnE E)) (hv : v < n) (hTB : TabB w) :
    Calls Tryz.prog 120 #[.agg #[.int .i64 n, .slice A n c], .int .i64 (v : Int)] w fun e w' => e = .returned (.agg (arrN (farA n E v))) ∧ Below w.heap.size w w' := by
  have hn64 := h.n64
  have hv0 : (0 : Int) ≤ (v : Int) := Int.natCast_nonneg _
  have hv1 : (v : Int) < (n : Int) := by omega
  obtain ⟨W0, hW0⟩ : ∃ W0, (w.alloc (.cells #[.int .i64 n, .slice A n c] 56)).alloc (.cells (arrN (fun _ => 0)) 180) = W0 := ⟨_, rfl⟩
  have hB := below_two hW0
  have k0 := Blk.two1 hW0
  have k1 := Blk.two2 hW0
  have hs0 := size_two hW0
  rw [← arrN_lit] at hW0
  have hfr0 : Hid (∀ z, frontK n E v 0 z = E z v) := hide (fun z => rfl)
  have hfc0 : Hid (arrN (fun _ => 0) = arrN (farC n E v 0)) := hide (arrN_ext fun x => by unfold farC; split <;> rfl)
  rw [hfc0.out] at k1
  have hend := hide (fun k => farC_end (n := n) (E := E) (k := k) hv)
  have hfl := hide (fun k => front_le (n := n) (E := E) (v := v) (k := k))
  have hfn := hide (fun k z => frontK_next (n := n) (E := E) (v := v) (k := k) (z := z))
  have hda := hide (fun k x => dIn_all (n := n) (E := E) (v := v) (k := k) (x := x))
  have hh : Hid (∀ W, Below w.heap.size w W → GrS W (Old W) n A c (turnE E)) := hide (fun W hb => h.below hb)
  have hTb : Hid (∀ W, Below w.heap.size w W → TabB W) := hide (fun W hb => hTB.below hb)
  obtain ⟨bb, ob, rfl, -, x0⟩ := (hh.out W0 hB).at_ hv
  have c1 := Blk.n1 k0
  have ht0 : Hid (setB (turnE E v) n = setB (frontK n E v 0) n) := hide (setB_congr fun i _ => rfl)
  rw [ht0.out] at x0
  replace hs0 := hide hs0
  clear h hTB
  go_enter Tryz.func120, Tryz.ntmps120
  go_upto_region 1 with fail
  clear hW0
  go_wp2_with fail
  clear x0 c1
  go_loopw [5, 6] (fun s5 s6 wr => ∃ k : Nat, s6 = .int .i64 ((k : Int) + 1) ∧ s5 = .int .u64 (setB (frontK n E v k) n : Nat) ∧ k ≤ n + 1 ∧ Blk wr w.heap.size 56 #[.int .i64 n, .slice (some ⟨bb, ob, none⟩) n c] ∧ Blk wr (w.heap.size + 1) 180 (arrN (farC n E v k)) ∧ Below w.heap.size w wr) (fun _ s6 _ => n + 3 - (intOf s6).toNat)
  case atStart => exact ⟨0, by go_num, rfl, by omega, k0, k1, hB⟩
  case round =>
    clear k0 k1 hB
    obtain ⟨Wo, rfl⟩ : ∃ Wo, Wo = wr := ⟨_, rfl⟩
    obtain ⟨k, rfl, rfl, hk, k0, k1, hb⟩ := hrel
    have hk1 : (0 : Int) ≤ (k : Int) := Int.natCast_nonneg _
    have h64 := hide (setB_64 (p := frontK n E v k) hn64)
    by_cases hz : setB (frontK n E v k) n = 0
    · have hzb : (setB (frontK n E v k) n != 0) = false := by simp [hz]
      have hea := hide (arrN_ext (hend.out k hz))
      rw [hea.out] at k1
      have hsz := hide (arrN_size (farA n E v))
      have h1 := hide (arrN_one (farA n E v))
      obtain ⟨arr, harr⟩ : ∃ arr, arrN (farA n E v) = arr := ⟨_, rfl⟩
      rw [harr] at k1 hsz h1
      replace harr := hide harr
      generalize setB (frontK n E v k) n = s at *
      clear hea
      go_upto_region 14 with fail
      refine wp_region_lit ?_
      refine wpList_loadArr rfl rfl rfl k1 Tryz.underlying180 (by rw [hsz.out]; exact info180) ?_
      refine wpList_storeArr rfl rfl rfl rfl k1 (by rw [hsz.out]; exact info180) rfl h1.out ?_
      rw [setRow_same k1]
      go_wp2
      refine bodyPost_ret (v := .agg arr) (results_cell1 Tryz.results120 rfl k1 Tryz.underlying180 (by rw [hsz.out]; exact info180)) rfl ⟨by rw [harr.out], hb⟩
    · have hzb : (setB (frontK n E v k) n != 0) = true := by simp [hz]
      have hkn := hide (hfl.out k hz)
      replace hz := hide hz
      have hli : Hid (intsN (listB (setB (frontK n E v k) n)) = intsN ((List.range n).filter (frontK n E v k))) := hide (by rw [listB_setB hn64])
      have hfn2 := hide (hfn.out k)
      have hda2 := hide (hda.out k)
      have hnd : Hid (((List.range n).filter (frontK n E v k)).Nodup) := hide (List.Pairwise.filter _ List.nodup_range)
      have hlt : Hid (∀ x ∈ (List.range n).filter (frontK n E v k), x < n) := hide (fun x hx => List.mem_range.1 (List.mem_filter.1 hx).1)
      have hLl : ((List.range n).filter (frontK n E v k)).length ≤ 64 := Nat.le_trans (List.length_filter_le _ _) (by simp; exact hn64)
      have hbl := hide (list10_any (setB (frontK n E v k) n) h64.out Wo (hTb.out Wo hb))
      rw [hli.out] at hbl
      generalize hLq : (List.range n).filter (frontK n E v k) = L at *
      replace hLq := hide hLq
      have hln := hide (intsN_len L)
      generalize setB (frontK n E v k) n = s at *
      go_wp2_with fail
      refine hbl.out.mono ?_
      rintro e w5 ⟨vl, rfl, hO, hb5⟩
      obtain ⟨Al, cl, rfl⟩ := OwnI.form hO
      have hb6 := hb.trans (hb5.mono hb.size)
      have hg1 : w.heap.size + 1 < Wo.heap.size := k1.lt
      have hIs := hide (OwnI.sl (K := fun b => Wo.heap.size ≤ b ∧ b < w5.heap.size) hO (fun g h1 h2 => ⟨h1, h2⟩))
      replace k0 := k0.below hb5 k0.lt
      replace k1 := k1.below hb5 k1.lt
      have hs5 := hb5.size
      rw [hln.out] at hIs ⊢
      have hd0 : Hid (arrN (farC n E v k) = arrN (dIn (farC n E v k) k [])) := hide (arrN_ext fun x => (dIn_nil _ _ x).symm)
      rw [hd0.out] at k1
      have hp0 : Hid ((0 : Nat) = setB (pIn E (farC n E v k) []) n) := hide (setB_zero.2 fun x _ => rfl).symm
      clear hbl hO hb hb5
      go_wp2_with fail
      go_loopw [7, 22] (fun s7 s22 wq => ∃ i : Nat, i ≤ L.length ∧ s22 = .int .i64 i ∧ s7 = .int .u64 (setB (pIn E (farC n E v k) (L.take i)) n : Nat) ∧ Blk wq w.heap.size 56 #[.int .i64 n, .slice (some ⟨bb, ob, none⟩) n c] ∧ Blk wq (w.heap.size + 1) 180 (arrN (dIn (farC n E v k) k (L.take i))) ∧ Below w.heap.size w wq ∧ Agree (fun b => b < w5.heap.size ∧ b ≠ w.heap.size + 1) w5 wq ∧ w5.heap.size ≤ wq.heap.size) (fun _ s22 _ => L.length - (intOf s22).toNat)
      case atStart => exact ⟨0, Nat.zero_le _, by go_num, by rw [List.take_zero, ← hp0.out]; rfl, k0, by rw [List.take_zero]; exact k1, hb6, Agree.refl _ _, Nat.le_refl _⟩
      case round =>
        clear k0 k1 hb6
        obtain ⟨Wp, rfl⟩ : ∃ Wp, Wp = wr := ⟨_, rfl⟩
        obtain ⟨i, hi, rfl, rfl, k0, k1, hb, hag, hsz⟩ := hrel
        have hi1 : (0 : Int) ≤ (i : Int) := Int.natCast_nonneg _
        by_cases hil : i < L.length
        · have hi2 : (i : Int) < (L.length : Int) := by omega
          have hIp := hIs.out.keep (K' := fun _ => True) (hag.mono fun b hb => ⟨hb.2, by have h1 : Wo.heap.size ≤ b := hb.1; omega⟩) (fun _ _ => trivial)
          obtain ⟨bl, ol, rfl, -, x0⟩ := hIp.at_ (i := i) (by rw [hln.out]; exact hil)
          have hxL : (intsN L)[i]'(by rw [hln.out]; exact hil) = (L[i] : Int) := by simp [intsN]
          rw [hxL] at x0
          have hxn : L[i] < n := hlt.out _ (List.getElem_mem hil)
          obtain ⟨hd1, hd2, hd3⟩ := dIn_step (D := farC n E v k) (k := k) hnd.out hil
          have hps := hide (fun z => pIn_step (E := E) (D := farC n E v k) hil z)
          obtain ⟨x, hx⟩ : ∃ x, L[i] = x := ⟨_, rfl⟩
          rw [hx] at x0 hxn hd1 hd2 hd3 hps
          clear hxL hx
          have hx0 : (0 : Int) ≤ (x : Int) := Int.natCast_nonneg _
          have hx1 : (x : Int) < (n : Int) := by omega
          have hx64 : (x : Int) < 64 := by omega
          have hx64' : x < 64 := by omega
          have e1 := k1.cell x
          rw [arrN_at hx64', hd1] at e1
          have f1 := k1.frozen x
          have c1 := Blk.n1 k0
          have r0 := ((hh.out Wp hb).cells hxn).2
          have hil2 := hide hil
          clear hIp
          by_cases hD : farC n E v k x = 0
          · have hDb : ((farC n E v k x : Int) == 0) = true := by simp [hD]
            have hDb2 : (farC n E v k x == 0) = true := by simp [hD]
            have hset := hide ((arrN_put (D := dIn (farC n E v k) k (L.take i)) (k := k) hx64').trans (arrN_ext (hd2 hD)))
            have hjn : Hid (joinL [setB (pIn E (farC n E v k) (L.take i)) n, setB (turnE E x) n] = setB (pIn E (farC n E v k) (L.take (i + 1))) n) := hide (by
              rw [joinL_two, setB_or]
              refine setB_congr fun z _ => ?_
              rw [hps.out, decide_eq_true hD, Bool.true_and]
              rfl)
            have h641 := hide (setB_64 (p := pIn E (farC n E v k) (L.take i)) hn64)
            have h642 := hide (setB_64 (p := turnE E x) hn64)
            have k1' := k1.set_ x (.int .i64 ((k : Int) + 1))
            rw [hset.out] at k1'
            have k0' := k0.far (p := ⟨w.heap.size + 1, x, none⟩) (show w.heap.size ≠ w.heap.size + 1 by omega) (.int .i64 ((k : Int) + 1))
            have hb' := hb.setCell (p := ⟨w.heap.size + 1, x, none⟩) (Nat.le_succ _) (.int .i64 ((k : Int) + 1))
            have hag' := hag.trans (Agree.setCell ⟨w.heap.size + 1, x, none⟩ (fun h => h.2 rfl) (.int .i64 ((k : Int) + 1)) (w := Wp) (K := fun b => b < w5.heap.size ∧ b ≠ w.heap.size + 1))
            have hsz' : Hid (w5.heap.size ≤ (Wp.setCell ⟨w.heap.size + 1, x, none⟩ (.int .i64 ((k : Int) + 1))).heap.size) := hide (by simpa using hsz)
            have hbz := hide hb'
            generalize setB (pIn E (farC n E v k) (L.take i)) n = s1 at *
            obtain ⟨s2, hs2⟩ : ∃ s2, setB (turnE E x) n = s2 := ⟨_, rfl⟩
            rw [hs2] at hjn h642 r0
            have hs2e := hide hs2
            clear hs2
            clear hps hd1 hd2 hd3 hset hD
            replace hag' := hide hag'
            go_upto_region 11 with fail
            obtain ⟨Wq, hWq⟩ : ∃ Wq, Wp.setCell ⟨w.heap.size + 1, x, none⟩ (.int .i64 ((k : Int) + 1)) = Wq := ⟨_, rfl⟩
            rw [hWq] at hb' k0' k1' hag' hsz'
            rw [hWq]
            have hszq := hb'.size
            have hsq := hsz'.out
            have c1' := Blk.n1 k0'
            have r0' := ((hh.out _ hb').cells hxn).2
            have he2 : Hid (setB (turnE E x) n = s2) := hs2e
            rw [he2.out] at r0'
            obtain ⟨Wz, hWz⟩ : ∃ Wz, Wq.alloc (.cells #[.int .u64 s1, .int .u64 s2] 145) = Wz := ⟨_, rfl⟩
            have kN := hide (U64S.of_blk (l := [s1, s2]) (K := fun _ => True) (Blk.newEq hWz) trivial)
            have kz0 := k0'.allocEq hWz
            have kz1 := k1'.allocEq hWz
            have hbz2 := below_allocEq hb' hWz hszq
            have hagz := hide (hag'.out.trans (Agree.allocEq hWz (fun b hb => by have h1 : b < w5.heap.size := hb.1; omega)))
            have hszz : w5.heap.size ≤ Wz.heap.size := by have := size_allocEq hWz; omega
            have hxy : Hid (∀ y ∈ [s1, s2], y < 18446744073709551616) := hide (by intro y hy; simp at hy; rcases hy with rfl | rfl; exact h641.out; exact h642.out)
            have hsizeq : Hid (Wq.heap.size = Wq.heap.size) := hide rfl
            clear hWq k0 k1 hb hag hsz e1 f1 c1 r0 x0 hb' k0' k1' hag' hsz' hbz
            go_wp2_with fail
            refine (join10_any (some ⟨Wq.heap.size, 0, none⟩) 2 2 [s1, s2] (fun _ => True) _ rfl kN.out hxy.out (by omega)).mono ?_
            rintro e w7 ⟨rfl, rfl⟩
            rw [hjn.out]
            clear hWz kN
            go_wp2
            go_roundw
            case rel => exact ⟨i + 1, hil2.out, by go_num, rfl, kz0, kz1, hbz2, hagz.out, hszz⟩
            case measure => have := hil2.out; simp [intOf]; omega
          · have hDb : ((farC n E v k x : Int) == 0) = false := by rw [beq_eq_false_iff_ne]; omega
            have hDb2 : (farC n E v k x == 0) = false := by simp [hD]
            have hset := hide (arrN_ext (hd3 hD))
            have hpn : Hid (setB (pIn E (farC n E v k) (L.take i)) n = setB (pIn E (farC n E v k) (L.take (i + 1))) n) := hide (setB_congr fun z _ => by rw [hps.out, decide_eq_false hD]; simp)
            rw [hset.out] at k1
            rw [hpn.out]
            clear hps hd1 hd2 hd3 hset hD
            replace hag := hide hag
            go_wp2
            go_roundw
            case rel => exact ⟨i + 1, hil2.out, by go_num, rfl, k0, k1, hb, hag.out, hsz⟩
            case measure => have := hil2.out; simp [intOf]; omega
        · obtain rfl : i = L.length := by omega
          have hen : Hid (setB (pIn E (farC n E v k) (L.take L.length)) n = setB (frontK n E v (k + 1)) n) := hide (setB_congr fun z _ => by rw [List.take_length, ← hLq.out, frontK_next]; rfl)
          have hea : Hid (arrN (dIn (farC n E v k) k (L.take L.length)) = arrN (farC n E v (k + 1))) := hide (arrN_ext fun x => by rw [List.take_length, ← hLq.out]; exact dIn_all)
          rw [hen.out]
          rw [hea.out] at k1
          have hkn2 := hkn.out
          clear hen hea hag hIs
          go_wp2
          go_roundw
          case rel => exact ⟨k + 1, by go_num, rfl, by omega, k0, k1, hb⟩
          case measure => simp [intOf]; omega
end Go.Proofs.YtjomijnbnbideaaGreatDoor
