/-
  Walks: layer 8: hist.Right.
-/
import Derived.Test.YtfhnamomiaekdaaGreatProg
import Derived.Laws.BitsAllLaws
import Derived.Laws.Shifts
import Derived.Lib.TrailingZeros
import Derived.Laws.Bits64b
import Derived.Laws.CopyOwn
import Derived.Test.YtfhnamomiaekdaaGreatT04
import Derived.Test.YtfhnamomiaekdaaGreatT01
import Derived.Test.YtfhnamomiaekdaaGreatT03
set_option linter.unusedVariables false
set_option linter.unusedSimpArgs false
namespace Go.Proofs.YtfhnamomiaekdaaGreat
open Go.RowKit Go.Inq Go.Shelf
set_option maxHeartbeats 4000000
attribute [local go_sem] Oper.semAt_some
attribute [local go_sem ↓] Go.wp_at_zero Go.wp_at_succ

theorem faults8_any (v : Value) (w : World) : Calls Tryz.prog 92 #[.agg #[v]] w fun e w' => e = .returned (.func (.func 153) #[] #[.pointer (some ⟨w.heap.size, 0, none⟩)]) ∧ w' = w.alloc (.cells #[v] 24) := by
  go_enter Tryz.func92, Tryz.ntmps92
  go_wp2
  go_ret
  exact ⟨rfl, rfl⟩
theorem faults8_stops (Bh n₀ c : Nat) (A : Option Addr) (H : List Txn) (hn : SmallH H) (w : World) (hBn : Bh < n₀) (hnW : n₀ ≤ w.heap.size) (hc : w.cell? ⟨Bh, 0, none⟩ = some (.slice A H.length c)) (hT : TxnS w (fun b => b < n₀) (.slice A H.length c) H) :
    SeqStopsK Fence.wide (3 - 1) Tryz.prog 153 #[.pointer (some ⟨Bh, 0, none⟩)] (fun x : Bool => #[Value.bool x]) (KeepsAll n₀) (fun ys => ys = faultsL H) (fun pre => pre <+: faultsL H) (faultsL H).length w := fun l J Jx W hW hJ _ hY h0 =>
  faults1_in (3 - 1) (by omega) l Bh n₀ c A H hn.1 hn.2 J Jx W hJ hY ((hW.cell (p := ⟨Bh, 0, none⟩) (by show Bh < _; omega)).trans hc) hBn (Nat.le_trans hnW hW.size) (TxnS.keep hT (Agree.below hW fun b h => by omega) (fun b h => h)) h0
set_option maxRecDepth 100000 in
theorem right8_any (A : Option Addr) (c : Nat) (H : List Txn) (w : World) (h : TxnS w (Old w) (.slice A H.length c) H) (hn : SmallH H) :
    Calls Tryz.prog 32 #[.agg #[.slice A H.length c]] w fun e w' => e = .returned (.bool (rightH H)) ∧ Below w.heap.size w w' := by
  refine (callsIn_wide (n := 3)).1 ?_
  have hro : Fence.wide.round = none := rfl
  refine callsIn_of_wp_marks Tryz.func32 rfl trivial ?_ hro
  simp only [Tryz.ntmps32, List.size_toArray, List.length_cons, List.length_nil, Nat.reduceAdd, Nat.reduceSub, Array.replicate_succ, Array.replicate_zero, List.push_toArray, List.append_toArray, List.nil_append, List.cons_append]
  gi_wp2_with fail
  refine ⟨trivial, ?_⟩
  refine (callsIn_wide.2 (faults8_any _ _)).mono ?_
  rintro e w1 ⟨rfl, rfl⟩
  dsimp only
  gi_wp2
  obtain ⟨W0, hW0⟩ : ∃ W0, ((w.alloc (.cells #[.slice A H.length c] 24)).alloc (.cells #[.bool false] 4)).alloc (.cells #[.slice A H.length c] 24) = W0 := ⟨_, rfl⟩
  have hs0 : W0.heap.size = w.heap.size + 3 := by rw [← hW0]; simp
  have hBW : Below w.heap.size w W0 := by rw [← hW0]; exact (((Below.refl _ w).alloc (Nat.le_refl _) _).alloc (by simp) _).alloc (by simp; omega) _
  have k1 : Blk W0 (w.heap.size + 1) 4 #[.bool false] := by
    rw [← hW0]
    have := Blk.new (w.alloc (.cells #[.slice A H.length c] 24)) 4 #[.bool false]
    simp only [World.size_alloc] at this
    exact this.alloc _
  have k2 : Blk W0 (w.heap.size + 2) 24 #[.slice A H.length c] := by
    rw [← hW0]
    have := Blk.new ((w.alloc (.cells #[.slice A H.length c] 24)).alloc (.cells #[.bool false] 4)) 24 #[.slice A H.length c]
    simp only [World.size_alloc] at this
    exact this
  simp only [World.size_alloc]
  rw [hW0]
  have h2 : TxnS W0 (fun b => b < w.heap.size) (.slice A H.length c) H := TxnS.keep h (Agree.below hBW fun b h => h) (fun b h => h)
  have c2 := k2.cell 0
  simp only [List.getElem?_toArray, List.getElem?_cons_zero, List.getElem?_cons_succ] at c2
  have c1 := k1.cell 0
  simp only [List.getElem?_toArray, List.getElem?_cons_zero, List.getElem?_cons_succ] at c1
  have f1 := k1.frozen 0
  clear hW0
  refine wpIn_rangeFunc_ownF hro (by omega) (gf := 153) (lb := #[.pointer (some ⟨w.heap.size + 2, 0, none⟩)]) rfl trivial (enters_of Tryz.func153 (by kernel_rfl) rfl)
    (faults8_stops (w.heap.size + 2) (w.heap.size + 3) c A H hn W0 (by omega) (by omega) c2 (TxnS.fit h2 (fun b h => by omega))) KeepsAll.t (KeepsAll.b (by omega)) (Below.refl _ _) (fun _ => rfl)
    (fun pre W => ((pre.all id = true) ∧ W.cell? ⟨w.heap.size + 1, 0, none⟩ = some (.bool false) ∧ W.frozen? ⟨w.heap.size + 1, 0, none⟩ = false) ∧ Below w.heap.size w W)
    (fun cc pre W => (cc = .ret ∧ false ∈ pre ∧ W.cell? ⟨w.heap.size + 1, 0, none⟩ = some (.bool false)) ∧ Below w.heap.size w W)
    (OwnFrom.and (Own.from (fun s A B row hs hg hr => ⟨hs.1, cell_kept hs.2.1 hg hr, (frozen_kept hs.2.1 hg hr).trans hs.2.2⟩) _) (ownFrom_below (Nat.le_refl _) (by omega)))
    (fun cc => OwnFrom.and (Own.from (fun s A B row hs hg hr => ⟨hs.1, hs.2.1, cell_kept hs.2.2 hg hr⟩) _) (ownFrom_below (Nat.le_refl _) (by omega)))
    ⟨⟨rfl, c1, f1⟩, hBW⟩
    (fun x => { tmps := #[.agg #[.slice A H.length c], .pointer (some ⟨w.heap.size, 0, none⟩), .pointer (some ⟨w.heap.size + 1, 0, none⟩), .bool x, .agg #[.slice A H.length c], .func (.func 153) #[] #[.pointer (some ⟨w.heap.size + 2, 0, none⟩)], .bool x, undef, undef], defers := [] }) ?assign ?body ?done ?stop
  case assign =>
    intro l x W K hK
    gi_wp2
    exact hK
  case body =>
    rintro l pre x W ⟨⟨hp, hcr, hfr⟩, hB⟩ _
    cases x with
    | false =>
      gi_wp2
      exact ⟨KeepsOthers.setCell _ _ _, ⟨rfl, by simp, World.cell?_setCell_same' _ _ _ (by rw [hcr]; rfl)⟩, hB.setCell (p := ⟨w.heap.size + 1, 0, none⟩) (by simp) _⟩
    | true =>
      gi_wp2
      exact ⟨KeepsOthers.refl _, KeepsAll.refl _ _, ⟨by rw [List.all_append, hp]; rfl, hcr, hfr⟩, hB⟩
  case done =>
    rintro D xs W hD rfl ⟨⟨hall, hcr, hfr⟩, hB⟩ hK
    have hall := hide hall
    gi_wp2
    have hK' := (KeepsOthers.setCell W ⟨w.heap.size + 1, 0, none⟩ (.bool true)).same D _ hK rfl
    refine ⟨by simp, .inl ⟨_, _, rfl, run_takeDeferred hK', ?_⟩⟩
    have hc5 := cell_kept (World.cell?_setCell_same' W ⟨w.heap.size + 1, 0, none⟩ (.bool true) (by rw [hcr]; rfl)) (grownBy_putObj' _ D (.deferred none)) (fun r e => by cases e; exact ⟨_, hK', rfl⟩)
    refine ⟨.bool true, ?_, by unfold rightH; rw [hall.out], (hB.setCell (p := ⟨w.heap.size + 1, 0, none⟩) (by simp) _).trans (belowK_b (w := w) (Nat.le_refl _) _ D _ _ (by omega) hK' rfl rfl)⟩
    simp [results, Tryz.f32, go_sem, hc5]
  case stop =>
    rintro D cc pre W hD hpre ⟨⟨rfl, hin, hcr⟩, hB⟩ hK
    have hf := hide (pre_false hpre hin)
    gi_wp2
    refine ⟨by simp, .inl ⟨_, _, rfl, run_takeDeferred hK, ?_⟩⟩
    have hc5 := cell_kept hcr (grownBy_putObj' _ D (.deferred none)) (fun r e => by cases e; exact ⟨_, hK, rfl⟩)
    refine ⟨.bool false, ?_, by unfold rightH; rw [hf.out], hB.trans (belowK_b (w := w) (Nat.le_refl _) W D _ _ (by omega) hK rfl rfl)⟩
    simp [results, Tryz.f32, go_sem, hc5]
end Go.Proofs.YtfhnamomiaekdaaGreat

namespace Go.Inq

/-- A number's bit. -/
def bitN (i : Int) : Nat := if 0 ≤ i ∧ i < 64 then 2 ^ i.toNat else 0
theorem bitN_in {i : Int} (h0 : 0 ≤ i) (h : i < 64) : bitN i = 2 ^ i.toNat := by unfold bitN; rw [if_pos ⟨h0, h⟩]
theorem bitN_low {i : Int} (h : i < 0) : bitN i = 0 := by unfold bitN; rw [if_neg (by omega)]
theorem bitN_high {i : Int} (h : 64 ≤ i) : bitN i = 0 := by unfold bitN; rw [if_neg (by omega)]
theorem bitN_lt (i : Int) : bitN i < 18446744073709551616 := by
  unfold bitN
  split
  · rename_i h
    exact Nat.lt_of_lt_of_le (Nat.pow_lt_pow_right (by decide) (show i.toNat < 64 by omega)) (by decide)
  · decide
/-- Has a set a number? -/
def hasB (s : Nat) (i : Int) : Bool := decide (0 ≤ i) && s.testBit i.toNat
theorem hasB_nat (s i : Nat) : hasB s (i : Int) = s.testBit i := by unfold hasB; simp
theorem and_bitN {s : Nat} (hs : s < 18446744073709551616) (i : Int) : decide (s &&& bitN i = 0) = !hasB s i := by
  unfold hasB bitN
  by_cases h0 : 0 ≤ i
  · by_cases h : i < 64
    · rw [if_pos ⟨h0, h⟩, Bool.eq_iff_iff, decide_eq_true_iff, and_one]; simp [h0]
    · rw [if_neg (by omega)]
      have : s.testBit i.toNat = false := Nat.testBit_lt_two_pow (Nat.lt_of_lt_of_le (show s < 2 ^ 64 from hs) (Nat.pow_le_pow_right (by decide) (by omega)))
      simp [this]
  · rw [if_neg (by omega)]; simp [h0]
/-- A set with a number. -/
def withB (s : Nat) (i : Int) : Nat := s ||| bitN i
theorem withB_lt {s : Nat} (hs : s < 18446744073709551616) (i : Int) : withB s i < 18446744073709551616 := Nat.or_lt_two_pow (n := 64) hs (bitN_lt i)
theorem withB_bit (s : Nat) {i : Nat} (hi : i < 64) (j : Nat) : (withB s (i : Int)).testBit j = (s.testBit j || decide (i = j)) := by
  unfold withB
  rw [bitN_in (by omega) (by omega), Int.toNat_natCast]
  exact one_or s i j
/-- All that is in some sets. -/
def joinL (l : List Nat) : Nat := l.foldl (· ||| ·) 0
theorem foldl_or_bit (l : List Nat) : ∀ (a i : Nat), (l.foldl (· ||| ·) a).testBit i = (a.testBit i || l.any fun x => x.testBit i) := by
  induction l with
  | nil => intro a i; simp
  | cons x r ih => intro a i; rw [List.foldl_cons, ih, Nat.testBit_or, List.any_cons, Bool.or_assoc]
theorem joinL_bit (l : List Nat) (i : Nat) : (joinL l).testBit i = l.any fun x => x.testBit i := by
  unfold joinL; rw [foldl_or_bit]; simp
theorem joinL_lt {l : List Nat} {n : Nat} (h : ∀ x ∈ l, x < 2 ^ n) : joinL l < 2 ^ n := by
  refine Nat.lt_pow_two_of_testBit _ (fun i hi => ?_)
  rw [joinL_bit, List.any_eq_false]
  intro x hx
  rw [Nat.testBit_lt_two_pow (Nat.lt_of_lt_of_le (h x hx) (Nat.pow_le_pow_right (by decide) hi))]
  simp
theorem joinL_take {l : List Nat} {k : Nat} (h : k < l.length) : joinL (l.take (k + 1)) = joinL (l.take k) ||| l[k] := by
  unfold joinL
  rw [List.take_succ_eq_append_getElem h, List.foldl_append]; rfl
/-- Is all of one set in another one? -/
def subB (a b : Nat) : Bool := decide (a &&& (18446744073709551615 - b) = 0)
theorem subB_iff {a b : Nat} (ha : a < 18446744073709551616) (hb : b < 18446744073709551616) : subB a b = true ↔ ∀ i, a.testBit i = true → b.testBit i = true := by
  unfold subB
  rw [decide_eq_true_iff]
  have hc : ∀ i, (18446744073709551615 - b).testBit i = (decide (i < 64) && !b.testBit i) := by
    intro i
    have := Nat.testBit_two_pow_sub_succ (n := 64) (x := b) hb i
    rw [show 2 ^ 64 - (b + 1) = 18446744073709551615 - b by omega] at this
    exact this
  constructor
  · intro h i hi
    have hi64 : i < 64 := by
      rcases Nat.lt_or_ge i 64 with h | h
      · exact h
      · rw [Nat.testBit_lt_two_pow (Nat.lt_of_lt_of_le (show a < 2 ^ 64 from ha) (Nat.pow_le_pow_right (by decide) h))] at hi; cases hi
    have := congrArg (fun y => y.testBit i) h
    simp only [Nat.testBit_and, hc, hi, decide_eq_true hi64, Nat.zero_testBit, Bool.true_and] at this
    simpa using this
  · intro h
    refine Nat.eq_of_testBit_eq (fun i => ?_)
    rw [Nat.testBit_and, hc, Nat.zero_testBit]
    by_cases hi : a.testBit i = true
    · rw [h i hi]; simp
    · simp [hi]
theorem pow_le_64 {n : Nat} (h : n ≤ 64) : 2 ^ n ≤ 18446744073709551616 := Nat.le_trans (Nat.pow_le_pow_right (by decide) h) (by decide)
/-- Rows that may be are of its nodes. -/
theorem sub_nodes {l : List Nat} {n : Nat} (hn : n ≤ 64) (h : ∀ x ∈ l, x < 2 ^ n) : subB (joinL l) (2 ^ n - 1) = true := by
  have hp := pow_le_64 hn
  have hj := joinL_lt h
  rw [subB_iff (by omega) (by have := Nat.two_pow_pos n; omega)]
  intro i hi
  rw [Nat.testBit_two_pow_sub_one]
  refine decide_eq_true ?_
  rcases Nat.lt_or_ge i n with h | h
  · exact h
  · rw [Nat.testBit_lt_two_pow (Nat.lt_of_lt_of_le hj (Nat.pow_le_pow_right (by decide) h))] at hi; cases hi

theorem listB_setB {p : Nat → Bool} {n : Nat} (hn : n ≤ 64) : listB (setB p n) = (List.range n).filter p := by
  unfold listB
  obtain ⟨m, hm⟩ := Nat.le.dest hn
  rw [← hm, List.range_add, List.filter_append]
  have h1 : (List.range n).filter (fun i => (setB p n).testBit i) = (List.range n).filter p := List.filter_congr fun i hi => by
    have : i < n := by simpa using hi
    rw [testBit_setB]; simp [this]
  have h2 : ((List.range m).map (n + ·)).filter (fun i => (setB p n).testBit i) = [] := by
    rw [List.filter_eq_nil_iff]
    intro i hi
    obtain ⟨k, _, rfl⟩ := List.mem_map.1 hi
    rw [testBit_setB]; simp; intro h; omega
  rw [h1, h2, List.append_nil]

/-- One edge. -/
def oneE (a b : Nat) : Edges := fun x y => decide (x = a) && decide (y = b)
def noE : Edges := fun _ _ => false
theorem rowsG_no (n : Nat) : rowsG n noE = List.replicate n 0 := by
  refine List.ext_getElem (by simp [rowsG_length]) fun a h1 h2 => ?_
  have ha : a < n := by rw [rowsG_length] at h1; exact h1
  rw [rowsG_at ha, List.getElem_replicate]
  refine Nat.eq_of_testBit_eq (fun i => ?_)
  rw [testBit_setB]; simp [noE]
theorem rowsG_get {n : Nat} {E : Edges} {a : Nat} (h : a < (rowsG n E).length) : (rowsG n E)[a] = setB (E a) n := rowsG_at (by rw [rowsG_length] at h; exact h)
/-- A row with a number more. -/
theorem setB_with {p : Nat → Bool} {n b : Nat} (hb : b < n) (hn : n ≤ 64) : withB (setB p n) (b : Int) = setB (fun y => p y || decide (y = b)) n := by
  refine setB_eq ?_ (fun i hi => ?_)
  · refine Nat.lt_pow_two_of_testBit _ (fun i hi => ?_)
    rw [withB_bit _ (by omega), testBit_setB]
    simp; omega
  · rw [withB_bit _ (by omega), testBit_setB]
    have : decide (b = i) = decide (i = b) := by simp [eq_comm]
    simp [hi, this]
theorem rowsG_add {n : Nat} {E : Edges} {a b : Nat} (ha : a < n) (hb : b < n) (hn : n ≤ 64) : (rowsG n E).set a (withB ((rowsG n E)[a]'(by rw [rowsG_length]; exact ha)) (b : Int)) = rowsG n (orE E (oneE a b)) := by
  generalize e2 : (rowsG n E)[a]'(by rw [rowsG_length]; exact ha) = v
  rw [rowsG_at ha] at e2
  subst e2
  refine List.ext_getElem (by simp [rowsG_length]) fun x h1 h2 => ?_
  have hx : x < n := by rw [rowsG_length] at h2; exact h2
  have e1 : (rowsG n (orE E (oneE a b)))[x]'h2 = setB (orE E (oneE a b) x) n := rowsG_at hx
  have e3 : (rowsG n E)[x]'(by rw [rowsG_length]; exact hx) = setB (E x) n := rowsG_at hx
  rw [List.getElem_set, e1]
  split
  · rename_i e
    subst e
    rw [setB_with hb hn]
    exact setB_congr fun y hy => by simp [orE, oneE]
  · rename_i e
    rw [e3]
    exact setB_congr fun y hy => by
      have : decide (x = a) = false := by simp; omega
      simp [orE, oneE, this]
theorem joinL_two (a b : Nat) : joinL [a, b] = a ||| b := by unfold joinL; simp
theorem setB_or {p q : Nat → Bool} {n : Nat} : setB p n ||| setB q n = setB (fun y => p y || q y) n := by
  refine setB_eq (Nat.or_lt_two_pow (setB_lt _ _) (setB_lt _ _)) (fun i hi => ?_)
  rw [Nat.testBit_or, testBit_setB, testBit_setB]; simp [hi]
/-- All edges of a graph. -/
def edgesG (n : Nat) (E : Edges) : List (Nat × Nat) := ((List.range n).map fun a => ((List.range n).filter (E a)).map fun b => (a, b)).flatten
theorem edgesG_mem {n : Nat} {E : Edges} {a b : Nat} : (a, b) ∈ edgesG n E ↔ a < n ∧ b < n ∧ E a b = true := by
  unfold edgesG
  rw [List.mem_flatten]
  constructor
  · rintro ⟨l, hl, h⟩
    obtain ⟨x, hx, rfl⟩ := List.mem_map.1 hl
    obtain ⟨y, hy, e⟩ := List.mem_map.1 h
    injection e with e1 e2
    subst e1 e2
    rw [List.mem_filter] at hy
    exact ⟨by simpa using hx, by simpa using hy.1, hy.2⟩
  · rintro ⟨ha, hb, he⟩
    exact ⟨_, List.mem_map.2 ⟨a, by simpa using ha, rfl⟩, List.mem_map.2 ⟨b, List.mem_filter.2 ⟨by simpa using hb, he⟩, rfl⟩⟩
/-- The edges of a row of edges. -/
def ofL (l : List (Nat × Nat)) : Edges := fun a b => l.contains (a, b)
theorem ofL_snoc (l : List (Nat × Nat)) (a b : Nat) : ofL (l ++ [(a, b)]) = orE (ofL l) (oneE a b) := by
  funext x y
  unfold ofL orE oneE
  rw [Bool.eq_iff_iff]
  simp
end Go.Inq

namespace Go.Inq
open Go Go.RowKit

def encU (n : Nat) : List Value := [.int .u64 n]
/-- A slice of sets of bits. -/
def U64S (w : World) (K : Nat → Prop) (v : Value) (l : List Nat) : Prop := SlR 1 (Flat encU) w K v l
section
variable {w w' : World} {K K' : Nat → Prop} {v : Value} {l : List Nat}
theorem U64S.keep (h : U64S w K v l) (ha : Agree K w w') (hk : ∀ b, K b → K' b) : U64S w' K' v l := SlR.keep (Flat.stab _) h ha hk
theorem U64S.below (h : U64S w (Old w) v l) (hb : Below w.heap.size w w') : U64S w' (Old w') v l := SlR.below (Flat.stab _) h hb
theorem U64S.fit (h : U64S w K v l) (hk : ∀ b, K b → K' b) : U64S w K' v l := SlR.fit (Flat.stab _) h hk
theorem U64S.at_ {A : Option Addr} {n c : Nat} (h : U64S w K (.slice A n c) l) {i : Nat} (hi : i < l.length) : ∃ b off, A = some ⟨b, off, none⟩ ∧ K b ∧ w.cell? ⟨b, off + i, none⟩ = some (.int .u64 (l[i] : Nat)) := by
  obtain ⟨b, off, cs, hA, hK, _, hR, hc⟩ := SlR.at_ h hi
  unfold Flat at hR
  subst hR
  have := hc 0 _ rfl
  rw [Nat.mul_one, Nat.add_zero] at this
  exact ⟨b, off, hA, hK, this⟩
theorem U64S.cells {b off n c : Nat} (h : U64S w K (.slice (some ⟨b, off, none⟩) n c) l) {i : Nat} (hi : i < l.length) : K b ∧ w.cell? ⟨b, off + i, none⟩ = some (.int .u64 (l[i] : Nat)) := by
  obtain ⟨cs, hK, _, hR, hc⟩ := SlR.cells h hi
  unfold Flat at hR
  subst hR
  have := hc 0 _ rfl
  rw [Nat.mul_one, Nat.add_zero] at this
  exact ⟨hK, this⟩
theorem U64S.nil (w : World) (K : Nat → Prop) (A : Option Addr) (c : Nat) : U64S w K (.slice A 0 c) [] := SlR.nil _ _ _ _ _ _
/-- A block of sets, whole. -/
theorem U64S.of_blk {g : Nat} {t : TypeId} (h : Blk w g t (l.map fun x : Nat => Value.int .u64 x).toArray) (hK : K g) : U64S w K (.slice (some ⟨g, 0, none⟩) l.length l.length) l := by
  refine ⟨some ⟨g, 0, none⟩, l.length, l.map encU, rfl, Nat.le_refl _, by simp, fun i cs x h1 h2 => ?_, fun _ => ⟨g, 0, rfl, hK, fun i j cs u h1 h2 => ?_⟩⟩
  · rw [List.getElem?_map, h2] at h1
    injection h1 with h1
    exact ⟨by rw [← h1]; rfl, h1.symm⟩
  · rw [List.getElem?_map] at h1
    cases hl : l[i]? with
    | none => rw [hl] at h1; cases h1
    | some x =>
      rw [hl] at h1
      injection h1 with h1
      subst h1
      cases j with
      | zero =>
        injection h2 with h2
        rw [Nat.zero_add, Nat.mul_one, Nat.add_zero, h.cell, List.getElem?_toArray, List.getElem?_map, hl, ← h2]
        rfl
      | succ j => simp [encU] at h2
end

/-- A graph of n nodes. -/
structure GrS (w : World) (K : Nat → Prop) (n : Nat) (A : Option Addr) (c : Nat) (E : Edges) : Prop where
  sl : U64S w K (.slice A n c) (rowsG n E)
  n64 : n ≤ 64
/-- A graph's rows, as a block of its own. -/
def rowsB (n : Nat) (E : Edges) : Array Value := ((rowsG n E).map fun x : Nat => Value.int .u64 x).toArray
theorem rowsB_at {n : Nat} {E : Edges} {a : Nat} (h : a < n) : (rowsB n E)[a]? = some (.int .u64 (setB (E a) n : Nat)) := by
  unfold rowsB
  rw [List.getElem?_toArray, List.getElem?_map, List.getElem?_eq_getElem (by rw [rowsG_length]; exact h), rowsG_at h]; rfl
theorem rowsB_add {n : Nat} {E : Edges} {a b : Nat} (ha : a < n) (hb : b < n) (hn : n ≤ 64) : (rowsB n E).setIfInBounds a (.int .u64 (withB (setB (E a) n) (b : Int) : Nat)) = rowsB n (orE E (oneE a b)) := by
  unfold rowsB
  rw [← rowsG_add ha hb hn, List.setIfInBounds_toArray, List.map_set, rowsG_at ha]
theorem rowsB_set {n : Nat} {E : Edges} {a x : Nat} {p : Nat → Bool} (ha : a < n) (hx : x = setB p n) : (rowsB n E).setIfInBounds a (.int .u64 (x : Nat)) = rowsB n (fun i => if i = a then p else E i) := by
  unfold rowsB
  rw [List.setIfInBounds_toArray]
  congr 1
  refine List.ext_getElem (by simp [rowsG_length]) fun i h1 h2 => ?_
  have hi : i < n := by simpa [rowsG_length] using h2
  rw [List.getElem_set, List.getElem_map, List.getElem_map, rowsG_at hi, rowsG_at hi]
  by_cases e : a = i
  · subst e; rw [if_pos rfl, if_pos rfl, hx]
  · rw [if_neg e, if_neg (fun h => e h.symm)]
theorem rowsB_no (n : Nat) : rowsB n noE = madeCells #[.int .u64 0] n := by
  unfold rowsB
  rw [rowsG_no]
  refine Array.ext (by simp [size_madeCells]) fun i h1 h2 => ?_
  simp [madeCells, Nat.mod_one]
theorem rowsB_congr {n : Nat} {E F : Edges} (h : ∀ a b, a < n → b < n → E a b = F a b) : rowsB n E = rowsB n F := by unfold rowsB; rw [rowsG_congr h]
section
variable {w w' : World} {K K' : Nat → Prop} {n c : Nat} {A : Option Addr} {E F : Edges}
theorem GrS.keep (h : GrS w K n A c E) (ha : Agree K w w') (hk : ∀ b, K b → K' b) : GrS w' K' n A c E := ⟨h.sl.keep ha hk, h.n64⟩
theorem GrS.below (h : GrS w (Old w) n A c E) (hb : Below w.heap.size w w') : GrS w' (Old w') n A c E := ⟨h.sl.below hb, h.n64⟩
theorem GrS.fit (h : GrS w K n A c E) (hk : ∀ b, K b → K' b) : GrS w K' n A c E := ⟨h.sl.fit hk, h.n64⟩
theorem GrS.at_ (h : GrS w K n A c E) {i : Nat} (hi : i < n) : ∃ b off, A = some ⟨b, off, none⟩ ∧ K b ∧ w.cell? ⟨b, off + i, none⟩ = some (.int .u64 (setB (E i) n : Nat)) := by
  obtain ⟨b, off, hA, hK, hc⟩ := h.sl.at_ (i := i) (by rw [rowsG_length]; exact hi)
  rw [rowsG_at hi] at hc
  exact ⟨b, off, hA, hK, hc⟩
theorem GrS.cells {b off : Nat} (h : GrS w K n (some ⟨b, off, none⟩) c E) {i : Nat} (hi : i < n) : K b ∧ w.cell? ⟨b, off + i, none⟩ = some (.int .u64 (setB (E i) n : Nat)) := by
  obtain ⟨b', off', hA, hK, hc⟩ := h.at_ hi
  injection hA with hA; injection hA with h1 h2; subst h1 h2
  exact ⟨hK, hc⟩
theorem GrS.of_blk {g : Nat} {t : TypeId} (h : Blk w g t (rowsB n E)) (hK : K g) (hn : n ≤ 64) : GrS w K n (some ⟨g, 0, none⟩) n E := by
  have := U64S.of_blk (l := rowsG n E) h hK
  rw [rowsG_length] at this
  exact ⟨this, hn⟩
theorem GrS.congr (h : GrS w K n A c E) (hE : ∀ a b, a < n → b < n → E a b = F a b) : GrS w K n A c F := ⟨by rw [← rowsG_congr hE]; exact h.sl, h.n64⟩
theorem GrS.zero (w : World) (K : Nat → Prop) (A : Option Addr) (c : Nat) (E : Edges) : GrS w K 0 A c E := ⟨by simpa [rowsG] using U64S.nil w K A c, by omega⟩
end
theorem setB_64 {p : Nat → Bool} {n : Nat} (h : n ≤ 64) : setB p n < 18446744073709551616 := Nat.lt_of_lt_of_le (setB_lt p n) (pow_le_64 h)
/-- What makes a graph tells: a block of its own, and that it may be. -/
def NewG (t : TypeId) (w : World) (n : Nat) (E : Edges) (e : Ending) (w' : World) : Prop :=
  ∃ g, w.heap.size ≤ g ∧ e = .returned (.tuple #[.agg #[.int .i64 n, .slice (some ⟨g, 0, none⟩) n n], .int .i64 0]) ∧ Blk w' g t (rowsB n E) ∧ Below w.heap.size w w'
theorem NewG.congr {t : TypeId} {w w' : World} {n : Nat} {E F : Edges} {e : Ending} (h : NewG t w n E e w') (hE : ∀ a b, a < n → b < n → E a b = F a b) : NewG t w n F e w' := by
  unfold NewG at h ⊢
  rw [← rowsB_congr hE]; exact h
end Go.Inq

namespace Go.Proofs.YtfhnamomiaekdaaGreat
open Go.RowKit Go.Inq
set_option maxHeartbeats 1000000
attribute [local go_sem ↓] Go.wp_at_zero Go.wp_at_succ

end Go.Proofs.YtfhnamomiaekdaaGreat

namespace Go.Proofs.YtfhnamomiaekdaaGreat
open Go.RowKit Go.Inq
set_option maxHeartbeats 1000000
attribute [local go_sem ↓] Go.wp_at_zero Go.wp_at_succ

/-- The library's table lies in its variable. -/
def TabB (w : World) : Prop := ∀ j, j < Lib.deBruijn64tab.length → w.cell? ⟨0, j, none⟩ = some (.int .u8 (Lib.deBruijn64tab.getD j 0))
theorem TabB.lt {w : World} (h : TabB w) : 0 < w.heap.size := by
  have := h 0 (by decide)
  rcases Nat.lt_or_ge 0 w.heap.size with g | g
  · exact g
  · unfold World.cell? at this; simp [Array.getElem?_eq_none g] at this
theorem TabB.below {w w' : World} (h : TabB w) (hb : Below w.heap.size w w') : TabB w' := fun j hj => (hb.cell (p := ⟨0, j, none⟩) h.lt).trans (h j hj)
theorem TabB.below' {w w' : World} {B : Nat} (h : TabB w) (hb : Below B w w') (hB : 0 < B) : TabB w' := fun j hj => (hb.cell (p := ⟨0, j, none⟩) hB).trans (h j hj)
theorem TabB.drewN {w : World} (h : TabB w) (n : Nat) : TabB (w.drewN n) := h
theorem tz_key (x a : Nat) (hx : x < 18446744073709551616) (hx0 : x ≠ 0) (hlow : x &&& (18446744073709551616 - x) = a) :
    IntKind.u64.wrap (bits BinOp.and IntKind.u64 (x : Int) (IntKind.u64.wrap (-(x : Int))) * 285870213051353865) / 288230376151711744 = ((a * 285870213051353865 % 18446744073709551616 / 288230376151711744 : Nat) : Int) := by
  have e1 : IntKind.u64.wrap (-(x : Int)) = ((18446744073709551616 - x : Nat) : Int) := by rw [IntKind.wrap_u64]; omega
  rw [e1, u64_and_nat x _ hx (by omega), hlow, IntKind.wrap_u64]
  omega
end Go.Proofs.YtfhnamomiaekdaaGreat

namespace Go.Inq
open Go Go.RowKit

theorem below_grown {B : Nat} {w0 w w' : World} {row : Option Nat} (hb : Below B w0 w) (hg : w.grownBy w' row) (hB : B ≤ w.heap.size) (hr : ∀ k, row = some k → B ≤ k) : Below B w0 w' :=
  hb.trans ⟨hg.os, hg.tape, hg.output, hg.size, fun k hk => hg.block k (Nat.lt_of_lt_of_le hk hB) (fun e => by have := hr k e.symm; omega)⟩

/-- append(s, x), the element a block that was just made. -/
theorem wpList_push {P : Program} {W : World} {ops : Array Oper} {rest : List Oper} {o : Oper} {a : Act} {Q : Exit → Act → World → Prop} {α : Type} {enc : α → List Value}
    (hgd : o.guard = none) (s x : Operand) (t : TypeId) (ho : o.op = .call { callee := .builtin .append, args := #[s, x], argTypes := #[t, t] })
    (base : Nat) (e : TypeId) (i : TypeInfo) (z : Value) (size bytes : Nat) (ht : P.underlying t = some (.slice e)) (hi : P.info? e = some i) (hz : i.zero = some z)
    (hsize : i.size = size) (hby : i.bytes = bytes) (hzs : z.cells.size = size) (hsz : 0 < size)
    (v : Value) (l : List α) (hs : a.eval s = v) (hown : W.ownsRow base e size v l.length (l.map enc).flatten) (hen : ∀ x, (enc x).length = size)
    (x0 : α) (cs : Array Value) (hcs : cs.toList = enc x0) (hx : a.eval x = .slice (some ⟨W.heap.size, 0, none⟩) 1 1)
    (h1 : ∀ x, ∀ u ∈ enc x, u.oneCell' = true) (h63 : l.length + 1 ≤ maxLen) (hbytes : (l.length + 1) * bytes ≤ 140737488355328) (hbase : base ≤ W.heap.size)
    (w0 : World) (B : Nat) (hB : B ≤ base) (hb : Below B w0 W)
    (h : ∀ v' w', w'.ownsRow base e size v' (l ++ [x0]).length ((l ++ [x0]).map enc).flatten → (W.alloc (.cells cs e)).grownBy w' v.ownBlock → Below B w0 w' → (v'.ownBlock = v.ownBlock ∨ v'.ownBlock = some (W.heap.size + 1)) → wpList P ops Q rest (a.put o.dst v') w') :
    wpList P ops Q (o :: rest) a (W.alloc (.cells cs e)) := by
  have hk : Blk (W.alloc (.cells cs e)) W.heap.size e cs := Blk.new _ _ _
  have hl : cs.size = size := by rw [← Array.length_toList, hcs, hen]
  refine wpList_append_flat (enc := enc) hgd s x t ho base e i z size bytes ht hi hz hsize hby hzs hsz v (fun _ => True) l hs (hown.alloc _) hen _ [x0] hx (SlR.one hk hl (by unfold Flat; exact hcs) trivial) h1 h63 hbytes (by simp; omega) ?_
  intro v' w' g1 g2 g3
  refine h v' w' g1 g2 (below_grown (hb.alloc (by omega) _) g2 (by simp; omega) ?_) (by simpa using g3)
  intro k hk
  have := (hown.lt k hk).1
  omega
end Go.Inq

namespace Go.Proofs.YtfhnamomiaekdaaGreat
open Go.RowKit Go.Inq
set_option maxHeartbeats 1000000
attribute [local go_sem ↓] Go.wp_at_zero Go.wp_at_succ

def intsN (l : List Nat) : List Int := l.map fun (n : Nat) => (n : Int)
theorem intsN_snoc (l : List Nat) (x : Nat) : intsN (l ++ [x]) = intsN l ++ [(x : Int)] := by simp [intsN]
theorem intsN_len (l : List Nat) : (intsN l).length = l.length := by simp [intsN]
theorem intsN_at {l : List Nat} {i : Nat} (h : i < l.length) : (intsN l)[i]'(by rw [intsN_len]; exact h) = (l[i] : Int) := by simp [intsN]
theorem infoI10 : (Tryz.prog.info? 3).map (fun i => (i.zero, i.size, i.bytes)) = some (some (.int .i64 0), 1, 8) := by kernel_rfl
/-- A row of numbers of the call's own. -/
def OwnI (w : World) (base : Nat) (v : Value) (l : List Int) : Prop := w.ownsRow base 3 1 v l.length (l.map Go.Inq.encI).flatten
/-- What a call tells, where it is such a row. -/
def OutI (w : World) (l : List Int) (e : Ending) (w' : World) : Prop := ∃ v, e = .returned v ∧ OwnI w' w.heap.size v l ∧ Below w.heap.size w w'
theorem OwnI.form {w : World} {base : Nat} {v : Value} {l : List Int} (h : OwnI w base v l) : ∃ A c, v = .slice A l.length c := own_slice h
theorem OwnI.sl {w : World} {base : Nat} {v : Value} {l : List Int} (h : OwnI w base v l) {K : Nat → Prop} (hK : ∀ g, base ≤ g → g < w.heap.size → K g) : IntS w K v l := SlR.of_flat h rfl (fun _ => rfl) hK
theorem OwnI.nil (w : World) (base : Nat) : OwnI w base (.slice none 0 0) [] := World.ownsRow_nil _ _ _ _
/-- Below 2 to the power of 64. -/
def B64 (n : Nat) : Prop := n < 18446744073709551616
def restL (s y : Nat) (l : List Nat) : Prop := l ++ listB y = listB s
theorem restL_next {s y : Nat} {l : List Nat} (h : restL s y l) (h0 : y ≠ 0) (hy : y < 18446744073709551616) : restL s (y &&& (y - 1)) (l ++ [Lib.ctz 64 y]) := by
  unfold restL at h ⊢
  rw [← h, listB_next y h0 hy]; simp
end Go.Proofs.YtfhnamomiaekdaaGreat

namespace Go.Inq
open Go Go.RowKit

theorem wpList_copy_whole {P : Program} {w : World} {ops : Array Oper} {rest : List Oper} {o : Oper} {a : Act} {Q : Exit → Act → World → Prop} {α : Type} (f : α → Value)
    (hgd : o.guard = none) (d s : Operand) (dT sT : TypeId) (ho : o.op = .call { callee := .builtin .copy, args := #[d, s], argTypes := #[dT, sT] })
    (elem : TypeId) (hu : P.underlying dT = some (.slice elem)) (hsz : (P.info? elem).map (·.size) = some 1)
    (g n dc c : Nat) (A : Option Addr) (hd : a.eval d = .slice (some ⟨g, 0, none⟩) n dc) (hs : a.eval s = .slice A n c)
    (cur : Array Value) (t : TypeId) (hg : Blk w g t cur) (hcur : cur.size = n) (l : List α) (hl : l.length = n)
    (hsrc : ∀ i (hi : i < l.length), ∃ b off, A = some ⟨b, off, none⟩ ∧ w.cell? ⟨b, off + i, none⟩ = some (f l[i])) (h1 : ∀ x ∈ l, (f x).oneCell' = true)
    (h : ∀ w', Blk w' g t (l.map f).toArray → w.grownBy w' (some g) → wpList P ops Q rest (a.put o.dst (goInt n)) w') : wpList P ops Q (o :: rest) a w := by
  by_cases h0 : n = 0
  · subst h0
    have : l = [] := List.eq_nil_of_length_eq_zero hl
    subst this
    have hc : cur = #[] := Array.eq_empty_of_size_eq_zero hcur
    subst hc
    exact wpList_copy_nothing hgd d s dT sT ho elem hu hsz _ _ 0 dc 0 c hd hs rfl (h w (by simpa using hg) ⟨rfl, rfl, rfl, Nat.le_refl _, fun _ _ _ => rfl⟩)
  · obtain ⟨b, off, rfl, _⟩ := hsrc 0 (by omega)
    have hcs : (l.map f).length = n := by simpa using hl
    refine wpList_copy_own hgd d s dT sT ho elem hu hsz g 0 n dc ⟨b, off, none⟩ n c hd hs cur t hg (l.map f) (by rw [hcs]; simp [Nat.min_def]) (fun j v hj => ?_) (by rw [hcs]; omega) (fun v hv => ?_) ?_
    · rw [List.getElem?_map] at hj
      cases hlj : l[j]? with
      | none => rw [hlj] at hj; cases hj
      | some x =>
        rw [hlj] at hj
        injection hj with hj
        obtain ⟨hjl, rfl⟩ := List.getElem?_eq_some_iff.1 hlj
        obtain ⟨b', off', hA, hc⟩ := hsrc j hjl
        injection hA with hA
        injection hA with e1 e2
        subst e1 e2
        rw [Addr.add_lit, ← hj]
        exact hc
    · obtain ⟨x, hx, rfl⟩ := List.mem_map.1 hv
      exact h1 x hx
    · rw [hcs]
      have e : (cur.toList.take 0 ++ (l.map f ++ cur.toList.drop (0 + n))).toArray = (l.map f).toArray := by
        rw [List.drop_of_length_le (by simp; omega)]; simp
      rw [e]
      exact h _ (setRow_heap w g cur _ t _ hg) ⟨rfl, rfl, rfl, by simp [World.setRow], fun k hk hne => setRow_other w g k _ (fun e => hne (by rw [e]))⟩

section
variable {w W : World} {o : Obj} {K : Nat → Prop}
theorem Blk.allocEq {g : Nat} {t : TypeId} {cs : Array Value} (h : Blk w g t cs) (e : w.alloc o = W) : Blk W g t cs := by subst e; exact h.alloc o
theorem Agree.allocEq (e : w.alloc o = W) (hk : ∀ b, K b → b < w.heap.size) : Agree K w W := by subst e; exact Agree.alloc hk o
theorem below_allocEq {B : Nat} {w0 : World} (h : Below B w0 w) (e : w.alloc o = W) (hB : B ≤ w.heap.size) : Below B w0 W := by subst e; exact h.alloc hB o
theorem Blk.newEq {t : TypeId} {cs : Array Value} (e : w.alloc (.cells cs t) = W) : Blk W w.heap.size t cs := by subst e; exact Blk.new _ _ _
theorem Blk.two1 {t : TypeId} {cs : Array Value} (e : (w.alloc (.cells cs t)).alloc o = W) : Blk W w.heap.size t cs := by subst e; exact (Blk.new _ _ _).alloc _
theorem Blk.two2 {t : TypeId} {cs : Array Value} (e : (w.alloc o).alloc (.cells cs t) = W) : Blk W (w.heap.size + 1) t cs := by
  subst e
  have := Blk.new (w.alloc o) t cs
  simpa using this
theorem size_two {o' : Obj} (e : (w.alloc o).alloc o' = W) : W.heap.size = w.heap.size + 2 := by subst e; simp
theorem below_two {o' : Obj} (e : (w.alloc o).alloc o' = W) : Below w.heap.size w W := by subst e; exact ((Below.refl _ _).alloc (Nat.le_refl _) _).alloc (by simp) _
theorem Blk.three1 {o' : Obj} {t : TypeId} {cs : Array Value} (e : ((w.alloc (.cells cs t)).alloc o).alloc o' = W) : Blk W w.heap.size t cs := by subst e; exact ((Blk.new _ _ _).alloc _).alloc _
theorem Blk.three2 {o' : Obj} {t : TypeId} {cs : Array Value} (e : ((w.alloc o).alloc (.cells cs t)).alloc o' = W) : Blk W (w.heap.size + 1) t cs := by
  subst e
  have := (Blk.new (w.alloc o) t cs).alloc o'
  simpa using this
theorem Blk.three3 {o' : Obj} {t : TypeId} {cs : Array Value} (e : ((w.alloc o).alloc o').alloc (.cells cs t) = W) : Blk W (w.heap.size + 1 + 1) t cs := by
  subst e
  have := Blk.new ((w.alloc o).alloc o') t cs
  simpa using this
theorem size_three {o' o'' : Obj} (e : ((w.alloc o).alloc o').alloc o'' = W) : W.heap.size = w.heap.size + 3 := by subst e; simp
theorem below_three {o' o'' : Obj} (e : ((w.alloc o).alloc o').alloc o'' = W) : Below w.heap.size w W := by subst e; exact (((Below.refl _ _).alloc (Nat.le_refl _) _).alloc (by simp) _).alloc (by simp; omega) _
theorem size_allocEq (e : w.alloc o = W) : W.heap.size = w.heap.size + 1 := by subst e; simp
end
theorem grown_trans {w w' w'' : World} {r : Option Nat} (h : w.grownBy w' r) (h' : w'.grownBy w'' r) : w.grownBy w'' r :=
  ⟨h'.os.trans h.os, h'.tape.trans h.tape, h'.output.trans h.output, Nat.le_trans h.size h'.size, fun k hk hne => (h'.block k (Nat.lt_of_lt_of_le hk h.size) hne).trans (h.block k hk hne)⟩
theorem grown_below {w w' : World} {B : Nat} {r : Option Nat} (hb : Below B w w') (hB : w.heap.size ≤ B) : w.grownBy w' r := ⟨hb.os, hb.tape, hb.output, hb.size, fun k hk _ => hb.block k (by omega)⟩
theorem grown_set {w : World} (g i : Nat) (u : Value) : w.grownBy (w.setCell ⟨g, i, none⟩ u) (some g) :=
  ⟨rfl, rfl, rfl, by simp, fun k hk hne => Below.heap_setCell w ⟨g, i, none⟩ u k (fun e => hne (by simp at e; rw [e]))⟩
theorem grown_drew {w : World} {r : Option Nat} : w.grownBy w.drew r := ⟨rfl, rfl, rfl, Nat.le_refl _, fun _ _ _ => rfl⟩
theorem grown_drewN {w : World} {r : Option Nat} (n : Nat) : w.grownBy (w.drewN n) r := ⟨rfl, rfl, rfl, Nat.le_refl _, fun _ _ _ => rfl⟩
theorem Agree.ofGrown {K : Nat → Prop} {w w' : World} {g : Nat} (h : w.grownBy w' (some g)) (hK : ∀ b, K b → b < g) (hg : g ≤ w.heap.size) : Agree K w w' := Agree.grown h fun b hb => ⟨by have := hK b hb; omega, by have := hK b hb; simp; omega⟩
end Go.Inq
