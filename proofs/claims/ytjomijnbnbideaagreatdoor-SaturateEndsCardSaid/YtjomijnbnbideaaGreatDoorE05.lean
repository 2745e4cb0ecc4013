/-
  Walks: event.Right, and the references of layers 1 and 3 that tell whether an event may be.
-/
import Derived.Test.YtjomijnbnbideaaGreatDoorProg
import Derived.Lib.SlicesCompact
import Derived.Laws.BitsAllLaws
import Derived.Lib.TrailingZeros
import Derived.Laws.Shifts
import Derived.Laws.Bits64b
import Derived.Laws.CopyOwn
import Derived.Test.YtjomijnbnbideaaGreatDoorE02
import Derived.Test.YtjomijnbnbideaaGreatDoorE04
set_option linter.unusedVariables false
set_option linter.unusedSimpArgs false
namespace Go.Proofs.YtjomijnbnbideaaGreatDoor
open Go.RowKit Go.Inq
set_option maxHeartbeats 400000

end Go.Proofs.YtjomijnbnbideaaGreatDoor

namespace Go.Proofs.YtjomijnbnbideaaGreatDoor
open Go.RowKit Go.Inq
set_option maxHeartbeats 1000000
attribute [local go_sem ↓] Go.wp_at_zero Go.wp_at_succ

theorem ints_any (A A' : Option Addr) (c c' : Nat) (l l' : List Int) (w : World) (h : IntS w (Old w) (.slice A l.length c) l) (h' : IntS w (Old w) (.slice A' l'.length c') l') (hn : l.length ≤ 1000000) (hn' : l'.length ≤ 1000000) :
    Calls Tryz.prog 64 #[.slice A l.length c, .slice A' l'.length c'] w fun e w' => e = .returned (.bool (decide (l = l'))) ∧ Below w.heap.size w w' := by
  rcases Nat.decEq l.length l'.length with hlen | hlen
  rotate_left
  · rw [← hlen] at h' ⊢
    have hlen2 := hide hlen
    clear hn' hlen
    go_enter Tryz.func64, Tryz.ntmps64
    go_wp2
    go_loopw [5] (fun s5 wr => ∃ i : Nat, i ≤ l.length ∧ s5 = .int .i64 i ∧ Hid (∀ j (hj : j < l.length) (hj' : j < l'.length), j < i → l[j] = l'[j]) ∧ Below w.heap.size w wr) (fun s5 _ => l.length - (intOf s5).toNat)
    case atStart => exact ⟨0, Nat.zero_le _, by go_num, fun j _ _ h => absurd h (by omega), Below.refl _ _⟩
    case round =>
      obtain ⟨i, hi, rfl, hall, hb⟩ := hrel
      by_cases hlt : i < l.length
      · have hlt' : i < l'.length := by have := hlen2.out; omega
        have hw := IntS.below h hb
        have hw' := IntS.below h' hb
        obtain ⟨b, off, rfl, hbK, c0⟩ := IntS.at_ hw hlt
        obtain ⟨b', off', rfl, hbK', d0⟩ := IntS.at_ hw' hlt'
        have hi1 : (0 : Int) ≤ (i : Int) := Int.natCast_nonneg _
        have hi2 : (i : Int) < (l.length : Int) := by omega
        by_cases he : l[i] = l'[i]
        · have hstep : Hid (∀ j (hj : j < l.length) (hj' : j < l'.length), j < i + 1 → l[j] = l'[j]) := fun j hj hj' hji => by
            by_cases hje : j = i
            · subst hje; exact he
            · exact hall.out j hj hj' (by omega)
          rw [← he] at d0
          clear he
          generalize l[i] = x at *
          go_wp2
          go_quiet (fail)
          go_wp2
          go_roundw
          case rel => exact ⟨i + 1, by omega, by go_num, hstep, ⟨hb.os, hb.tape, hb.output, hb.size, hb.block⟩⟩
          case measure => simp [intOf]; omega
        · have hf : l ≠ l' := fun e => he (by subst e; rfl)
          replace hf := hide hf
          have hne : (l[i] != l'[i]) = true := by simpa using he
          clear he
          generalize l[i] = x at *
          generalize l'[i] = x' at *
          go_wp2
          go_quiet (fail)
          go_wp2
          go_ret
          exact ⟨by simp [hf.out], ⟨hb.os, hb.tape, hb.output, hb.size, hb.block⟩⟩
      · have he : l = l' := List.ext_getElem hlen2.out (fun j h1 h2 => hall.out j h1 h2 (by omega))
        have : i = l.length := by omega
        subst this
        go_wp2
        go_ret
        exact ⟨by simp [he], hb⟩
  · have hf : l ≠ l' := fun e => hlen (by rw [e])
    go_enter Tryz.func64, Tryz.ntmps64
    go_wp2
    go_ret
    exact ⟨by simp [hf], Below.refl _ _⟩

/-- A history's row, of few, and short. -/
def SmallH (l : List Txn) : Prop := l.length ≤ 1000000 ∧ ∀ t ∈ l, t.writes.length ≤ 1000000 ∧ t.reads.length ≤ 1000000
end Go.Proofs.YtjomijnbnbideaaGreatDoor

namespace Go.Proofs.YtjomijnbnbideaaGreatDoor
open Go.RowKit Go.Inq Go.Shelf
set_option maxHeartbeats 4000000
attribute [local go_sem] Oper.semAt_some
attribute [local go_sem ↓] Go.wp_at_zero Go.wp_at_succ

theorem faults8_any (v : Value) (w : World) : Calls Tryz.prog 162 #[.agg #[v]] w fun e w' => e = .returned (.func (.func 203) #[] #[.pointer (some ⟨w.heap.size, 0, none⟩)]) ∧ w' = w.alloc (.cells #[v] 24) := by
  go_enter Tryz.func162, Tryz.ntmps162
  go_wp2
  go_ret
  exact ⟨rfl, rfl⟩
theorem faults8_stops (Bh n₀ c : Nat) (A : Option Addr) (H : List Txn) (hn : SmallH H) (w : World) (hBn : Bh < n₀) (hnW : n₀ ≤ w.heap.size) (hc : w.cell? ⟨Bh, 0, none⟩ = some (.slice A H.length c)) (hT : TxnS w (fun b => b < n₀) (.slice A H.length c) H) :
    SeqStopsK Fence.wide (3 - 1) Tryz.prog 203 #[.pointer (some ⟨Bh, 0, none⟩)] (fun x : Bool => #[Value.bool x]) (KeepsAll n₀) (fun ys => ys = faultsL H) (fun pre => pre <+: faultsL H) (faultsL H).length w := fun l J Jx W hW hJ _ hY h0 =>
  faults1_in (3 - 1) (by omega) l Bh n₀ c A H hn.1 hn.2 J Jx W hJ hY ((hW.cell (p := ⟨Bh, 0, none⟩) (by show Bh < _; omega)).trans hc) hBn (Nat.le_trans hnW hW.size) (TxnS.keep hT (Agree.below hW fun b h => by omega) (fun b h => h)) h0
set_option maxRecDepth 100000 in
theorem right8_any (A : Option Addr) (c : Nat) (H : List Txn) (w : World) (h : TxnS w (Old w) (.slice A H.length c) H) (hn : SmallH H) :
    Calls Tryz.prog 97 #[.agg #[.slice A H.length c]] w fun e w' => e = .returned (.bool (rightH H)) ∧ Below w.heap.size w w' := by
  refine (callsIn_wide (n := 3)).1 ?_
  have hro : Fence.wide.round = none := rfl
  refine callsIn_of_wp_marks Tryz.func97 rfl trivial ?_ hro
  simp only [Tryz.ntmps97, List.size_toArray, List.length_cons, List.length_nil, Nat.reduceAdd, Nat.reduceSub, Array.replicate_succ, Array.replicate_zero, List.push_toArray, List.append_toArray, List.nil_append, List.cons_append]
  gi_wp2_with fail
  refine ⟨trivial, ?_⟩
  refine (callsIn_wide.2 (faults8_any _ _)).mono ?_
  rintro e w1 ⟨rfl, rfl⟩
  dsimp only
  gi_wp2
  obtain ⟨W0, hW0⟩ : ∃ W0, ((w.alloc (.cells #[.slice A H.length c] 24)).alloc (.cells #[.bool false] 4)).alloc (.cells #[.slice A H.length c] 24) = W0 := ⟨_, rfl⟩
  have hs0 : W0.heap.size = w.heap.size + 3 := by rw [← hW0]; simp
  have hBW : Below w.heap.size w W0 := by rw [← hW0]; exact (((Below.refl _ w).alloc (Nat.le_refl _) _).alloc (by simp) _).alloc (by simp; omega) _
  have k1 : Blk W0 (w.heap.size + 1) 4 #[.bool false] := by
    rw [← hW0]
    have := Blk.new (w.alloc (.cells #[.slice A H.length c] 24)) 4 #[.bool false]
    simp only [World.size_alloc] at this
    exact this.alloc _
  have k2 : Blk W0 (w.heap.size + 2) 24 #[.slice A H.length c] := by
    rw [← hW0]
    have := Blk.new ((w.alloc (.cells #[.slice A H.length c] 24)).alloc (.cells #[.bool false] 4)) 24 #[.slice A H.length c]
    simp only [World.size_alloc] at this
    exact this
  simp only [World.size_alloc]
  rw [hW0]
  have h2 : TxnS W0 (fun b => b < w.heap.size) (.slice A H.length c) H := TxnS.keep h (Agree.below hBW fun b h => h) (fun b h => h)
  have c2 := k2.cell 0
  simp only [List.getElem?_toArray, List.getElem?_cons_zero, List.getElem?_cons_succ] at c2
  have c1 := k1.cell 0
  simp only [List.getElem?_toArray, List.getElem?_cons_zero, List.getElem?_cons_succ] at c1
  have f1 := k1.frozen 0
  clear hW0
  refine wpIn_rangeFunc_ownF hro (by omega) (gf := 203) (lb := #[.pointer (some ⟨w.heap.size + 2, 0, none⟩)]) rfl trivial (enters_of Tryz.func203 (by kernel_rfl) rfl)
    (faults8_stops (w.heap.size + 2) (w.heap.size + 3) c A H hn W0 (by omega) (by omega) c2 (TxnS.fit h2 (fun b h => by omega))) KeepsAll.t (KeepsAll.b (by omega)) (Below.refl _ _) (fun _ => rfl)
    (fun pre W => ((pre.all id = true) ∧ W.cell? ⟨w.heap.size + 1, 0, none⟩ = some (.bool false) ∧ W.frozen? ⟨w.heap.size + 1, 0, none⟩ = false) ∧ Below w.heap.size w W)
    (fun cc pre W => (cc = .ret ∧ false ∈ pre ∧ W.cell? ⟨w.heap.size + 1, 0, none⟩ = some (.bool false)) ∧ Below w.heap.size w W)
    (OwnFrom.and (Own.from (fun s A B row hs hg hr => ⟨hs.1, cell_kept hs.2.1 hg hr, (frozen_kept hs.2.1 hg hr).trans hs.2.2⟩) _) (ownFrom_below (Nat.le_refl _) (by omega)))
    (fun cc => OwnFrom.and (Own.from (fun s A B row hs hg hr => ⟨hs.1, hs.2.1, cell_kept hs.2.2 hg hr⟩) _) (ownFrom_below (Nat.le_refl _) (by omega)))
    ⟨⟨rfl, c1, f1⟩, hBW⟩
    (fun x => { tmps := #[.agg #[.slice A H.length c], .pointer (some ⟨w.heap.size, 0, none⟩), .pointer (some ⟨w.heap.size + 1, 0, none⟩), .bool x, .agg #[.slice A H.length c], .func (.func 203) #[] #[.pointer (some ⟨w.heap.size + 2, 0, none⟩)], .bool x, undef, undef], defers := [] }) ?assign ?body ?done ?stop
  case assign =>
    intro l x W K hK
    gi_wp2
    exact hK
  case body =>
    rintro l pre x W ⟨⟨hp, hcr, hfr⟩, hB⟩ _
    cases x with
    | false =>
      gi_wp2
      exact ⟨KeepsOthers.setCell _ _ _, ⟨rfl, by simp, World.cell?_setCell_same' _ _ _ (by rw [hcr]; rfl)⟩, hB.setCell (p := ⟨w.heap.size + 1, 0, none⟩) (by simp) _⟩
    | true =>
      gi_wp2
      exact ⟨KeepsOthers.refl _, KeepsAll.refl _ _, ⟨by rw [List.all_append, hp]; rfl, hcr, hfr⟩, hB⟩
  case done =>
    rintro D xs W hD rfl ⟨⟨hall, hcr, hfr⟩, hB⟩ hK
    have hall := hide hall
    gi_wp2
    have hK' := (KeepsOthers.setCell W ⟨w.heap.size + 1, 0, none⟩ (.bool true)).same D _ hK rfl
    refine ⟨by simp, .inl ⟨_, _, rfl, run_takeDeferred hK', ?_⟩⟩
    have hc5 := cell_kept (World.cell?_setCell_same' W ⟨w.heap.size + 1, 0, none⟩ (.bool true) (by rw [hcr]; rfl)) (grownBy_putObj' _ D (.deferred none)) (fun r e => by cases e; exact ⟨_, hK', rfl⟩)
    refine ⟨.bool true, ?_, by unfold rightH; rw [hall.out], (hB.setCell (p := ⟨w.heap.size + 1, 0, none⟩) (by simp) _).trans (belowK_b (w := w) (Nat.le_refl _) _ D _ _ (by omega) hK' rfl rfl)⟩
    simp [results, Tryz.f97, go_sem, hc5]
  case stop =>
    rintro D cc pre W hD hpre ⟨⟨rfl, hin, hcr⟩, hB⟩ hK
    have hf := hide (pre_false hpre hin)
    gi_wp2
    refine ⟨by simp, .inl ⟨_, _, rfl, run_takeDeferred hK, ?_⟩⟩
    have hc5 := cell_kept hcr (grownBy_putObj' _ D (.deferred none)) (fun r e => by cases e; exact ⟨_, hK, rfl⟩)
    refine ⟨.bool false, ?_, by unfold rightH; rw [hf.out], hB.trans (belowK_b (w := w) (Nat.le_refl _) W D _ _ (by omega) hK rfl rfl)⟩
    simp [results, Tryz.f97, go_sem, hc5]
end Go.Proofs.YtjomijnbnbideaaGreatDoor

namespace Go.Inq
open Go.Lib

theorem compact_rise (d : Array Int) (hs : ∀ i j, i ≤ j → j < d.size → d[i]! ≤ d[j]!) : ∀ m, m ≤ d.size →
    (compactUpTo d m).Pairwise (· < ·) ∧ ∀ x, x ∈ compactUpTo d m ↔ ∃ j, j < m ∧ d[j]! = x
  | 0, _ => ⟨by simp [compactUpTo], fun x => by simp [compactUpTo]⟩
  | m + 1, hm => by
    obtain ⟨h1, h2⟩ := compact_rise d hs m (by omega)
    rw [compactUpTo_succ]
    by_cases hk : keeps d m = true
    · rw [if_pos hk]
      refine ⟨List.pairwise_append.2 ⟨h1, by simp, fun a ha b hb => ?_⟩, fun x => ?_⟩
      · obtain rfl : b = d[m]! := by simpa using hb
        obtain ⟨j, hj, rfl⟩ := (h2 a).1 ha
        have hne : d[m]! ≠ d[m - 1]! := by
          unfold keeps at hk
          have := of_decide_eq_true hk
          rcases this with h | h
          · omega
          · exact h
        have e1 := hs j (m - 1) (by omega) (by omega)
        have e2 := hs (m - 1) m (by omega) (by omega)
        omega
      · rw [List.mem_append, h2]
        constructor
        · rintro (⟨j, hj, e⟩ | h)
          · exact ⟨j, by omega, e⟩
          · exact ⟨m, by omega, by simpa using (List.mem_singleton.1 h).symm⟩
        · rintro ⟨j, hj, e⟩
          by_cases he : j = m
          · subst he; exact .inr (by simp [e])
          · exact .inl ⟨j, by omega, e⟩
    · rw [if_neg hk, List.append_nil]
      refine ⟨h1, fun x => ?_⟩
      rw [h2]
      have hk2 : ¬ (m = 0 ∨ d[m]! ≠ d[m - 1]!) := fun h => hk (by unfold keeps; exact decide_eq_true h)
      constructor
      · rintro ⟨j, hj, e⟩; exact ⟨j, by omega, e⟩
      · rintro ⟨j, hj, e⟩
        by_cases he : j = m
        · subst he
          exact ⟨j - 1, by omega, by rw [← e]; exact Eq.symm (Classical.byContradiction fun h => hk2 (.inr h))⟩
        · exact ⟨j, by omega, e⟩

/-- Two rows that rise, of the same elements, are the same. -/
theorem rise_eq : ∀ {a b : List Int}, a.Pairwise (· < ·) → b.Pairwise (· < ·) → (∀ x, x ∈ a ↔ x ∈ b) → a = b
  | [], [], _, _, _ => rfl
  | [], y :: _, _, _, h => by have := (h y).2 (by simp); cases this
  | x :: _, [], _, _, h => by have := (h x).1 (by simp); cases this
  | x :: a, y :: b, ha, hb, h => by
    rw [List.pairwise_cons] at ha hb
    have hxy : x = y := by
      have h1 := (h x).1 (by simp)
      have h2 := (h y).2 (by simp)
      rw [List.mem_cons] at h1 h2
      rcases h1 with h1 | h1
      · exact h1
      · rcases h2 with h2 | h2
        · exact h2.symm
        · have := ha.1 _ h2; have := hb.1 _ h1; omega
    subst hxy
    rw [rise_eq ha.2 hb.2 (fun z => ?_)]
    have hz := h z
    rw [List.mem_cons, List.mem_cons] at hz
    constructor
    · intro hm
      rcases hz.1 (.inr hm) with e | e
      · have := ha.1 _ hm; omega
      · exact e
    · intro hm
      rcases hz.2 (.inr hm) with e | e
      · have := hb.1 _ hm; omega
      · exact e

/-- slices.Compact of what slices.Sort leaves. -/
theorem compact_sorted (l : List Int) : (compact (l.mergeSort fun x y => decide (x ≤ y))).Pairwise (· < ·) ∧ ∀ x, x ∈ compact (l.mergeSort fun x y => decide (x ≤ y)) ↔ x ∈ l := by
  have hp := List.pairwise_mergeSort (le := fun x y : Int => decide (x ≤ y)) (fun a b c h1 h2 => by simp at *; omega) (fun a b => by simp; omega) l
  have hm : ∀ x, x ∈ (l.mergeSort fun x y => decide (x ≤ y)) ↔ x ∈ l := fun x => List.mem_mergeSort
  generalize (l.mergeSort fun x y => decide (x ≤ y)) = s at *
  have hs : ∀ i j, i ≤ j → j < s.toArray.size → s.toArray[i]! ≤ s.toArray[j]! := by
    intro i j hij hj
    have hj' : j < s.length := by simpa using hj
    rw [getElem!_pos s.toArray i (by simp; omega), getElem!_pos s.toArray j hj]
    rcases Nat.lt_or_eq_of_le hij with h | h
    · have := List.pairwise_iff_getElem.1 hp i j (by omega) hj' h
      simpa using this
    · subst h; exact Int.le_refl _
  obtain ⟨h1, h2⟩ := compact_rise s.toArray hs s.length (by simp)
  refine ⟨h1, fun x => ?_⟩
  unfold compact
  rw [h2, ← hm]
  constructor
  · rintro ⟨j, hj, rfl⟩
    rw [getElem!_pos s.toArray j (by simpa using hj)]
    simp
  · intro h
    obtain ⟨j, hj, rfl⟩ := List.getElem_of_mem h
    exact ⟨j, hj, by rw [getElem!_pos s.toArray j (by simpa using hj)]; simp⟩

/-- A choice, or a pair of writers of one key. -/
structure Cho where
  key : Int
  a : Int
  b : Int
deriving DecidableEq

def txnAt (H : List Txn) (t : Nat) : Txn := H.getD t ⟨0, [], []⟩
theorem txnAt_of {H : List Txn} {t : Nat} (h : t < H.length) : txnAt H t = H[t] := by unfold txnAt; rw [List.getD_eq_getElem?_getD, List.getElem?_eq_getElem h]; rfl

/-- Who writes a key (of a history that may be). -/
def wrsTo (H : List Txn) (key : Int) (n : Nat) : List Nat := (List.range n).filter fun t => (txnAt H t).writes.contains key
def wrsL (H : List Txn) (key : Int) : List Nat := wrsTo H key H.length
theorem wrsTo_step (H : List Txn) (key : Int) (n : Nat) : wrsTo H key (n + 1) = wrsTo H key n ++ (if (txnAt H n).writes.contains key then [n] else []) := by
  unfold wrsTo
  rw [List.range_succ, List.filter_append]
  congr 1
  rw [List.filter_cons, List.filter_nil]
theorem wrsL_mem {H : List Txn} {key : Int} {t : Nat} : t ∈ wrsL H key ↔ t < H.length ∧ key ∈ (txnAt H t).writes := by
  unfold wrsL wrsTo; rw [List.mem_filter, List.mem_range, List.contains_iff_mem]
theorem wrsL_rise (H : List Txn) (key : Int) : (wrsL H key).Pairwise (· < ·) := List.Pairwise.filter _ List.pairwise_lt_range
theorem wrsL_len (H : List Txn) (key : Int) : (wrsL H key).length ≤ H.length := Nat.le_trans (List.length_filter_le _ _) (by simp)

/-- All keys that are written, rising. -/
def keysL (H : List Txn) : List Int := compact ((H.map (·.writes)).flatten.mergeSort fun x y => decide (x ≤ y))
theorem keysL_mem {H : List Txn} {k : Int} : k ∈ keysL H ↔ ∃ t, t ∈ H ∧ k ∈ t.writes := by
  unfold keysL
  rw [(compact_sorted _).2, List.mem_flatten]
  constructor
  · rintro ⟨l, hl, hk⟩
    obtain ⟨t, ht, rfl⟩ := List.mem_map.1 hl
    exact ⟨t, ht, hk⟩
  · rintro ⟨t, ht, hk⟩
    exact ⟨t.writes, List.mem_map_of_mem ht, hk⟩
theorem keysL_rise (H : List Txn) : (keysL H).Pairwise (· < ·) := (compact_sorted _).1

/-- Of a history that may be: the keys below 16 that anybody writes. -/
theorem keysL_16 {H : List Txn} (h : ∀ t ∈ H, ∀ k ∈ t.writes, 0 ≤ k ∧ k < 16) : keysL H = ((List.range 16).filter fun (k : Nat) => decide (wrsL H (k : Int) ≠ [])).map fun (k : Nat) => (k : Int) := by
  refine rise_eq (keysL_rise H) ?_ (fun x => ?_)
  · refine List.pairwise_map.2 ?_
    exact (List.Pairwise.filter _ List.pairwise_lt_range).imp (fun hab => by omega)
  · rw [keysL_mem]
    constructor
    · rintro ⟨t, ht, hx⟩
      have hb := h t ht x hx
      obtain ⟨i, hi, rfl⟩ := List.getElem_of_mem ht
      refine List.mem_map.2 ⟨x.toNat, List.mem_filter.2 ⟨by simp; omega, ?_⟩, by omega⟩
      rw [show ((x.toNat : Nat) : Int) = x by omega]
      refine decide_eq_true (fun e => ?_)
      have : i ∈ wrsL H x := wrsL_mem.2 ⟨hi, by rw [txnAt_of hi]; exact hx⟩
      rw [e] at this; cases this
    · intro hx
      obtain ⟨k, hk, rfl⟩ := List.mem_map.1 hx
      obtain ⟨_, hk2⟩ := List.mem_filter.1 hk
      have hk3 := of_decide_eq_true hk2
      cases hw : wrsL H (k : Int) with
      | nil => exact absurd hw hk3
      | cons t r =>
        have : t ∈ wrsL H (k : Int) := by rw [hw]; simp
        obtain ⟨h1, h2⟩ := wrsL_mem.1 this
        rw [txnAt_of h1] at h2
        exact ⟨_, List.getElem_mem h1, h2⟩

/-- All two of some writers. -/
def pairsK (key : Int) : List Nat → List Cho
  | [] => []
  | a :: r => r.map (fun (b : Nat) => (⟨key, a, b⟩ : Cho)) ++ pairsK key r
def pairsL (H : List Txn) : List Cho := ((keysL H).map fun k => pairsK k (wrsL H k)).flatten

/-- Who reads a key from somebody. -/
def rdsL (H : List Txn) (key src : Int) : List Nat := ((List.range H.length).map fun t => ((txnAt H t).reads.filter fun r => decide (r.a = key) && decide (r.b = src)).map fun _ => t).flatten
theorem rdsL_mem {H : List Txn} {key src : Int} {t : Nat} : t ∈ rdsL H key src ↔ t < H.length ∧ ∃ r ∈ (txnAt H t).reads, r.a = key ∧ r.b = src := by
  unfold rdsL
  rw [List.mem_flatten]
  constructor
  · rintro ⟨l, hl, ht⟩
    obtain ⟨u, hu, rfl⟩ := List.mem_map.1 hl
    obtain ⟨r, hr, rfl⟩ := List.mem_map.1 ht
    obtain ⟨h1, h2⟩ := List.mem_filter.1 hr
    exact ⟨by simpa using hu, r, h1, by simpa using h2⟩
  · rintro ⟨h, r, hr, hk⟩
    exact ⟨_, List.mem_map.2 ⟨t, by simpa using h, rfl⟩, List.mem_map.2 ⟨r, List.mem_filter.2 ⟨hr, by simpa using hk⟩, rfl⟩⟩
end Go.Inq

namespace Go.Inq

/-- The numbers below n of which p says so, as bits. -/
def setB (p : Nat → Bool) : Nat → Nat
  | 0 => 0
  | n + 1 => setB p n ||| (if p n then 2 ^ n else 0)

theorem testBit_setB (p : Nat → Bool) : ∀ (n i : Nat), (setB p n).testBit i = (decide (i < n) && p i)
  | 0, i => by simp [setB]
  | n + 1, i => by
    unfold setB
    rw [Nat.testBit_or, testBit_setB p n i]
    by_cases h : i = n
    · subst h
      cases hp : p i <;> simp [hp, Nat.testBit_two_pow]
    · have h2 : (if p n = true then 2 ^ n else 0).testBit i = false := by
        split
        · rw [Nat.testBit_two_pow]; simp; omega
        · simp
      rw [h2]
      have h3 : decide (i < n + 1) = decide (i < n) := by simp; omega
      rw [h3]; simp

theorem setB_lt (p : Nat → Bool) (n : Nat) : setB p n < 2 ^ n := by
  refine Nat.lt_pow_two_of_testBit _ (fun i hi => ?_)
  rw [testBit_setB]; simp; omega

theorem setB_eq {p : Nat → Bool} {n x : Nat} (hx : x < 2 ^ n) (h : ∀ i, i < n → x.testBit i = p i) : x = setB p n := by
  refine Nat.eq_of_testBit_eq (fun i => ?_)
  rw [testBit_setB]
  by_cases hi : i < n
  · rw [h i hi]; simp [hi]
  · rw [Nat.testBit_lt_two_pow (Nat.lt_of_lt_of_le hx (Nat.pow_le_pow_right (by decide) (by omega)))]; simp [hi]

theorem setB_self {n x : Nat} (hx : x < 2 ^ n) : setB x.testBit n = x := (setB_eq hx (fun _ _ => rfl)).symm

theorem setB_congr {p q : Nat → Bool} {n : Nat} (h : ∀ i, i < n → p i = q i) : setB p n = setB q n :=
  setB_eq (setB_lt p n) (fun i hi => by rw [testBit_setB, h i hi]; simp [hi])

/-- One number's bit. -/
theorem one_or (x i : Nat) (j : Nat) : (x ||| 2 ^ i).testBit j = (x.testBit j || decide (i = j)) := by
  rw [Nat.testBit_or, Nat.testBit_two_pow]

theorem and_one (x i : Nat) : (x &&& 2 ^ i = 0) ↔ x.testBit i = false := by
  constructor
  · intro h
    have := congrArg (fun y => y.testBit i) h
    simpa [Nat.testBit_and, Nat.testBit_two_pow] using this
  · intro h
    refine Nat.eq_of_testBit_eq (fun j => ?_)
    rw [Nat.testBit_and, Nat.testBit_two_pow]
    by_cases e : i = j
    · subst e; simp [h]
    · simp [e]


/-- A graph's rows, of n nodes, by its edges. -/
def rowsG (n : Nat) (E : Nat → Nat → Bool) : List Nat := (List.range n).map fun a => setB (E a) n
theorem rowsG_length (n : Nat) (E : Nat → Nat → Bool) : (rowsG n E).length = n := by simp [rowsG]
theorem rowsG_at {n : Nat} {E : Nat → Nat → Bool} {a : Nat} (h : a < n) : (rowsG n E)[a]'(by rw [rowsG_length]; exact h) = setB (E a) n := by simp [rowsG]
theorem rowsG_congr {n : Nat} {E F : Nat → Nat → Bool} (h : ∀ a b, a < n → b < n → E a b = F a b) : rowsG n E = rowsG n F := by
  unfold rowsG
  refine List.map_congr_left (fun a ha => setB_congr (fun b hb => h a b (by simpa using ha) hb))
theorem rowsG_self {l : List Nat} (h : ∀ x ∈ l, x < 2 ^ l.length) : rowsG l.length (fun a b => (l.getD a 0).testBit b) = l := by
  refine List.ext_getElem (by simp [rowsG]) (fun a h1 h2 => ?_)
  simp only [rowsG, List.getElem_map, List.getElem_range]
  rw [show (fun b => (l.getD a 0).testBit b) = (l.getD a 0).testBit from rfl]
  rw [List.getD_eq_getElem?_getD, List.getElem?_eq_getElem h2]
  exact setB_self (h _ (List.getElem_mem h2))
end Go.Inq

namespace Go.Inq

/-- A set's numbers, rising. -/
def listB (x : Nat) : List Nat := (List.range 64).filter fun i => x.testBit i

theorem filter_least (p : Nat → Bool) (k : Nat) (hk : p k = true) (hl : ∀ i, i < k → p i = false) : ∀ n, k < n → (List.range n).filter p = k :: (List.range n).filter (fun i => p i && decide (i ≠ k))
  | 0, h => absurd h (by omega)
  | n + 1, h => by
    rw [List.range_succ, List.filter_append, List.filter_append]
    by_cases e : k = n
    · subst e
      have h1 : (List.range k).filter p = [] := by
        rw [List.filter_eq_nil_iff]; intro i hi; rw [hl i (by simpa using hi)]; simp
      have h2 : (List.range k).filter (fun i => p i && decide (i ≠ k)) = [] := by
        rw [List.filter_eq_nil_iff]; intro i hi; rw [hl i (by simpa using hi)]; simp
      rw [h1, h2]; simp [hk]
    · rw [filter_least p k hk hl n (by omega)]
      have e2 : decide (n ≠ k) = true := by simp; omega
      simp only [List.filter_cons, List.filter_nil, e2, Bool.and_true, List.cons_append]

theorem odd_bit (k m i : Nat) : (2 ^ k * (2 * m + 1)).testBit i = (decide (k ≤ i) && (decide (i = k) || m.testBit (i - k - 1))) := by
  rw [Nat.mul_comm, Nat.testBit_mul_two_pow]
  by_cases h : k ≤ i
  · by_cases e : i = k
    · subst e; simp [Nat.testBit_zero]
    · obtain ⟨j, rfl⟩ : ∃ j, i = k + (j + 1) := ⟨i - k - 1, by omega⟩
      rw [show k + (j + 1) - k = j + 1 by omega, Nat.testBit_succ, show (2 * m + 1) / 2 = m by omega, show j + 1 - 1 = j by omega]
      simp
  · simp [h]

theorem less_bit (k m i : Nat) : (2 ^ k * (2 * m + 1) - 1).testBit i = (decide (i < k) || (decide (k < i) && m.testBit (i - k - 1))) := by
  have e : 2 ^ k * (2 * m + 1) - 1 = 2 ^ k * (2 * m) + (2 ^ k - 1) := by
    have := Nat.two_pow_pos k
    rw [Nat.mul_add, Nat.mul_one]; omega
  rw [e, Nat.testBit_two_pow_mul_add _ (by have := Nat.two_pow_pos k; omega)]
  by_cases h : i < k
  · rw [if_pos h, Nat.testBit_two_pow_sub_one]; simp [h]
  · rw [if_neg h]
    by_cases e : i = k
    · subst e; simp [Nat.testBit_zero]
    · obtain ⟨j, rfl⟩ : ∃ j, i = k + (j + 1) := ⟨i - k - 1, by omega⟩
      rw [show k + (j + 1) - k = j + 1 by omega, Nat.testBit_succ, show 2 * m / 2 = m by omega, show j + 1 - 1 = j by omega, decide_eq_false h, decide_eq_true (show k < k + (j + 1) by omega)]
      simp

/-- Without its least number. -/
theorem drop_bit (x : Nat) (h0 : x ≠ 0) (hx : x < 2 ^ 64) : x.testBit (Lib.ctz 64 x) = true ∧ (∀ i, i < Lib.ctz 64 x → x.testBit i = false) ∧ Lib.ctz 64 x < 64 ∧ ∀ i, (x &&& (x - 1)).testBit i = (x.testBit i && decide (i ≠ Lib.ctz 64 x)) := by
  have e : Lib.ctz 64 x = Lib.ctzFrom 64 x := by unfold Lib.ctz; rw [if_neg h0]
  rw [e]
  obtain ⟨m, hm, hk⟩ := Lib.ctzFrom_spec 64 x (by omega) hx
  generalize Lib.ctzFrom 64 x = k at *
  subst hm
  refine ⟨?_, ?_, hk, ?_⟩
  · rw [odd_bit]; simp
  · intro i hi; rw [odd_bit]; simp; omega
  · intro i
    rw [Nat.testBit_and, odd_bit, less_bit]
    by_cases h1 : i < k
    · have : ¬ k ≤ i := by omega
      simp [this]
    · by_cases h2 : i = k
      · subst h2; simp
      · have h3 : k < i := by omega
        have h4 : k ≤ i := by omega
        simp [h1, h2, h3, h4]

theorem listB_next (x : Nat) (h0 : x ≠ 0) (hx : x < 2 ^ 64) : listB x = Lib.ctz 64 x :: listB (x &&& (x - 1)) := by
  obtain ⟨h1, h2, h3, h4⟩ := drop_bit x h0 hx
  unfold listB
  rw [filter_least _ _ h1 h2 64 h3]
  congr 1
  refine List.filter_congr (fun i _ => (h4 i).symm)
theorem listB_zero : listB 0 = [] := by simp [listB]
theorem and_less (x : Nat) (hx : x < 2 ^ 64) : x &&& (x - 1) < 2 ^ 64 := Nat.lt_of_le_of_lt Nat.and_le_left hx
theorem listB_mem {x i : Nat} : i ∈ listB x ↔ i < 64 ∧ x.testBit i = true := by simp [listB]
theorem listB_len (x : Nat) : (listB x).length ≤ 64 := Nat.le_trans (List.length_filter_le _ _) (by simp)
end Go.Inq

namespace Go.Inq

/-- An edge of a graph that is told by its rows. -/
def hasG (g : List Nat) (a b : Nat) : Bool := (g.getD a 0).testBit b
theorem hasG_rows {n : Nat} {E : Nat → Nat → Bool} {a b : Nat} (ha : a < n) (hb : b < n) : hasG (rowsG n E) a b = E a b := by
  unfold hasG
  rw [List.getD_eq_getElem?_getD, List.getElem?_eq_getElem (by rw [rowsG_length]; exact ha), Option.getD_some, rowsG_at ha, testBit_setB]
  simp [hb]
theorem rowsG_lt {n : Nat} {E : Nat → Nat → Bool} {x : Nat} (h : x ∈ rowsG n E) : x < 2 ^ n := by
  unfold rowsG at h
  obtain ⟨a, _, rfl⟩ := List.mem_map.1 h
  exact setB_lt _ _

abbrev Edges := Nat → Nat → Bool
def orE (E F : Edges) : Edges := fun a b => E a b || F a b
def thenE (n : Nat) (E F : Edges) : Edges := fun a c => (List.range n).any fun b => E a b && F b c
def turnE (E : Edges) : Edges := fun a b => E b a

/-- The sessions' order; who reads from whom; who reads what was there at first, and who wrote over it. -/
def soE (H : List Txn) : Edges := fun a b => decide (a < b) && decide ((txnAt H a).sess = (txnAt H b).sess)
def wrE (H : List Txn) : Edges := fun a b => decide (a ≠ b) && (txnAt H b).reads.any fun r => decide (r.b = (a : Int))
def initE (H : List Txn) : Edges := fun a b => decide (a ≠ b) && (txnAt H a).reads.any fun r => decide (r.b = -1) && (txnAt H b).writes.contains r.a
def pastE (H : List Txn) : Edges := orE (soE H) (wrE H)
/-- What follows, if it is known whose write is ahead. -/
def wwE (l : List Cho) : Edges := fun a b => l.any fun c => decide (c.a = (a : Int)) && decide (c.b = (b : Int))
def rwE (H : List Txn) (l : List Cho) : Edges := fun t b => initE H t b || l.any fun c => decide (c.b = (b : Int)) && decide (t ≠ b) && (txnAt H t).reads.any fun r => decide (r.a = c.key) && decide (r.b = c.a)
def fullE (H : List Txn) (level : Int) (l : List Cho) : Edges :=
  let d := orE (pastE H) (wwE l)
  orE d (if level = 1 then thenE H.length d (rwE H l) else rwE H l)

/-- As the program lays it: by keys, readers of what was there at first, and writers. -/
theorem initE_iff {H : List Txn} {a b : Nat} (ha : a < H.length) (hb : b < H.length) : initE H a b = true ↔ a ≠ b ∧ ∃ k ∈ keysL H, a ∈ rdsL H k (-1) ∧ b ∈ wrsL H k := by
  unfold initE
  rw [Bool.and_eq_true, List.any_eq_true]
  constructor
  · rintro ⟨h1, r, hr, h2⟩
    rw [Bool.and_eq_true, List.contains_iff_mem] at h2
    refine ⟨of_decide_eq_true h1, r.a, keysL_mem.2 ⟨H[b], List.getElem_mem hb, by rw [← txnAt_of hb]; exact h2.2⟩, rdsL_mem.2 ⟨ha, r, hr, rfl, of_decide_eq_true h2.1⟩, wrsL_mem.2 ⟨hb, h2.2⟩⟩
  · rintro ⟨h1, k, _, hr, hw⟩
    obtain ⟨_, r, hr2, rfl, e⟩ := rdsL_mem.1 hr
    exact ⟨decide_eq_true h1, r, hr2, by rw [Bool.and_eq_true, List.contains_iff_mem]; exact ⟨decide_eq_true e, (wrsL_mem.1 hw).2⟩⟩

/-- The least that may come next. -/
def nextT (n : Nat) (E : Edges) (l : List Nat) : Option Nat := (List.range n).find? fun v => !l.contains v && (List.range n).all fun x => !E x v || l.contains x
def orderTo (n : Nat) (E : Edges) : Nat → Option (List Nat)
  | 0 => some []
  | k + 1 => match orderTo n E k with
    | none => none
    | some l => match nextT n E l with
      | none => none
      | some v => some (l ++ [v])
def orderT (n : Nat) (E : Edges) : Option (List Nat) := orderTo n E n
theorem orderTo_len {n : Nat} {E : Edges} : ∀ {k : Nat} {l : List Nat}, orderTo n E k = some l → l.length = k
  | 0, l, h => by unfold orderTo at h; injection h with h; subst h; rfl
  | k + 1, l, h => by
    unfold orderTo at h
    split at h
    · cases h
    · rename_i l0 h0
      split at h
      · cases h
      · injection h with h; subst h; simp [orderTo_len h0]

/-- A state of Widen. -/
structure Wd where
  width : Int
  cut : Bool
  path : List Int
  left : List (List Int)
deriving DecidableEq

def freshW (n : Nat) (l path : List Int) : Bool := l.all fun t => decide (0 ≤ t) && decide (t < (n : Int)) && !path.contains t
def riseW : List Int → Bool
  | a :: b :: r => decide (a < b) && riseW (b :: r)
  | _ => true
/-- May a state be? -/
def rightW (H : List Txn) (s : Wd) : Bool :=
  rightH H && decide (1 ≤ s.width) && decide (s.width ≤ 32) && decide (s.path.length ≤ H.length - 1) &&
  ((List.range s.path.length).all fun i => freshW H.length [s.path.getD i 0] (s.path.take i)) &&
  (if s.left = [] then decide (s.path = []) else
    decide (s.left.length = s.path.length + 1) && (List.range s.left.length).all fun i => riseW (s.left.getD i []) && freshW H.length (s.left.getD i []) (s.path.take i))

/-- What can come behind some numbers. -/
def comeW (H : List Txn) (path : List Int) : List Int :=
  ((List.range H.length).filter fun (t : Nat) => !path.contains (t : Int) && (List.range H.length).all fun (x : Nat) => !pastE H x t || path.contains (x : Int)).map fun (t : Nat) => (t : Int)
def putW (H : List Txn) (s : Wd) : Wd :=
  let l := comeW H s.path
  { s with cut := s.cut || decide (s.width < (l.length : Int)), left := s.left ++ [l.take s.width.toNat] }
/-- What numbers decide of a pair. -/
def turnC (path : List Int) (p : Cho) : Option Cho :=
  match path.idxOf? p.a, path.idxOf? p.b with
  | none, none => none
  | some i, some j => if j < i then some ⟨p.key, p.b, p.a⟩ else some p
  | some _, none => some p
  | none, some _ => some ⟨p.key, p.b, p.a⟩
def decW (H : List Txn) (path : List Int) : List Cho := (pairsL H).filterMap (turnC path)

/-- A step: the state behind it, what it says, and an order. -/
def stepW (H : List Txn) (level : Int) (s : Wd) : Wd × Int × List Int :=
  if rightW H s = false ∨ (level ≠ 0 ∧ level ≠ 1) then (s, 3, [])
  else if H = [] then (s, 1, [])
  else match s.left.getLast? with
  | none => (putW H s, 0, [])
  | some [] =>
    if s.left.length > 1 then ({ s with left := s.left.dropLast, path := s.path.dropLast }, 0, [])
    else if s.cut = true ∧ s.width < 32 then (⟨s.width + 1, false, [], []⟩, 0, [])
    else (s, 3, [])
  | some (t :: r) =>
    let longer := s.path ++ [t]
    let s2 : Wd := { s with left := s.left.dropLast ++ [r] }
    match orderT H.length (fullE H level (decW H longer)) with
    | none => (s2, 0, [])
    | some o => if longer.length = H.length then (s2, 1, o.map fun (x : Nat) => (x : Int)) else (putW H { s2 with path := longer }, 0, [])
end Go.Inq

namespace Go.Inq

/-- A number's bit. -/
def bitN (i : Int) : Nat := if 0 ≤ i ∧ i < 64 then 2 ^ i.toNat else 0
theorem bitN_in {i : Int} (h0 : 0 ≤ i) (h : i < 64) : bitN i = 2 ^ i.toNat := by unfold bitN; rw [if_pos ⟨h0, h⟩]
theorem bitN_low {i : Int} (h : i < 0) : bitN i = 0 := by unfold bitN; rw [if_neg (by omega)]
theorem bitN_high {i : Int} (h : 64 ≤ i) : bitN i = 0 := by unfold bitN; rw [if_neg (by omega)]
theorem bitN_lt (i : Int) : bitN i < 18446744073709551616 := by
  unfold bitN
  split
  · rename_i h
    exact Nat.lt_of_lt_of_le (Nat.pow_lt_pow_right (by decide) (show i.toNat < 64 by omega)) (by decide)
  · decide
/-- Has a set a number? -/
def hasB (s : Nat) (i : Int) : Bool := decide (0 ≤ i) && s.testBit i.toNat
theorem hasB_nat (s i : Nat) : hasB s (i : Int) = s.testBit i := by unfold hasB; simp
theorem and_bitN {s : Nat} (hs : s < 18446744073709551616) (i : Int) : decide (s &&& bitN i = 0) = !hasB s i := by
  unfold hasB bitN
  by_cases h0 : 0 ≤ i
  · by_cases h : i < 64
    · rw [if_pos ⟨h0, h⟩, Bool.eq_iff_iff, decide_eq_true_iff, and_one]; simp [h0]
    · rw [if_neg (by omega)]
      have : s.testBit i.toNat = false := Nat.testBit_lt_two_pow (Nat.lt_of_lt_of_le (show s < 2 ^ 64 from hs) (Nat.pow_le_pow_right (by decide) (by omega)))
      simp [this]
  · rw [if_neg (by omega)]; simp [h0]
/-- A set with a number. -/
def withB (s : Nat) (i : Int) : Nat := s ||| bitN i
theorem withB_lt {s : Nat} (hs : s < 18446744073709551616) (i : Int) : withB s i < 18446744073709551616 := Nat.or_lt_two_pow (n := 64) hs (bitN_lt i)
theorem withB_bit (s : Nat) {i : Nat} (hi : i < 64) (j : Nat) : (withB s (i : Int)).testBit j = (s.testBit j || decide (i = j)) := by
  unfold withB
  rw [bitN_in (by omega) (by omega), Int.toNat_natCast]
  exact one_or s i j
/-- All that is in some sets. -/
def joinL (l : List Nat) : Nat := l.foldl (· ||| ·) 0
theorem foldl_or_bit (l : List Nat) : ∀ (a i : Nat), (l.foldl (· ||| ·) a).testBit i = (a.testBit i || l.any fun x => x.testBit i) := by
  induction l with
  | nil => intro a i; simp
  | cons x r ih => intro a i; rw [List.foldl_cons, ih, Nat.testBit_or, List.any_cons, Bool.or_assoc]
theorem joinL_bit (l : List Nat) (i : Nat) : (joinL l).testBit i = l.any fun x => x.testBit i := by
  unfold joinL; rw [foldl_or_bit]; simp
theorem joinL_lt {l : List Nat} {n : Nat} (h : ∀ x ∈ l, x < 2 ^ n) : joinL l < 2 ^ n := by
  refine Nat.lt_pow_two_of_testBit _ (fun i hi => ?_)
  rw [joinL_bit, List.any_eq_false]
  intro x hx
  rw [Nat.testBit_lt_two_pow (Nat.lt_of_lt_of_le (h x hx) (Nat.pow_le_pow_right (by decide) hi))]
  simp
theorem joinL_take {l : List Nat} {k : Nat} (h : k < l.length) : joinL (l.take (k + 1)) = joinL (l.take k) ||| l[k] := by
  unfold joinL
  rw [List.take_succ_eq_append_getElem h, List.foldl_append]; rfl
/-- Is all of one set in another one? -/
def subB (a b : Nat) : Bool := decide (a &&& (18446744073709551615 - b) = 0)
theorem subB_iff {a b : Nat} (ha : a < 18446744073709551616) (hb : b < 18446744073709551616) : subB a b = true ↔ ∀ i, a.testBit i = true → b.testBit i = true := by
  unfold subB
  rw [decide_eq_true_iff]
  have hc : ∀ i, (18446744073709551615 - b).testBit i = (decide (i < 64) && !b.testBit i) := by
    intro i
    have := Nat.testBit_two_pow_sub_succ (n := 64) (x := b) hb i
    rw [show 2 ^ 64 - (b + 1) = 18446744073709551615 - b by omega] at this
    exact this
  constructor
  · intro h i hi
    have hi64 : i < 64 := by
      rcases Nat.lt_or_ge i 64 with h | h
      · exact h
      · rw [Nat.testBit_lt_two_pow (Nat.lt_of_lt_of_le (show a < 2 ^ 64 from ha) (Nat.pow_le_pow_right (by decide) h))] at hi; cases hi
    have := congrArg (fun y => y.testBit i) h
    simp only [Nat.testBit_and, hc, hi, decide_eq_true hi64, Nat.zero_testBit, Bool.true_and] at this
    simpa using this
  · intro h
    refine Nat.eq_of_testBit_eq (fun i => ?_)
    rw [Nat.testBit_and, hc, Nat.zero_testBit]
    by_cases hi : a.testBit i = true
    · rw [h i hi]; simp
    · simp [hi]
theorem pow_le_64 {n : Nat} (h : n ≤ 64) : 2 ^ n ≤ 18446744073709551616 := Nat.le_trans (Nat.pow_le_pow_right (by decide) h) (by decide)
/-- Rows that may be are of its nodes. -/
theorem sub_nodes {l : List Nat} {n : Nat} (hn : n ≤ 64) (h : ∀ x ∈ l, x < 2 ^ n) : subB (joinL l) (2 ^ n - 1) = true := by
  have hp := pow_le_64 hn
  have hj := joinL_lt h
  rw [subB_iff (by omega) (by have := Nat.two_pow_pos n; omega)]
  intro i hi
  rw [Nat.testBit_two_pow_sub_one]
  refine decide_eq_true ?_
  rcases Nat.lt_or_ge i n with h | h
  · exact h
  · rw [Nat.testBit_lt_two_pow (Nat.lt_of_lt_of_le hj (Nat.pow_le_pow_right (by decide) h))] at hi; cases hi

theorem listB_setB {p : Nat → Bool} {n : Nat} (hn : n ≤ 64) : listB (setB p n) = (List.range n).filter p := by
  unfold listB
  obtain ⟨m, hm⟩ := Nat.le.dest hn
  rw [← hm, List.range_add, List.filter_append]
  have h1 : (List.range n).filter (fun i => (setB p n).testBit i) = (List.range n).filter p := List.filter_congr fun i hi => by
    have : i < n := by simpa using hi
    rw [testBit_setB]; simp [this]
  have h2 : ((List.range m).map (n + ·)).filter (fun i => (setB p n).testBit i) = [] := by
    rw [List.filter_eq_nil_iff]
    intro i hi
    obtain ⟨k, _, rfl⟩ := List.mem_map.1 hi
    rw [testBit_setB]; simp; intro h; omega
  rw [h1, h2, List.append_nil]

/-- One edge. -/
def oneE (a b : Nat) : Edges := fun x y => decide (x = a) && decide (y = b)
def noE : Edges := fun _ _ => false
theorem rowsG_no (n : Nat) : rowsG n noE = List.replicate n 0 := by
  refine List.ext_getElem (by simp [rowsG_length]) fun a h1 h2 => ?_
  have ha : a < n := by rw [rowsG_length] at h1; exact h1
  rw [rowsG_at ha, List.getElem_replicate]
  refine Nat.eq_of_testBit_eq (fun i => ?_)
  rw [testBit_setB]; simp [noE]
theorem rowsG_get {n : Nat} {E : Edges} {a : Nat} (h : a < (rowsG n E).length) : (rowsG n E)[a] = setB (E a) n := rowsG_at (by rw [rowsG_length] at h; exact h)
/-- A row with a number more. -/
theorem setB_with {p : Nat → Bool} {n b : Nat} (hb : b < n) (hn : n ≤ 64) : withB (setB p n) (b : Int) = setB (fun y => p y || decide (y = b)) n := by
  refine setB_eq ?_ (fun i hi => ?_)
  · refine Nat.lt_pow_two_of_testBit _ (fun i hi => ?_)
    rw [withB_bit _ (by omega), testBit_setB]
    simp; omega
  · rw [withB_bit _ (by omega), testBit_setB]
    have : decide (b = i) = decide (i = b) := by simp [eq_comm]
    simp [hi, this]
theorem rowsG_add {n : Nat} {E : Edges} {a b : Nat} (ha : a < n) (hb : b < n) (hn : n ≤ 64) : (rowsG n E).set a (withB ((rowsG n E)[a]'(by rw [rowsG_length]; exact ha)) (b : Int)) = rowsG n (orE E (oneE a b)) := by
  generalize e2 : (rowsG n E)[a]'(by rw [rowsG_length]; exact ha) = v
  rw [rowsG_at ha] at e2
  subst e2
  refine List.ext_getElem (by simp [rowsG_length]) fun x h1 h2 => ?_
  have hx : x < n := by rw [rowsG_length] at h2; exact h2
  have e1 : (rowsG n (orE E (oneE a b)))[x]'h2 = setB (orE E (oneE a b) x) n := rowsG_at hx
  have e3 : (rowsG n E)[x]'(by rw [rowsG_length]; exact hx) = setB (E x) n := rowsG_at hx
  rw [List.getElem_set, e1]
  split
  · rename_i e
    subst e
    rw [setB_with hb hn]
    exact setB_congr fun y hy => by simp [orE, oneE]
  · rename_i e
    rw [e3]
    exact setB_congr fun y hy => by
      have : decide (x = a) = false := by simp; omega
      simp [orE, oneE, this]
theorem joinL_two (a b : Nat) : joinL [a, b] = a ||| b := by unfold joinL; simp
theorem setB_or {p q : Nat → Bool} {n : Nat} : setB p n ||| setB q n = setB (fun y => p y || q y) n := by
  refine setB_eq (Nat.or_lt_two_pow (setB_lt _ _) (setB_lt _ _)) (fun i hi => ?_)
  rw [Nat.testBit_or, testBit_setB, testBit_setB]; simp [hi]
/-- All edges of a graph. -/
def edgesG (n : Nat) (E : Edges) : List (Nat × Nat) := ((List.range n).map fun a => ((List.range n).filter (E a)).map fun b => (a, b)).flatten
theorem edgesG_mem {n : Nat} {E : Edges} {a b : Nat} : (a, b) ∈ edgesG n E ↔ a < n ∧ b < n ∧ E a b = true := by
  unfold edgesG
  rw [List.mem_flatten]
  constructor
  · rintro ⟨l, hl, h⟩
    obtain ⟨x, hx, rfl⟩ := List.mem_map.1 hl
    obtain ⟨y, hy, e⟩ := List.mem_map.1 h
    injection e with e1 e2
    subst e1 e2
    rw [List.mem_filter] at hy
    exact ⟨by simpa using hx, by simpa using hy.1, hy.2⟩
  · rintro ⟨ha, hb, he⟩
    exact ⟨_, List.mem_map.2 ⟨a, by simpa using ha, rfl⟩, List.mem_map.2 ⟨b, List.mem_filter.2 ⟨by simpa using hb, he⟩, rfl⟩⟩
/-- The edges of a row of edges. -/
def ofL (l : List (Nat × Nat)) : Edges := fun a b => l.contains (a, b)
theorem ofL_snoc (l : List (Nat × Nat)) (a b : Nat) : ofL (l ++ [(a, b)]) = orE (ofL l) (oneE a b) := by
  funext x y
  unfold ofL orE oneE
  rw [Bool.eq_iff_iff]
  simp
end Go.Inq

namespace Go.Inq
open Go Go.RowKit

def encU (n : Nat) : List Value := [.int .u64 n]
/-- A slice of sets of bits. -/
def U64S (w : World) (K : Nat → Prop) (v : Value) (l : List Nat) : Prop := SlR 1 (Flat encU) w K v l
section
variable {w w' : World} {K K' : Nat → Prop} {v : Value} {l : List Nat}
theorem U64S.keep (h : U64S w K v l) (ha : Agree K w w') (hk : ∀ b, K b → K' b) : U64S w' K' v l := SlR.keep (Flat.stab _) h ha hk
theorem U64S.below (h : U64S w (Old w) v l) (hb : Below w.heap.size w w') : U64S w' (Old w') v l := SlR.below (Flat.stab _) h hb
theorem U64S.fit (h : U64S w K v l) (hk : ∀ b, K b → K' b) : U64S w K' v l := SlR.fit (Flat.stab _) h hk
theorem U64S.at_ {A : Option Addr} {n c : Nat} (h : U64S w K (.slice A n c) l) {i : Nat} (hi : i < l.length) : ∃ b off, A = some ⟨b, off, none⟩ ∧ K b ∧ w.cell? ⟨b, off + i, none⟩ = some (.int .u64 (l[i] : Nat)) := by
  obtain ⟨b, off, cs, hA, hK, _, hR, hc⟩ := SlR.at_ h hi
  unfold Flat at hR
  subst hR
  have := hc 0 _ rfl
  rw [Nat.mul_one, Nat.add_zero] at this
  exact ⟨b, off, hA, hK, this⟩
theorem U64S.cells {b off n c : Nat} (h : U64S w K (.slice (some ⟨b, off, none⟩) n c) l) {i : Nat} (hi : i < l.length) : K b ∧ w.cell? ⟨b, off + i, none⟩ = some (.int .u64 (l[i] : Nat)) := by
  obtain ⟨cs, hK, _, hR, hc⟩ := SlR.cells h hi
  unfold Flat at hR
  subst hR
  have := hc 0 _ rfl
  rw [Nat.mul_one, Nat.add_zero] at this
  exact ⟨hK, this⟩
theorem U64S.nil (w : World) (K : Nat → Prop) (A : Option Addr) (c : Nat) : U64S w K (.slice A 0 c) [] := SlR.nil _ _ _ _ _ _
/-- A block of sets, whole. -/
theorem U64S.of_blk {g : Nat} {t : TypeId} (h : Blk w g t (l.map fun x : Nat => Value.int .u64 x).toArray) (hK : K g) : U64S w K (.slice (some ⟨g, 0, none⟩) l.length l.length) l := by
  refine ⟨some ⟨g, 0, none⟩, l.length, l.map encU, rfl, Nat.le_refl _, by simp, fun i cs x h1 h2 => ?_, fun _ => ⟨g, 0, rfl, hK, fun i j cs u h1 h2 => ?_⟩⟩
  · rw [List.getElem?_map, h2] at h1
    injection h1 with h1
    exact ⟨by rw [← h1]; rfl, h1.symm⟩
  · rw [List.getElem?_map] at h1
    cases hl : l[i]? with
    | none => rw [hl] at h1; cases h1
    | some x =>
      rw [hl] at h1
      injection h1 with h1
      subst h1
      cases j with
      | zero =>
        injection h2 with h2
        rw [Nat.zero_add, Nat.mul_one, Nat.add_zero, h.cell, List.getElem?_toArray, List.getElem?_map, hl, ← h2]
        rfl
      | succ j => simp [encU] at h2
end

/-- A graph of n nodes. -/
structure GrS (w : World) (K : Nat → Prop) (n : Nat) (A : Option Addr) (c : Nat) (E : Edges) : Prop where
  sl : U64S w K (.slice A n c) (rowsG n E)
  n64 : n ≤ 64
/-- A graph's rows, as a block of its own. -/
def rowsB (n : Nat) (E : Edges) : Array Value := ((rowsG n E).map fun x : Nat => Value.int .u64 x).toArray
theorem rowsB_at {n : Nat} {E : Edges} {a : Nat} (h : a < n) : (rowsB n E)[a]? = some (.int .u64 (setB (E a) n : Nat)) := by
  unfold rowsB
  rw [List.getElem?_toArray, List.getElem?_map, List.getElem?_eq_getElem (by rw [rowsG_length]; exact h), rowsG_at h]; rfl
theorem rowsB_add {n : Nat} {E : Edges} {a b : Nat} (ha : a < n) (hb : b < n) (hn : n ≤ 64) : (rowsB n E).setIfInBounds a (.int .u64 (withB (setB (E a) n) (b : Int) : Nat)) = rowsB n (orE E (oneE a b)) := by
  unfold rowsB
  rw [← rowsG_add ha hb hn, List.setIfInBounds_toArray, List.map_set, rowsG_at ha]
theorem rowsB_set {n : Nat} {E : Edges} {a x : Nat} {p : Nat → Bool} (ha : a < n) (hx : x = setB p n) : (rowsB n E).setIfInBounds a (.int .u64 (x : Nat)) = rowsB n (fun i => if i = a then p else E i) := by
  unfold rowsB
  rw [List.setIfInBounds_toArray]
  congr 1
  refine List.ext_getElem (by simp [rowsG_length]) fun i h1 h2 => ?_
  have hi : i < n := by simpa [rowsG_length] using h2
  rw [List.getElem_set, List.getElem_map, List.getElem_map, rowsG_at hi, rowsG_at hi]
  by_cases e : a = i
  · subst e; rw [if_pos rfl, if_pos rfl, hx]
  · rw [if_neg e, if_neg (fun h => e h.symm)]
theorem rowsB_no (n : Nat) : rowsB n noE = madeCells #[.int .u64 0] n := by
  unfold rowsB
  rw [rowsG_no]
  refine Array.ext (by simp [size_madeCells]) fun i h1 h2 => ?_
  simp [madeCells, Nat.mod_one]
theorem rowsB_congr {n : Nat} {E F : Edges} (h : ∀ a b, a < n → b < n → E a b = F a b) : rowsB n E = rowsB n F := by unfold rowsB; rw [rowsG_congr h]
section
variable {w w' : World} {K K' : Nat → Prop} {n c : Nat} {A : Option Addr} {E F : Edges}
theorem GrS.keep (h : GrS w K n A c E) (ha : Agree K w w') (hk : ∀ b, K b → K' b) : GrS w' K' n A c E := ⟨h.sl.keep ha hk, h.n64⟩
theorem GrS.below (h : GrS w (Old w) n A c E) (hb : Below w.heap.size w w') : GrS w' (Old w') n A c E := ⟨h.sl.below hb, h.n64⟩
theorem GrS.fit (h : GrS w K n A c E) (hk : ∀ b, K b → K' b) : GrS w K' n A c E := ⟨h.sl.fit hk, h.n64⟩
theorem GrS.at_ (h : GrS w K n A c E) {i : Nat} (hi : i < n) : ∃ b off, A = some ⟨b, off, none⟩ ∧ K b ∧ w.cell? ⟨b, off + i, none⟩ = some (.int .u64 (setB (E i) n : Nat)) := by
  obtain ⟨b, off, hA, hK, hc⟩ := h.sl.at_ (i := i) (by rw [rowsG_length]; exact hi)
  rw [rowsG_at hi] at hc
  exact ⟨b, off, hA, hK, hc⟩
theorem GrS.cells {b off : Nat} (h : GrS w K n (some ⟨b, off, none⟩) c E) {i : Nat} (hi : i < n) : K b ∧ w.cell? ⟨b, off + i, none⟩ = some (.int .u64 (setB (E i) n : Nat)) := by
  obtain ⟨b', off', hA, hK, hc⟩ := h.at_ hi
  injection hA with hA; injection hA with h1 h2; subst h1 h2
  exact ⟨hK, hc⟩
theorem GrS.of_blk {g : Nat} {t : TypeId} (h : Blk w g t (rowsB n E)) (hK : K g) (hn : n ≤ 64) : GrS w K n (some ⟨g, 0, none⟩) n E := by
  have := U64S.of_blk (l := rowsG n E) h hK
  rw [rowsG_length] at this
  exact ⟨this, hn⟩
theorem GrS.congr (h : GrS w K n A c E) (hE : ∀ a b, a < n → b < n → E a b = F a b) : GrS w K n A c F := ⟨by rw [← rowsG_congr hE]; exact h.sl, h.n64⟩
theorem GrS.zero (w : World) (K : Nat → Prop) (A : Option Addr) (c : Nat) (E : Edges) : GrS w K 0 A c E := ⟨by simpa [rowsG] using U64S.nil w K A c, by omega⟩
end
theorem setB_64 {p : Nat → Bool} {n : Nat} (h : n ≤ 64) : setB p n < 18446744073709551616 := Nat.lt_of_lt_of_le (setB_lt p n) (pow_le_64 h)
/-- What makes a graph tells: a block of its own, and that it may be. -/
def NewG (t : TypeId) (w : World) (n : Nat) (E : Edges) (e : Ending) (w' : World) : Prop :=
  ∃ g, w.heap.size ≤ g ∧ e = .returned (.tuple #[.agg #[.int .i64 n, .slice (some ⟨g, 0, none⟩) n n], .int .i64 0]) ∧ Blk w' g t (rowsB n E) ∧ Below w.heap.size w w'
theorem NewG.congr {t : TypeId} {w w' : World} {n : Nat} {E F : Edges} {e : Ending} (h : NewG t w n E e w') (hE : ∀ a b, a < n → b < n → E a b = F a b) : NewG t w n F e w' := by
  unfold NewG at h ⊢
  rw [← rowsB_congr hE]; exact h
end Go.Inq

namespace Go.Proofs.YtjomijnbnbideaaGreatDoor
open Go.RowKit Go.Inq
set_option maxHeartbeats 1000000
attribute [local go_sem ↓] Go.wp_at_zero Go.wp_at_succ

theorem bit_any (i : Int) (w : World) : Calls Tryz.prog 151 #[.int .i64 i] w fun e w' => e = .returned (.int .u64 (bitN i : Nat)) ∧ w = w' := by
  by_cases h0 : i < 0
  · have hr := hide (bitN_low h0)
    have h0b : decide (i < 0) = true := by simpa using h0
    clear h0
    go_enter Tryz.func151, Tryz.ntmps151
    go_wp2
    go_ret
    exact ⟨by rw [hr.out]; rfl, rfl⟩
  · by_cases h1 : 64 ≤ i
    · have hr := hide (bitN_high h1)
      have h0b : decide (i < 0) = false := by simpa using h0
      have h1b : decide (i ≥ 64) = true := by simpa using h1
      clear h0 h1
      go_enter Tryz.func151, Tryz.ntmps151
      go_wp2
      go_ret
      exact ⟨by rw [hr.out]; rfl, rfl⟩
    · have hr := hide (bitN_in (i := i) (by omega) (by omega))
      have hlt := hide (bitN_lt i)
      have h0b : decide (i < 0) = false := by simpa using h0
      have h1b : decide (i ≥ 64) = false := by simpa using h1
      have h2 : 0 ≤ i := by omega
      have h3 : i ≤ 64 := by omega
      clear h0 h1
      go_enter Tryz.func151, Tryz.ntmps151
      go_wp2
      go_ret
      refine ⟨ret_int ?_, rfl⟩
      have e1 := hr.out
      have e2 := hlt.out
      rw [e1] at e2
      have e3 : min i.toNat IntKind.u64.bits = i.toNat := by simp [IntKind.bits]; omega
      try rw [e3]
      rw [IntKind.wrap_u64, e1]
      have e4 : ((2 : Int) ^ i.toNat) = ((2 ^ i.toNat : Nat) : Int) := by simp
      omega
theorem has10_any (s : Nat) (hs : s < 18446744073709551616) (i : Int) (w : World) : Calls Tryz.prog 85 #[.int .u64 s, .int .i64 i] w fun e w' => e = .returned (.bool (hasB s i)) ∧ w = w' := by
  have h1 := u64_and_nat s (bitN i) hs (bitN_lt i)
  have hr := hide (and_bitN hs i)
  go_enter Tryz.func85, Tryz.ntmps85
  go_wp2_with fail
  refine (bit_any i _).mono ?_
  rintro e w1 ⟨rfl, rfl⟩
  go_wp2
  go_ret
  refine ⟨ret_bool ?_, rfl⟩
  have := hr.out
  rw [← Bool.not_not (hasB s i), ← this, Bool.eq_iff_iff]
  simp
theorem with10_any (s : Nat) (hs : s < 18446744073709551616) (i : Int) (w : World) : Calls Tryz.prog 117 #[.int .u64 s, .int .i64 i] w fun e w' => e = .returned (.int .u64 (withB s i : Nat)) ∧ w = w' := by
  have h1 := u64_or_nat s (bitN i) hs (bitN_lt i)
  go_enter Tryz.func117, Tryz.ntmps117
  go_wp2_with fail
  refine (bit_any i _).mono ?_
  rintro e w1 ⟨rfl, rfl⟩
  go_wp2
  go_ret
  exact ⟨rfl, rfl⟩
theorem sub10_any (a b : Nat) (ha : a < 18446744073709551616) (hb : b < 18446744073709551616) (w : World) : Calls Tryz.prog 116 #[.int .u64 a, .int .u64 b] w fun e w' => e = .returned (.bool (subB a b)) ∧ w = w' := by
  have h1 := u64_andNot_nat a b ha hb
  go_enter Tryz.func116, Tryz.ntmps116
  go_wp2
  go_ret
  refine ⟨ret_bool ?_, rfl⟩
  unfold subB
  rw [Bool.eq_iff_iff]
  simp
theorem join10_any (A : Option Addr) (n c : Nat) (l : List Nat) (K : Nat → Prop) (w : World) (hn : l.length = n) (h : U64S w K (.slice A n c) l) (h64 : ∀ x ∈ l, x < 18446744073709551616) (hm : n ≤ 1000000) :
    Calls Tryz.prog 149 #[.slice A n c] w fun e w' => e = .returned (.int .u64 (joinL l : Nat)) ∧ w = w' := by
  replace hn := hide hn
  have hj : ∀ k, joinL (l.take k) < 18446744073709551616 := fun k => joinL_lt (n := 64) fun x hx => h64 x (List.mem_of_mem_take hx)
  replace hj := hide hj
  replace h64 := hide h64
  go_enter Tryz.func149, Tryz.ntmps149
  go_wp2_with fail
  go_loop [3, 8] (fun s3 s8 => ∃ k : Nat, k ≤ n ∧ s8 = .int .i64 k ∧ s3 = .int .u64 (joinL (l.take k) : Nat)) (fun _ s8 => n - (intOf s8).toNat)
  case atStart => exact ⟨0, Nat.zero_le _, by go_num, rfl⟩
  case round =>
    obtain ⟨k, hk, rfl, rfl⟩ := hrel
    by_cases hlt : k < n
    · have hi1 : (0 : Int) ≤ (k : Int) := Int.natCast_nonneg _
      have hi2 : (k : Int) < (n : Int) := by omega
      have hkl : k < l.length := by rw [hn.out]; exact hlt
      obtain ⟨b, off, rfl, hbK, hc⟩ := U64S.at_ h hkl
      have hor := u64_or_nat (joinL (l.take k)) l[k] (hj.out k) (h64.out _ (List.getElem_mem hkl))
      have hst := hide (joinL_take hkl)
      generalize l[k] = x at *
      generalize joinL (l.take k) = y at *
      clear hkl
      go_wp2
      go_round
      case rel => exact ⟨k + 1, by omega, by go_num, by rw [hst.out]⟩
      case measure => simp [intOf]; omega
    · obtain rfl : k = n := by omega
      have ht : l.take k = l := List.take_of_length_le (by rw [hn.out]; exact Nat.le_refl _)
      rw [ht]
      clear ht
      go_wp2
      go_ret
      exact ⟨rfl, rfl⟩
theorem nodes12_any (n : Nat) (hn : n ≤ 64) (w : World) : Calls Tryz.prog 150 #[.int .i64 n] w fun e w' => e = .returned (.int .u64 (2 ^ n - 1 : Nat)) ∧ w = w' := by
  have h2 : (0 : Int) ≤ (n : Int) := Int.natCast_nonneg _
  have h3 : (n : Int) ≤ 64 := by omega
  have hp := hide (pow_le_64 hn)
  have hp2 := hide (Nat.two_pow_pos n)
  go_enter Tryz.func150, Tryz.ntmps150
  go_wp2
  go_ret
  refine ⟨ret_int ?_, rfl⟩
  have e1 := hp.out
  have e2 := hp2.out
  have e3 : min n IntKind.u64.bits = n := by simp [IntKind.bits]; omega
  have e4 : ((2 : Int) ^ n) = ((2 ^ n : Nat) : Int) := by simp
  simp only [Int.toNat_natCast, IntKind.wrap_u64] at *
  try rw [e3]
  rw [e4]
  generalize 2 ^ n = x at *
  omega
end Go.Proofs.YtjomijnbnbideaaGreatDoor

namespace Go.Proofs.YtjomijnbnbideaaGreatDoor
open Go.RowKit Go.Inq
set_option maxHeartbeats 1000000
attribute [local go_sem ↓] Go.wp_at_zero Go.wp_at_succ

/-- The library's table lies in its variable. -/
def TabB (w : World) : Prop := ∀ j, j < Lib.deBruijn64tab.length → w.cell? ⟨0, j, none⟩ = some (.int .u8 (Lib.deBruijn64tab.getD j 0))
theorem TabB.lt {w : World} (h : TabB w) : 0 < w.heap.size := by
  have := h 0 (by decide)
  rcases Nat.lt_or_ge 0 w.heap.size with g | g
  · exact g
  · unfold World.cell? at this; simp [Array.getElem?_eq_none g] at this
theorem TabB.below {w w' : World} (h : TabB w) (hb : Below w.heap.size w w') : TabB w' := fun j hj => (hb.cell (p := ⟨0, j, none⟩) h.lt).trans (h j hj)
theorem TabB.below' {w w' : World} {B : Nat} (h : TabB w) (hb : Below B w w') (hB : 0 < B) : TabB w' := fun j hj => (hb.cell (p := ⟨0, j, none⟩) hB).trans (h j hj)
theorem TabB.drewN {w : World} (h : TabB w) (n : Nat) : TabB (w.drewN n) := h
theorem tz_key (x a : Nat) (hx : x < 18446744073709551616) (hx0 : x ≠ 0) (hlow : x &&& (18446744073709551616 - x) = a) :
    IntKind.u64.wrap (bits BinOp.and IntKind.u64 (x : Int) (IntKind.u64.wrap (-(x : Int))) * 285870213051353865) / 288230376151711744 = ((a * 285870213051353865 % 18446744073709551616 / 288230376151711744 : Nat) : Int) := by
  have e1 : IntKind.u64.wrap (-(x : Int)) = ((18446744073709551616 - x : Nat) : Int) := by rw [IntKind.wrap_u64]; omega
  rw [e1, u64_and_nat x _ hx (by omega), hlow, IntKind.wrap_u64]
  omega
theorem tz_core (x k idx : Nat) (w : World) (hx0 : ((x : Int) == 0) = false)
    (key : IntKind.u64.wrap (bits BinOp.and IntKind.u64 (x : Int) (IntKind.u64.wrap (-(x : Int))) * 285870213051353865) / 288230376151711744 = (idx : Int))
    (hi : idx < 64) (hk : k < 64) (hcell : w.cell? ⟨0, idx, none⟩ = some (.int .u8 k)) :
    Calls Tryz.prog 179 #[.int .u64 x] w fun e w' => e = .returned (.int .i64 k) ∧ w = w' := by
  go_enter Tryz.func179, Tryz.ntmps179
  go_wp2_with (simp only [key])
  go_ret
  exact ⟨rfl, rfl⟩
theorem tz64_any (x : Nat) (hx : x < 18446744073709551616) (w : World) (hT : TabB w) :
    Calls Tryz.prog 179 #[.int .u64 x] w fun e w' => e = .returned (.int .i64 (Lib.ctz 64 x)) ∧ w = w' := by
  by_cases hx0 : x = 0
  · subst hx0
    go_enter Tryz.func179, Tryz.ntmps179
    go_wp2
    go_ret
    exact ⟨rfl, rfl⟩
  · obtain ⟨hlow, hk⟩ := Lib.lowest_bit 64 x hx0 hx
    obtain ⟨hi, htab⟩ := Lib.deBruijn64_at _ hk
    have hcell := hT _ hi
    rw [htab] at hcell
    exact tz_core x _ _ w (by simp; omega) (tz_key x _ hx hx0 hlow) hi hk hcell
end Go.Proofs.YtjomijnbnbideaaGreatDoor

namespace Go.Inq
open Go Go.RowKit

theorem below_grown {B : Nat} {w0 w w' : World} {row : Option Nat} (hb : Below B w0 w) (hg : w.grownBy w' row) (hB : B ≤ w.heap.size) (hr : ∀ k, row = some k → B ≤ k) : Below B w0 w' :=
  hb.trans ⟨hg.os, hg.tape, hg.output, hg.size, fun k hk => hg.block k (Nat.lt_of_lt_of_le hk hB) (fun e => by have := hr k e.symm; omega)⟩

/-- append(s, x), the element a block that was just made. -/
theorem wpList_push {P : Program} {W : World} {ops : Array Oper} {rest : List Oper} {o : Oper} {a : Act} {Q : Exit → Act → World → Prop} {α : Type} {enc : α → List Value}
    (hgd : o.guard = none) (s x : Operand) (t : TypeId) (ho : o.op = .call { callee := .builtin .append, args := #[s, x], argTypes := #[t, t] })
    (base : Nat) (e : TypeId) (i : TypeInfo) (z : Value) (size bytes : Nat) (ht : P.underlying t = some (.slice e)) (hi : P.info? e = some i) (hz : i.zero = some z)
    (hsize : i.size = size) (hby : i.bytes = bytes) (hzs : z.cells.size = size) (hsz : 0 < size)
    (v : Value) (l : List α) (hs : a.eval s = v) (hown : W.ownsRow base e size v l.length (l.map enc).flatten) (hen : ∀ x, (enc x).length = size)
    (x0 : α) (cs : Array Value) (hcs : cs.toList = enc x0) (hx : a.eval x = .slice (some ⟨W.heap.size, 0, none⟩) 1 1)
    (h1 : ∀ x, ∀ u ∈ enc x, u.oneCell' = true) (h63 : l.length + 1 ≤ maxLen) (hbytes : (l.length + 1) * bytes ≤ 140737488355328) (hbase : base ≤ W.heap.size)
    (w0 : World) (B : Nat) (hB : B ≤ base) (hb : Below B w0 W)
    (h : ∀ v' w', w'.ownsRow base e size v' (l ++ [x0]).length ((l ++ [x0]).map enc).flatten → (W.alloc (.cells cs e)).grownBy w' v.ownBlock → Below B w0 w' → (v'.ownBlock = v.ownBlock ∨ v'.ownBlock = some (W.heap.size + 1)) → wpList P ops Q rest (a.put o.dst v') w') :
    wpList P ops Q (o :: rest) a (W.alloc (.cells cs e)) := by
  have hk : Blk (W.alloc (.cells cs e)) W.heap.size e cs := Blk.new _ _ _
  have hl : cs.size = size := by rw [← Array.length_toList, hcs, hen]
  refine wpList_append_flat (enc := enc) hgd s x t ho base e i z size bytes ht hi hz hsize hby hzs hsz v (fun _ => True) l hs (hown.alloc _) hen _ [x0] hx (SlR.one hk hl (by unfold Flat; exact hcs) trivial) h1 h63 hbytes (by simp; omega) ?_
  intro v' w' g1 g2 g3
  refine h v' w' g1 g2 (below_grown (hb.alloc (by omega) _) g2 (by simp; omega) ?_) (by simpa using g3)
  intro k hk
  have := (hown.lt k hk).1
  omega
end Go.Inq

namespace Go.Proofs.YtjomijnbnbideaaGreatDoor
open Go.RowKit Go.Inq
set_option maxHeartbeats 1000000
attribute [local go_sem ↓] Go.wp_at_zero Go.wp_at_succ

def intsN (l : List Nat) : List Int := l.map fun (n : Nat) => (n : Int)
theorem intsN_snoc (l : List Nat) (x : Nat) : intsN (l ++ [x]) = intsN l ++ [(x : Int)] := by simp [intsN]
theorem intsN_len (l : List Nat) : (intsN l).length = l.length := by simp [intsN]
theorem intsN_at {l : List Nat} {i : Nat} (h : i < l.length) : (intsN l)[i]'(by rw [intsN_len]; exact h) = (l[i] : Int) := by simp [intsN]
theorem infoI10 : (Tryz.prog.info? 3).map (fun i => (i.zero, i.size, i.bytes)) = some (some (.int .i64 0), 1, 8) := by kernel_rfl
/-- A row of numbers of the call's own. -/
def OwnI (w : World) (base : Nat) (v : Value) (l : List Int) : Prop := w.ownsRow base 3 1 v l.length (l.map Go.Inq.encI).flatten
/-- What a call tells, where it is such a row. -/
def OutI (w : World) (l : List Int) (e : Ending) (w' : World) : Prop := ∃ v, e = .returned v ∧ OwnI w' w.heap.size v l ∧ Below w.heap.size w w'
theorem OwnI.form {w : World} {base : Nat} {v : Value} {l : List Int} (h : OwnI w base v l) : ∃ A c, v = .slice A l.length c := own_slice h
theorem OwnI.sl {w : World} {base : Nat} {v : Value} {l : List Int} (h : OwnI w base v l) {K : Nat → Prop} (hK : ∀ g, base ≤ g → g < w.heap.size → K g) : IntS w K v l := SlR.of_flat h rfl (fun _ => rfl) hK
theorem OwnI.nil (w : World) (base : Nat) : OwnI w base (.slice none 0 0) [] := World.ownsRow_nil _ _ _ _
/-- Below 2 to the power of 64. -/
def B64 (n : Nat) : Prop := n < 18446744073709551616
def restL (s y : Nat) (l : List Nat) : Prop := l ++ listB y = listB s
theorem restL_next {s y : Nat} {l : List Nat} (h : restL s y l) (h0 : y ≠ 0) (hy : y < 18446744073709551616) : restL s (y &&& (y - 1)) (l ++ [Lib.ctz 64 y]) := by
  unfold restL at h ⊢
  rw [← h, listB_next y h0 hy]; simp
theorem list10_any (s : Nat) (hs : s < 18446744073709551616) (w : World) (hT : TabB w) :
    Calls Tryz.prog 121 #[.int .u64 s] w (OutI w (intsN (listB s))) := by
  obtain ⟨ii, hii, hi1, hi2, hi3⟩ := info_parts infoI10
  go_enter Tryz.func121, Tryz.ntmps121
  go_wp2_with fail
  go_loopw [0, 3] (fun s0 s3 wr => ∃ (y : Nat) (l : List Nat), B64 y ∧ s0 = .int .u64 y ∧ Hid (restL s y l) ∧ OwnI wr w.heap.size s3 (intsN l) ∧ Below w.heap.size w wr) (fun s0 _ _ => (listB (intOf s0).toNat).length)
  case atStart => exact ⟨s, [], hs, rfl, (show [] ++ listB s = listB s from rfl), OwnI.nil _ _, Below.refl _ _⟩
  case round =>
    obtain ⟨y, l, hy, rfl, hr, hown, hb⟩ := hrel
    unfold B64 at hy
    by_cases h0 : y = 0
    · subst h0
      have he := hr.out
      unfold restL at he
      rw [listB_zero, List.append_nil] at he
      subst he
      go_wp2
      go_ret
      exact ⟨_, rfl, hown, hb⟩
    · have h0b : ((y : Int) != 0) = true := by simp; omega
      have hT2 := hT.below hb
      have hn := hide (restL_next hr.out h0 hy)
      have hlen : l.length + 1 ≤ 64 := by
        have h1 := congrArg List.length hr.out
        have h2 := congrArg List.length (listB_next y h0 hy)
        have h3 := listB_len s
        simp only [List.length_append, List.length_cons] at h1 h2
        omega
      have hand := u64_and_nat y (y - 1) hy (by omega)
      have hsub : IntKind.u64.wrap ((y : Int) - 1) = ((y - 1 : Nat) : Int) := by rw [IntKind.wrap_u64]; omega
      have hlt := hide (and_less y hy)
      have hms := hide (show (listB (y &&& (y - 1))).length < (listB y).length by rw [listB_next y h0 hy]; simp)
      generalize y &&& (y - 1) = z at *
      generalize y - 1 = y1 at *
      have hsz := hb.size
      obtain ⟨A, c, rfl⟩ := hown.form
      replace hown := hide hown
      replace hr := hide hr.out
      replace hy := hide hy
      clear h0 hs
      go_wp2_with (first | (go_at_call 179; refine (tz64_any y hy.out _ hT2).mono ?_; rintro e w' ⟨rfl, rfl⟩) | (at_builtin; refine wpList_push (enc := Go.Inq.encI) rfl (.tmp 10) (.tmp 13) 27 rfl w.heap.size 3 ii _ 1 8 Tryz.underlying27 hii hi1 hi2 hi3 rfl (by decide) (.slice A (intsN l).length c) (intsN l) rfl hown.out (fun _ => rfl) (Lib.ctz 64 y : Int) _ rfl rfl encI_one (by rw [intsN_len]; simp [maxLen]; omega) (by rw [intsN_len]; omega) hsz w w.heap.size (Nat.le_refl _) hb ?_; intro v1 w1 hown1 hg1 hb1 _))
      go_roundw
      case rel => exact ⟨z, l ++ [Lib.ctz 64 y], hlt.out, rfl, hn, by unfold OwnI; rw [intsN_snoc]; exact hown1, hb1⟩
      case measure =>
        simp only [intOf, Int.toNat_natCast]
        exact hms.out
end Go.Proofs.YtjomijnbnbideaaGreatDoor

namespace Go.Inq
open Go Go.RowKit

theorem wpList_copy_whole {P : Program} {w : World} {ops : Array Oper} {rest : List Oper} {o : Oper} {a : Act} {Q : Exit → Act → World → Prop} {α : Type} (f : α → Value)
    (hgd : o.guard = none) (d s : Operand) (dT sT : TypeId) (ho : o.op = .call { callee := .builtin .copy, args := #[d, s], argTypes := #[dT, sT] })
    (elem : TypeId) (hu : P.underlying dT = some (.slice elem)) (hsz : (P.info? elem).map (·.size) = some 1)
    (g n dc c : Nat) (A : Option Addr) (hd : a.eval d = .slice (some ⟨g, 0, none⟩) n dc) (hs : a.eval s = .slice A n c)
    (cur : Array Value) (t : TypeId) (hg : Blk w g t cur) (hcur : cur.size = n) (l : List α) (hl : l.length = n)
    (hsrc : ∀ i (hi : i < l.length), ∃ b off, A = some ⟨b, off, none⟩ ∧ w.cell? ⟨b, off + i, none⟩ = some (f l[i])) (h1 : ∀ x ∈ l, (f x).oneCell' = true)
    (h : ∀ w', Blk w' g t (l.map f).toArray → w.grownBy w' (some g) → wpList P ops Q rest (a.put o.dst (goInt n)) w') : wpList P ops Q (o :: rest) a w := by
  by_cases h0 : n = 0
  · subst h0
    have : l = [] := List.eq_nil_of_length_eq_zero hl
    subst this
    have hc : cur = #[] := Array.eq_empty_of_size_eq_zero hcur
    subst hc
    exact wpList_copy_nothing hgd d s dT sT ho elem hu hsz _ _ 0 dc 0 c hd hs rfl (h w (by simpa using hg) ⟨rfl, rfl, rfl, Nat.le_refl _, fun _ _ _ => rfl⟩)
  · obtain ⟨b, off, rfl, _⟩ := hsrc 0 (by omega)
    have hcs : (l.map f).length = n := by simpa using hl
    refine wpList_copy_own hgd d s dT sT ho elem hu hsz g 0 n dc ⟨b, off, none⟩ n c hd hs cur t hg (l.map f) (by rw [hcs]; simp [Nat.min_def]) (fun j v hj => ?_) (by rw [hcs]; omega) (fun v hv => ?_) ?_
    · rw [List.getElem?_map] at hj
      cases hlj : l[j]? with
      | none => rw [hlj] at hj; cases hj
      | some x =>
        rw [hlj] at hj
        injection hj with hj
        obtain ⟨hjl, rfl⟩ := List.getElem?_eq_some_iff.1 hlj
        obtain ⟨b', off', hA, hc⟩ := hsrc j hjl
        injection hA with hA
        injection hA with e1 e2
        subst e1 e2
        rw [Addr.add_lit, ← hj]
        exact hc
    · obtain ⟨x, hx, rfl⟩ := List.mem_map.1 hv
      exact h1 x hx
    · rw [hcs]
      have e : (cur.toList.take 0 ++ (l.map f ++ cur.toList.drop (0 + n))).toArray = (l.map f).toArray := by
        rw [List.drop_of_length_le (by simp; omega)]; simp
      rw [e]
      exact h _ (setRow_heap w g cur _ t _ hg) ⟨rfl, rfl, rfl, by simp [World.setRow], fun k hk hne => setRow_other w g k _ (fun e => hne (by rw [e]))⟩

section
variable {w W : World} {o : Obj} {K : Nat → Prop}
theorem Blk.allocEq {g : Nat} {t : TypeId} {cs : Array Value} (h : Blk w g t cs) (e : w.alloc o = W) : Blk W g t cs := by subst e; exact h.alloc o
theorem Agree.allocEq (e : w.alloc o = W) (hk : ∀ b, K b → b < w.heap.size) : Agree K w W := by subst e; exact Agree.alloc hk o
theorem below_allocEq {B : Nat} {w0 : World} (h : Below B w0 w) (e : w.alloc o = W) (hB : B ≤ w.heap.size) : Below B w0 W := by subst e; exact h.alloc hB o
theorem Blk.newEq {t : TypeId} {cs : Array Value} (e : w.alloc (.cells cs t) = W) : Blk W w.heap.size t cs := by subst e; exact Blk.new _ _ _
theorem Blk.two1 {t : TypeId} {cs : Array Value} (e : (w.alloc (.cells cs t)).alloc o = W) : Blk W w.heap.size t cs := by subst e; exact (Blk.new _ _ _).alloc _
theorem Blk.two2 {t : TypeId} {cs : Array Value} (e : (w.alloc o).alloc (.cells cs t) = W) : Blk W (w.heap.size + 1) t cs := by
  subst e
  have := Blk.new (w.alloc o) t cs
  simpa using this
theorem size_two {o' : Obj} (e : (w.alloc o).alloc o' = W) : W.heap.size = w.heap.size + 2 := by subst e; simp
theorem below_two {o' : Obj} (e : (w.alloc o).alloc o' = W) : Below w.heap.size w W := by subst e; exact ((Below.refl _ _).alloc (Nat.le_refl _) _).alloc (by simp) _
theorem Blk.three1 {o' : Obj} {t : TypeId} {cs : Array Value} (e : ((w.alloc (.cells cs t)).alloc o).alloc o' = W) : Blk W w.heap.size t cs := by subst e; exact ((Blk.new _ _ _).alloc _).alloc _
theorem Blk.three2 {o' : Obj} {t : TypeId} {cs : Array Value} (e : ((w.alloc o).alloc (.cells cs t)).alloc o' = W) : Blk W (w.heap.size + 1) t cs := by
  subst e
  have := (Blk.new (w.alloc o) t cs).alloc o'
  simpa using this
theorem Blk.three3 {o' : Obj} {t : TypeId} {cs : Array Value} (e : ((w.alloc o).alloc o').alloc (.cells cs t) = W) : Blk W (w.heap.size + 1 + 1) t cs := by
  subst e
  have := Blk.new ((w.alloc o).alloc o') t cs
  simpa using this
theorem size_three {o' o'' : Obj} (e : ((w.alloc o).alloc o').alloc o'' = W) : W.heap.size = w.heap.size + 3 := by subst e; simp
theorem below_three {o' o'' : Obj} (e : ((w.alloc o).alloc o').alloc o'' = W) : Below w.heap.size w W := by subst e; exact (((Below.refl _ _).alloc (Nat.le_refl _) _).alloc (by simp) _).alloc (by simp; omega) _
theorem size_allocEq (e : w.alloc o = W) : W.heap.size = w.heap.size + 1 := by subst e; simp
end
theorem grown_trans {w w' w'' : World} {r : Option Nat} (h : w.grownBy w' r) (h' : w'.grownBy w'' r) : w.grownBy w'' r :=
  ⟨h'.os.trans h.os, h'.tape.trans h.tape, h'.output.trans h.output, Nat.le_trans h.size h'.size, fun k hk hne => (h'.block k (Nat.lt_of_lt_of_le hk h.size) hne).trans (h.block k hk hne)⟩
theorem grown_below {w w' : World} {B : Nat} {r : Option Nat} (hb : Below B w w') (hB : w.heap.size ≤ B) : w.grownBy w' r := ⟨hb.os, hb.tape, hb.output, hb.size, fun k hk _ => hb.block k (by omega)⟩
theorem grown_set {w : World} (g i : Nat) (u : Value) : w.grownBy (w.setCell ⟨g, i, none⟩ u) (some g) :=
  ⟨rfl, rfl, rfl, by simp, fun k hk hne => Below.heap_setCell w ⟨g, i, none⟩ u k (fun e => hne (by simp at e; rw [e]))⟩
theorem grown_drew {w : World} {r : Option Nat} : w.grownBy w.drew r := ⟨rfl, rfl, rfl, Nat.le_refl _, fun _ _ _ => rfl⟩
theorem grown_drewN {w : World} {r : Option Nat} (n : Nat) : w.grownBy (w.drewN n) r := ⟨rfl, rfl, rfl, Nat.le_refl _, fun _ _ _ => rfl⟩
theorem Agree.ofGrown {K : Nat → Prop} {w w' : World} {g : Nat} (h : w.grownBy w' (some g)) (hK : ∀ b, K b → b < g) (hg : g ≤ w.heap.size) : Agree K w w' := Agree.grown h fun b hb => ⟨by have := hK b hb; omega, by have := hK b hb; simp; omega⟩
end Go.Inq
