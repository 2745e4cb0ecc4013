/-
  Plain words of layer 9: writers, readers, keys, pairs.
-/
import Derived.Lib.SlicesCompact
import Derived.Laws.BitsAllLaws
import Derived.Lib.TrailingZeros
import Derived.Test.YtfhnamomiaekdaaR01
set_option linter.unusedVariables false
set_option linter.unusedSimpArgs false
namespace Go.Inq
open Go.Lib

theorem compact_rise (d : Array Int) (hs : ∀ i j, i ≤ j → j < d.size → d[i]! ≤ d[j]!) : ∀ m, m ≤ d.size →
    (compactUpTo d m).Pairwise (· < ·) ∧ ∀ x, x ∈ compactUpTo d m ↔ ∃ j, j < m ∧ d[j]! = x
  | 0, _ => ⟨by simp [compactUpTo], fun x => by simp [compactUpTo]⟩
  | m + 1, hm => by
    obtain ⟨h1, h2⟩ := compact_rise d hs m (by omega)
    rw [compactUpTo_succ]
    by_cases hk : keeps d m = true
    · rw [if_pos hk]
      refine ⟨List.pairwise_append.2 ⟨h1, by simp, fun a ha b hb => ?_⟩, fun x => ?_⟩
      · obtain rfl : b = d[m]! := by simpa using hb
        obtain ⟨j, hj, rfl⟩ := (h2 a).1 ha
        have hne : d[m]! ≠ d[m - 1]! := by
          unfold keeps at hk
          have := of_decide_eq_true hk
          rcases this with h | h
          · omega
          · exact h
        have e1 := hs j (m - 1) (by omega) (by omega)
        have e2 := hs (m - 1) m (by omega) (by omega)
        omega
      · rw [List.mem_append, h2]
        constructor
        · rintro (⟨j, hj, e⟩ | h)
          · exact ⟨j, by omega, e⟩
          · exact ⟨m, by omega, by simpa using (List.mem_singleton.1 h).symm⟩
        · rintro ⟨j, hj, e⟩
          by_cases he : j = m
          · subst he; exact .inr (by simp [e])
          · exact .inl ⟨j, by omega, e⟩
    · rw [if_neg hk, List.append_nil]
      refine ⟨h1, fun x => ?_⟩
      rw [h2]
      have hk2 : ¬ (m = 0 ∨ d[m]! ≠ d[m - 1]!) := fun h => hk (by unfold keeps; exact decide_eq_true h)
      constructor
      · rintro ⟨j, hj, e⟩; exact ⟨j, by omega, e⟩
      · rintro ⟨j, hj, e⟩
        by_cases he : j = m
        · subst he
          exact ⟨j - 1, by omega, by rw [← e]; exact Eq.symm (Classical.byContradiction fun h => hk2 (.inr h))⟩
        · exact ⟨j, by omega, e⟩

/-- Two rows that rise, of the same elements, are the same. -/
theorem rise_eq : ∀ {a b : List Int}, a.Pairwise (· < ·) → b.Pairwise (· < ·) → (∀ x, x ∈ a ↔ x ∈ b) → a = b
  | [], [], _, _, _ => rfl
  | [], y :: _, _, _, h => by have := (h y).2 (by simp); cases this
  | x :: _, [], _, _, h => by have := (h x).1 (by simp); cases this
  | x :: a, y :: b, ha, hb, h => by
    rw [List.pairwise_cons] at ha hb
    have hxy : x = y := by
      have h1 := (h x).1 (by simp)
      have h2 := (h y).2 (by simp)
      rw [List.mem_cons] at h1 h2
      rcases h1 with h1 | h1
      · exact h1
      · rcases h2 with h2 | h2
        · exact h2.symm
        · have := ha.1 _ h2; have := hb.1 _ h1; omega
    subst hxy
    rw [rise_eq ha.2 hb.2 (fun z => ?_)]
    have hz := h z
    rw [List.mem_cons, List.mem_cons] at hz
    constructor
    · intro hm
      rcases hz.1 (.inr hm) with e | e
      · have := ha.1 _ hm; omega
      · exact e
    · intro hm
      rcases hz.2 (.inr hm) with e | e
      · have := hb.1 _ hm; omega
      · exact e

/-- slices.Compact of what slices.Sort leaves. -/
theorem compact_sorted (l : List Int) : (compact (l.mergeSort fun x y => decide (x ≤ y))).Pairwise (· < ·) ∧ ∀ x, x ∈ compact (l.mergeSort fun x y => decide (x ≤ y)) ↔ x ∈ l := by
  have hp := List.pairwise_mergeSort (le := fun x y : Int => decide (x ≤ y)) (fun a b c h1 h2 => by simp at *; omega) (fun a b => by simp; omega) l
  have hm : ∀ x, x ∈ (l.mergeSort fun x y => decide (x ≤ y)) ↔ x ∈ l := fun x => List.mem_mergeSort
  generalize (l.mergeSort fun x y => decide (x ≤ y)) = s at *
  have hs : ∀ i j, i ≤ j → j < s.toArray.size → s.toArray[i]! ≤ s.toArray[j]! := by
    intro i j hij hj
    have hj' : j < s.length := by simpa using hj
    rw [getElem!_pos s.toArray i (by simp; omega), getElem!_pos s.toArray j hj]
    rcases Nat.lt_or_eq_of_le hij with h | h
    · have := List.pairwise_iff_getElem.1 hp i j (by omega) hj' h
      simpa using this
    · subst h; exact Int.le_refl _
  obtain ⟨h1, h2⟩ := compact_rise s.toArray hs s.length (by simp)
  refine ⟨h1, fun x => ?_⟩
  unfold compact
  rw [h2, ← hm]
  constructor
  · rintro ⟨j, hj, rfl⟩
    rw [getElem!_pos s.toArray j (by simpa using hj)]
    simp
  · intro h
    obtain ⟨j, hj, rfl⟩ := List.getElem_of_mem h
    exact ⟨j, hj, by rw [getElem!_pos s.toArray j (by simpa using hj)]; simp⟩

/-- A choice, or a pair of writers of one key. -/
structure Cho where
  key : Int
  a : Int
  b : Int
deriving DecidableEq

def txnAt (H : List Txn) (t : Nat) : Txn := H.getD t ⟨0, [], []⟩
theorem txnAt_of {H : List Txn} {t : Nat} (h : t < H.length) : txnAt H t = H[t] := by unfold txnAt; rw [List.getD_eq_getElem?_getD, List.getElem?_eq_getElem h]; rfl

/-- Who writes a key (of a history that may be). -/
def wrsTo (H : List Txn) (key : Int) (n : Nat) : List Nat := (List.range n).filter fun t => (txnAt H t).writes.contains key
def wrsL (H : List Txn) (key : Int) : List Nat := wrsTo H key H.length
theorem wrsTo_step (H : List Txn) (key : Int) (n : Nat) : wrsTo H key (n + 1) = wrsTo H key n ++ (if (txnAt H n).writes.contains key then [n] else []) := by
  unfold wrsTo
  rw [List.range_succ, List.filter_append]
  congr 1
  rw [List.filter_cons, List.filter_nil]
theorem wrsL_mem {H : List Txn} {key : Int} {t : Nat} : t ∈ wrsL H key ↔ t < H.length ∧ key ∈ (txnAt H t).writes := by
  unfold wrsL wrsTo; rw [List.mem_filter, List.mem_range, List.contains_iff_mem]
theorem wrsL_rise (H : List Txn) (key : Int) : (wrsL H key).Pairwise (· < ·) := List.Pairwise.filter _ List.pairwise_lt_range
theorem wrsL_len (H : List Txn) (key : Int) : (wrsL H key).length ≤ H.length := Nat.le_trans (List.length_filter_le _ _) (by simp)

/-- All keys that are written, rising. -/
def keysL (H : List Txn) : List Int := compact ((H.map (·.writes)).flatten.mergeSort fun x y => decide (x ≤ y))
theorem keysL_mem {H : List Txn} {k : Int} : k ∈ keysL H ↔ ∃ t, t ∈ H ∧ k ∈ t.writes := by
  unfold keysL
  rw [(compact_sorted _).2, List.mem_flatten]
  constructor
  · rintro ⟨l, hl, hk⟩
    obtain ⟨t, ht, rfl⟩ := List.mem_map.1 hl
    exact ⟨t, ht, hk⟩
  · rintro ⟨t, ht, hk⟩
    exact ⟨t.writes, List.mem_map_of_mem ht, hk⟩
theorem keysL_rise (H : List Txn) : (keysL H).Pairwise (· < ·) := (compact_sorted _).1

/-- Of a history that may be: the keys below 16 that anybody writes. -/
theorem keysL_16 {H : List Txn} (h : ∀ t ∈ H, ∀ k ∈ t.writes, 0 ≤ k ∧ k < 16) : keysL H = ((List.range 16).filter fun (k : Nat) => decide (wrsL H (k : Int) ≠ [])).map fun (k : Nat) => (k : Int) := by
  refine rise_eq (keysL_rise H) ?_ (fun x => ?_)
  · refine List.pairwise_map.2 ?_
    exact (List.Pairwise.filter _ List.pairwise_lt_range).imp (fun hab => by omega)
  · rw [keysL_mem]
    constructor
    · rintro ⟨t, ht, hx⟩
      have hb := h t ht x hx
      obtain ⟨i, hi, rfl⟩ := List.getElem_of_mem ht
      refine List.mem_map.2 ⟨x.toNat, List.mem_filter.2 ⟨by simp; omega, ?_⟩, by omega⟩
      rw [show ((x.toNat : Nat) : Int) = x by omega]
      refine decide_eq_true (fun e => ?_)
      have : i ∈ wrsL H x := wrsL_mem.2 ⟨hi, by rw [txnAt_of hi]; exact hx⟩
      rw [e] at this; cases this
    · intro hx
      obtain ⟨k, hk, rfl⟩ := List.mem_map.1 hx
      obtain ⟨_, hk2⟩ := List.mem_filter.1 hk
      have hk3 := of_decide_eq_true hk2
      cases hw : wrsL H (k : Int) with
      | nil => exact absurd hw hk3
      | cons t r =>
        have : t ∈ wrsL H (k : Int) := by rw [hw]; simp
        obtain ⟨h1, h2⟩ := wrsL_mem.1 this
        rw [txnAt_of h1] at h2
        exact ⟨_, List.getElem_mem h1, h2⟩

/-- All two of some writers. -/
def pairsK (key : Int) : List Nat → List Cho
  | [] => []
  | a :: r => r.map (fun (b : Nat) => (⟨key, a, b⟩ : Cho)) ++ pairsK key r
def pairsL (H : List Txn) : List Cho := ((keysL H).map fun k => pairsK k (wrsL H k)).flatten

/-- Who reads a key from somebody. -/
def rdsL (H : List Txn) (key src : Int) : List Nat := ((List.range H.length).map fun t => ((txnAt H t).reads.filter fun r => decide (r.a = key) && decide (r.b = src)).map fun _ => t).flatten
theorem rdsL_mem {H : List Txn} {key src : Int} {t : Nat} : t ∈ rdsL H key src ↔ t < H.length ∧ ∃ r ∈ (txnAt H t).reads, r.a = key ∧ r.b = src := by
  unfold rdsL
  rw [List.mem_flatten]
  constructor
  · rintro ⟨l, hl, ht⟩
    obtain ⟨u, hu, rfl⟩ := List.mem_map.1 hl
    obtain ⟨r, hr, rfl⟩ := List.mem_map.1 ht
    obtain ⟨h1, h2⟩ := List.mem_filter.1 hr
    exact ⟨by simpa using hu, r, h1, by simpa using h2⟩
  · rintro ⟨h, r, hr, hk⟩
    exact ⟨_, List.mem_map.2 ⟨t, by simpa using h, rfl⟩, List.mem_map.2 ⟨r, List.mem_filter.2 ⟨hr, by simpa using hk⟩, rfl⟩⟩
end Go.Inq

namespace Go.Inq

/-- The numbers below n of which p says so, as bits. -/
def setB (p : Nat → Bool) : Nat → Nat
  | 0 => 0
  | n + 1 => setB p n ||| (if p n then 2 ^ n else 0)

theorem testBit_setB (p : Nat → Bool) : ∀ (n i : Nat), (setB p n).testBit i = (decide (i < n) && p i)
  | 0, i => by simp [setB]
  | n + 1, i => by
    unfold setB
    rw [Nat.testBit_or, testBit_setB p n i]
    by_cases h : i = n
    · subst h
      cases hp : p i <;> simp [hp, Nat.testBit_two_pow]
    · have h2 : (if p n = true then 2 ^ n else 0).testBit i = false := by
        split
        · rw [Nat.testBit_two_pow]; simp; omega
        · simp
      rw [h2]
      have h3 : decide (i < n + 1) = decide (i < n) := by simp; omega
      rw [h3]; simp

theorem setB_lt (p : Nat → Bool) (n : Nat) : setB p n < 2 ^ n := by
  refine Nat.lt_pow_two_of_testBit _ (fun i hi => ?_)
  rw [testBit_setB]; simp; omega

theorem setB_eq {p : Nat → Bool} {n x : Nat} (hx : x < 2 ^ n) (h : ∀ i, i < n → x.testBit i = p i) : x = setB p n := by
  refine Nat.eq_of_testBit_eq (fun i => ?_)
  rw [testBit_setB]
  by_cases hi : i < n
  · rw [h i hi]; simp [hi]
  · rw [Nat.testBit_lt_two_pow (Nat.lt_of_lt_of_le hx (Nat.pow_le_pow_right (by decide) (by omega)))]; simp [hi]

theorem setB_self {n x : Nat} (hx : x < 2 ^ n) : setB x.testBit n = x := (setB_eq hx (fun _ _ => rfl)).symm

theorem setB_congr {p q : Nat → Bool} {n : Nat} (h : ∀ i, i < n → p i = q i) : setB p n = setB q n :=
  setB_eq (setB_lt p n) (fun i hi => by rw [testBit_setB, h i hi]; simp [hi])

/-- One number's bit. -/
theorem one_or (x i : Nat) (j : Nat) : (x ||| 2 ^ i).testBit j = (x.testBit j || decide (i = j)) := by
  rw [Nat.testBit_or, Nat.testBit_two_pow]

theorem and_one (x i : Nat) : (x &&& 2 ^ i = 0) ↔ x.testBit i = false := by
  constructor
  · intro h
    have := congrArg (fun y => y.testBit i) h
    simpa [Nat.testBit_and, Nat.testBit_two_pow] using this
  · intro h
    refine Nat.eq_of_testBit_eq (fun j => ?_)
    rw [Nat.testBit_and, Nat.testBit_two_pow]
    by_cases e : i = j
    · subst e; simp [h]
    · simp [e]


/-- A graph's rows, of n nodes, by its edges. -/
def rowsG (n : Nat) (E : Nat → Nat → Bool) : List Nat := (List.range n).map fun a => setB (E a) n
theorem rowsG_length (n : Nat) (E : Nat → Nat → Bool) : (rowsG n E).length = n := by simp [rowsG]
theorem rowsG_at {n : Nat} {E : Nat → Nat → Bool} {a : Nat} (h : a < n) : (rowsG n E)[a]'(by rw [rowsG_length]; exact h) = setB (E a) n := by simp [rowsG]
theorem rowsG_congr {n : Nat} {E F : Nat → Nat → Bool} (h : ∀ a b, a < n → b < n → E a b = F a b) : rowsG n E = rowsG n F := by
  unfold rowsG
  refine List.map_congr_left (fun a ha => setB_congr (fun b hb => h a b (by simpa using ha) hb))
theorem rowsG_self {l : List Nat} (h : ∀ x ∈ l, x < 2 ^ l.length) : rowsG l.length (fun a b => (l.getD a 0).testBit b) = l := by
  refine List.ext_getElem (by simp [rowsG]) (fun a h1 h2 => ?_)
  simp only [rowsG, List.getElem_map, List.getElem_range]
  rw [show (fun b => (l.getD a 0).testBit b) = (l.getD a 0).testBit from rfl]
  rw [List.getD_eq_getElem?_getD, List.getElem?_eq_getElem h2]
  exact setB_self (h _ (List.getElem_mem h2))
end Go.Inq

namespace Go.Inq

/-- A set's numbers, rising. -/
def listB (x : Nat) : List Nat := (List.range 64).filter fun i => x.testBit i

theorem filter_least (p : Nat → Bool) (k : Nat) (hk : p k = true) (hl : ∀ i, i < k → p i = false) : ∀ n, k < n → (List.range n).filter p = k :: (List.range n).filter (fun i => p i && decide (i ≠ k))
  | 0, h => absurd h (by omega)
  | n + 1, h => by
    rw [List.range_succ, List.filter_append, List.filter_append]
    by_cases e : k = n
    · subst e
      have h1 : (List.range k).filter p = [] := by
        rw [List.filter_eq_nil_iff]; intro i hi; rw [hl i (by simpa using hi)]; simp
      have h2 : (List.range k).filter (fun i => p i && decide (i ≠ k)) = [] := by
        rw [List.filter_eq_nil_iff]; intro i hi; rw [hl i (by simpa using hi)]; simp
      rw [h1, h2]; simp [hk]
    · rw [filter_least p k hk hl n (by omega)]
      have e2 : decide (n ≠ k) = true := by simp; omega
      simp only [List.filter_cons, List.filter_nil, e2, Bool.and_true, List.cons_append]

theorem odd_bit (k m i : Nat) : (2 ^ k * (2 * m + 1)).testBit i = (decide (k ≤ i) && (decide (i = k) || m.testBit (i - k - 1))) := by
  rw [Nat.mul_comm, Nat.testBit_mul_two_pow]
  by_cases h : k ≤ i
  · by_cases e : i = k
    · subst e; simp [Nat.testBit_zero]
    · obtain ⟨j, rfl⟩ : ∃ j, i = k + (j + 1) := ⟨i - k - 1, by omega⟩
      rw [show k + (j + 1) - k = j + 1 by omega, Nat.testBit_succ, show (2 * m + 1) / 2 = m by omega, show j + 1 - 1 = j by omega]
      simp
  · simp [h]

theorem less_bit (k m i : Nat) : (2 ^ k * (2 * m + 1) - 1).testBit i = (decide (i < k) || (decide (k < i) && m.testBit (i - k - 1))) := by
  have e : 2 ^ k * (2 * m + 1) - 1 = 2 ^ k * (2 * m) + (2 ^ k - 1) := by
    have := Nat.two_pow_pos k
    rw [Nat.mul_add, Nat.mul_one]; omega
  rw [e, Nat.testBit_two_pow_mul_add _ (by have := Nat.two_pow_pos k; omega)]
  by_cases h : i < k
  · rw [if_pos h, Nat.testBit_two_pow_sub_one]; simp [h]
  · rw [if_neg h]
    by_cases e : i = k
    · subst e; simp [Nat.testBit_zero]
    · obtain ⟨j, rfl⟩ : ∃ j, i = k + (j + 1) := ⟨i - k - 1, by omega⟩
      rw [show k + (j + 1) - k = j + 1 by omega, Nat.testBit_succ, show 2 * m / 2 = m by omega, show j + 1 - 1 = j by omega, decide_eq_false h, decide_eq_true (show k < k + (j + 1) by omega)]
      simp

/-- Without its least number. -/
theorem drop_bit (x : Nat) (h0 : x ≠ 0) (hx : x < 2 ^ 64) : x.testBit (Lib.ctz 64 x) = true ∧ (∀ i, i < Lib.ctz 64 x → x.testBit i = false) ∧ Lib.ctz 64 x < 64 ∧ ∀ i, (x &&& (x - 1)).testBit i = (x.testBit i && decide (i ≠ Lib.ctz 64 x)) := by
  have e : Lib.ctz 64 x = Lib.ctzFrom 64 x := by unfold Lib.ctz; rw [if_neg h0]
  rw [e]
  obtain ⟨m, hm, hk⟩ := Lib.ctzFrom_spec 64 x (by omega) hx
  generalize Lib.ctzFrom 64 x = k at *
  subst hm
  refine ⟨?_, ?_, hk, ?_⟩
  · rw [odd_bit]; simp
  · intro i hi; rw [odd_bit]; simp; omega
  · intro i
    rw [Nat.testBit_and, odd_bit, less_bit]
    by_cases h1 : i < k
    · have : ¬ k ≤ i := by omega
      simp [this]
    · by_cases h2 : i = k
      · subst h2; simp
      · have h3 : k < i := by omega
        have h4 : k ≤ i := by omega
        simp [h1, h2, h3, h4]

theorem listB_next (x : Nat) (h0 : x ≠ 0) (hx : x < 2 ^ 64) : listB x = Lib.ctz 64 x :: listB (x &&& (x - 1)) := by
  obtain ⟨h1, h2, h3, h4⟩ := drop_bit x h0 hx
  unfold listB
  rw [filter_least _ _ h1 h2 64 h3]
  congr 1
  refine List.filter_congr (fun i _ => (h4 i).symm)
theorem listB_zero : listB 0 = [] := by simp [listB]
theorem and_less (x : Nat) (hx : x < 2 ^ 64) : x &&& (x - 1) < 2 ^ 64 := Nat.lt_of_le_of_lt Nat.and_le_left hx
theorem listB_mem {x i : Nat} : i ∈ listB x ↔ i < 64 ∧ x.testBit i = true := by simp [listB]
theorem listB_len (x : Nat) : (listB x).length ≤ 64 := Nat.le_trans (List.length_filter_le _ _) (by simp)
end Go.Inq

namespace Go.Inq

/-- An edge of a graph that is told by its rows. -/
def hasG (g : List Nat) (a b : Nat) : Bool := (g.getD a 0).testBit b
theorem hasG_rows {n : Nat} {E : Nat → Nat → Bool} {a b : Nat} (ha : a < n) (hb : b < n) : hasG (rowsG n E) a b = E a b := by
  unfold hasG
  rw [List.getD_eq_getElem?_getD, List.getElem?_eq_getElem (by rw [rowsG_length]; exact ha), Option.getD_some, rowsG_at ha, testBit_setB]
  simp [hb]
theorem rowsG_lt {n : Nat} {E : Nat → Nat → Bool} {x : Nat} (h : x ∈ rowsG n E) : x < 2 ^ n := by
  unfold rowsG at h
  obtain ⟨a, _, rfl⟩ := List.mem_map.1 h
  exact setB_lt _ _

abbrev Edges := Nat → Nat → Bool
def orE (E F : Edges) : Edges := fun a b => E a b || F a b
def thenE (n : Nat) (E F : Edges) : Edges := fun a c => (List.range n).any fun b => E a b && F b c
def turnE (E : Edges) : Edges := fun a b => E b a

/-- The sessions' order; who reads from whom; who reads what was there at first, and who wrote over it. -/
def soE (H : List Txn) : Edges := fun a b => decide (a < b) && decide ((txnAt H a).sess = (txnAt H b).sess)
def wrE (H : List Txn) : Edges := fun a b => decide (a ≠ b) && (txnAt H b).reads.any fun r => decide (r.b = (a : Int))
def initE (H : List Txn) : Edges := fun a b => decide (a ≠ b) && (txnAt H a).reads.any fun r => decide (r.b = -1) && (txnAt H b).writes.contains r.a
def pastE (H : List Txn) : Edges := orE (soE H) (wrE H)
/-- What follows, if it is known whose write is ahead. -/
def wwE (l : List Cho) : Edges := fun a b => l.any fun c => decide (c.a = (a : Int)) && decide (c.b = (b : Int))
def rwE (H : List Txn) (l : List Cho) : Edges := fun t b => initE H t b || l.any fun c => decide (c.b = (b : Int)) && decide (t ≠ b) && (txnAt H t).reads.any fun r => decide (r.a = c.key) && decide (r.b = c.a)
def fullE (H : List Txn) (level : Int) (l : List Cho) : Edges :=
  let d := orE (pastE H) (wwE l)
  orE d (if level = 1 then thenE H.length d (rwE H l) else rwE H l)

/-- As the program lays it: by keys, readers of what was there at first, and writers. -/
theorem initE_iff {H : List Txn} {a b : Nat} (ha : a < H.length) (hb : b < H.length) : initE H a b = true ↔ a ≠ b ∧ ∃ k ∈ keysL H, a ∈ rdsL H k (-1) ∧ b ∈ wrsL H k := by
  unfold initE
  rw [Bool.and_eq_true, List.any_eq_true]
  constructor
  · rintro ⟨h1, r, hr, h2⟩
    rw [Bool.and_eq_true, List.contains_iff_mem] at h2
    refine ⟨of_decide_eq_true h1, r.a, keysL_mem.2 ⟨H[b], List.getElem_mem hb, by rw [← txnAt_of hb]; exact h2.2⟩, rdsL_mem.2 ⟨ha, r, hr, rfl, of_decide_eq_true h2.1⟩, wrsL_mem.2 ⟨hb, h2.2⟩⟩
  · rintro ⟨h1, k, _, hr, hw⟩
    obtain ⟨_, r, hr2, rfl, e⟩ := rdsL_mem.1 hr
    exact ⟨decide_eq_true h1, r, hr2, by rw [Bool.and_eq_true, List.contains_iff_mem]; exact ⟨decide_eq_true e, (wrsL_mem.1 hw).2⟩⟩

/-- The least that may come next. -/
def nextT (n : Nat) (E : Edges) (l : List Nat) : Option Nat := (List.range n).find? fun v => !l.contains v && (List.range n).all fun x => !E x v || l.contains x
def orderTo (n : Nat) (E : Edges) : Nat → Option (List Nat)
  | 0 => some []
  | k + 1 => match orderTo n E k with
    | none => none
    | some l => match nextT n E l with
      | none => none
      | some v => some (l ++ [v])
def orderT (n : Nat) (E : Edges) : Option (List Nat) := orderTo n E n
theorem orderTo_len {n : Nat} {E : Edges} : ∀ {k : Nat} {l : List Nat}, orderTo n E k = some l → l.length = k
  | 0, l, h => by unfold orderTo at h; injection h with h; subst h; rfl
  | k + 1, l, h => by
    unfold orderTo at h
    split at h
    · cases h
    · rename_i l0 h0
      split at h
      · cases h
      · injection h with h; subst h; simp [orderTo_len h0]

/-- A state of Widen. -/
structure Wd where
  width : Int
  cut : Bool
  path : List Int
  left : List (List Int)
deriving DecidableEq

def freshW (n : Nat) (l path : List Int) : Bool := l.all fun t => decide (0 ≤ t) && decide (t < (n : Int)) && !path.contains t
def riseW : List Int → Bool
  | a :: b :: r => decide (a < b) && riseW (b :: r)
  | _ => true
/-- May a state be? -/
def rightW (H : List Txn) (s : Wd) : Bool :=
  rightH H && decide (1 ≤ s.width) && decide (s.width ≤ 32) && decide (s.path.length ≤ H.length - 1) &&
  ((List.range s.path.length).all fun i => freshW H.length [s.path.getD i 0] (s.path.take i)) &&
  (if s.left = [] then decide (s.path = []) else
    decide (s.left.length = s.path.length + 1) && (List.range s.left.length).all fun i => riseW (s.left.getD i []) && freshW H.length (s.left.getD i []) (s.path.take i))

/-- What can come behind some numbers. -/
def comeW (H : List Txn) (path : List Int) : List Int :=
  ((List.range H.length).filter fun (t : Nat) => !path.contains (t : Int) && (List.range H.length).all fun (x : Nat) => !pastE H x t || path.contains (x : Int)).map fun (t : Nat) => (t : Int)
def putW (H : List Txn) (s : Wd) : Wd :=
  let l := comeW H s.path
  { s with cut := s.cut || decide (s.width < (l.length : Int)), left := s.left ++ [l.take s.width.toNat] }
/-- What numbers decide of a pair. -/
def turnC (path : List Int) (p : Cho) : Option Cho :=
  match path.idxOf? p.a, path.idxOf? p.b with
  | none, none => none
  | some i, some j => if j < i then some ⟨p.key, p.b, p.a⟩ else some p
  | some _, none => some p
  | none, some _ => some ⟨p.key, p.b, p.a⟩
def decW (H : List Txn) (path : List Int) : List Cho := (pairsL H).filterMap (turnC path)

/-- A step: the state behind it, what it says, and an order. -/
def stepW (H : List Txn) (level : Int) (s : Wd) : Wd × Int × List Int :=
  if rightW H s = false ∨ (level ≠ 0 ∧ level ≠ 1) then (s, 3, [])
  else if H = [] then (s, 1, [])
  else match s.left.getLast? with
  | none => (putW H s, 0, [])
  | some [] =>
    if s.left.length > 1 then ({ s with left := s.left.dropLast, path := s.path.dropLast }, 0, [])
    else if s.cut = true ∧ s.width < 32 then (⟨s.width + 1, false, [], []⟩, 0, [])
    else (s, 3, [])
  | some (t :: r) =>
    let longer := s.path ++ [t]
    let s2 : Wd := { s with left := s.left.dropLast ++ [r] }
    match orderT H.length (fullE H level (decW H longer)) with
    | none => (s2, 0, [])
    | some o => if longer.length = H.length then (s2, 1, o.map fun (x : Nat) => (x : Int)) else (putW H { s2 with path := longer }, 0, [])
end Go.Inq

namespace Go.Inq

/-- Ways over nodes below k. -/
def cloTo (E : Edges) : Nat → Edges
  | 0 => E
  | k + 1 => fun x y => cloTo E k x y || (cloTo E k x k && cloTo E k k y)
/-- A way from x to y over l. -/
def wayB (E : Edges) (x : Nat) : List Nat → Nat → Bool
  | [], y => E x y
  | a :: l, y => E x a && wayB E a l y
theorem wayB_append {E : Edges} : ∀ {x : Nat} {a : List Nat} {k : Nat} {b : List Nat} {y : Nat}, wayB E x (a ++ k :: b) y = (wayB E x a k && wayB E k b y)
  | x, [], k, b, y => rfl
  | x, c :: a, k, b, y => by
    show (E x c && wayB E c (a ++ k :: b) y) = (E x c && wayB E c a k && wayB E k b y)
    rw [wayB_append, Bool.and_assoc]
theorem split_first {k : Nat} : ∀ {l : List Nat}, k ∈ l → ∃ a b, l = a ++ k :: b ∧ k ∉ a
  | [], h => by simp at h
  | c :: l, h => by
    by_cases e : c = k
    · exact ⟨[], l, by rw [e]; rfl, by simp⟩
    · have h2 : k ∈ l := by
        rw [List.mem_cons] at h
        exact h.resolve_left fun g => e g.symm
      obtain ⟨a, b, h3, h4⟩ := split_first h2
      exact ⟨c :: a, b, by rw [h3]; rfl, by simp; exact ⟨fun g => e g.symm, h4⟩⟩
theorem cloTo_way {E : Edges} : ∀ (k : Nat) (x y : Nat), cloTo E k x y = true → ∃ l : List Nat, (∀ a ∈ l, a < k) ∧ wayB E x l y = true
  | 0, x, y, h => ⟨[], by simp, h⟩
  | k + 1, x, y, h => by
    unfold cloTo at h
    rw [Bool.or_eq_true, Bool.and_eq_true] at h
    rcases h with h | ⟨h1, h2⟩
    · obtain ⟨l, hl, hw⟩ := cloTo_way k x y h
      exact ⟨l, fun a ha => by have := hl a ha; omega, hw⟩
    · obtain ⟨l1, hl1, hw1⟩ := cloTo_way k x k h1
      obtain ⟨l2, hl2, hw2⟩ := cloTo_way k k y h2
      refine ⟨l1 ++ k :: l2, fun a ha => ?_, by rw [wayB_append, hw1, hw2]; rfl⟩
      simp only [List.mem_append, List.mem_cons] at ha
      rcases ha with ha | rfl | ha
      · have := hl1 a ha; omega
      · omega
      · have := hl2 a ha; omega
theorem way_cloTo {E : Edges} : ∀ (k : Nat) (m : Nat) (l : List Nat) (x y : Nat), l.length ≤ m → (∀ a ∈ l, a < k) → wayB E x l y = true → cloTo E k x y = true := by
  intro k
  induction k with
  | zero =>
    intro m l x y _ hl hw
    cases l with
    | nil => exact hw
    | cons a l => exact absurd (hl a (by simp)) (by omega)
  | succ k ihk =>
    intro m
    induction m with
    | zero =>
      intro l x y hm hl hw
      obtain rfl : l = [] := List.eq_nil_of_length_eq_zero (by omega)
      unfold cloTo
      rw [ihk 0 [] x y (by simp) (by simp) hw]
      rfl
    | succ m ihm =>
      intro l x y hm hl hw
      by_cases hk : k ∈ l
      · obtain ⟨a, b, rfl, hka⟩ := split_first hk
        rw [wayB_append, Bool.and_eq_true] at hw
        have h1 := ihk a.length a x k (Nat.le_refl _) (fun c hc => by
          have := hl c (by simp [hc])
          have : c ≠ k := fun e => hka (e ▸ hc)
          omega) hw.1
        have h2 := ihm b k y (by simp at hm; omega) (fun c hc => hl c (by simp [hc])) hw.2
        unfold cloTo at h2 ⊢
        rw [Bool.or_eq_true, Bool.and_eq_true] at h2
        have h3 : cloTo E k k y = true := by rcases h2 with h | h; exact h; exact h.2
        rw [h1, h3]
        simp
      · unfold cloTo
        rw [ihk l.length l x y (Nat.le_refl _) (fun c hc => by
          have := hl c hc
          have : c ≠ k := fun e => hk (e ▸ hc)
          omega) hw]
        rfl
/-- All ways over n nodes. -/
def cloE (n : Nat) (E : Edges) : Edges := cloTo E n
theorem cloE_edge {n : Nat} {E : Edges} {x y : Nat} (h : E x y = true) : cloE n E x y = true := way_cloTo n 0 [] x y (by simp) (by simp) h
theorem cloE_trans {n : Nat} {E : Edges} {x y z : Nat} (hy : y < n) (h1 : cloE n E x y = true) (h2 : cloE n E y z = true) : cloE n E x z = true := by
  obtain ⟨a, ha, wa⟩ := cloTo_way n x y h1
  obtain ⟨b, hb, wb⟩ := cloTo_way n y z h2
  refine way_cloTo n _ (a ++ y :: b) x z (Nat.le_refl _) (fun c hc => ?_) (by rw [wayB_append, wa, wb]; rfl)
  simp only [List.mem_append, List.mem_cons] at hc
  rcases hc with hc | rfl | hc
  · exact ha c hc
  · exact hy
  · exact hb c hc
/-- What rises along each edge rises along each way. -/
theorem cloE_rank {n : Nat} {E : Edges} (f : Nat → Nat) (h : ∀ x y, x < n → y < n → E x y = true → f x < f y) : ∀ (l : List Nat) (x y : Nat), x < n → y < n → (∀ a ∈ l, a < n) → wayB E x l y = true → f x < f y
  | [], x, y, hx, hy, _, hw => h x y hx hy hw
  | a :: l, x, y, hx, hy, hl, hw => by
    have hw' : (E x a && wayB E a l y) = true := hw
    rw [Bool.and_eq_true] at hw'
    have ha := hl a (by simp)
    have h1 := h x a hx ha hw'.1
    have h2 := cloE_rank f h l a y ha hy (fun b hb => hl b (by simp [hb])) hw'.2
    omega
/-- Does some way lead back? -/
def cycB (n : Nat) (E : Edges) : Bool := (List.range n).any fun x => cloE n E x x
theorem cyc_rank {n : Nat} {E : Edges} (f : Nat → Nat) (h : ∀ x y, x < n → y < n → E x y = true → f x < f y) : cycB n E = false := by
  unfold cycB
  rw [List.any_eq_false]
  intro x hx hc
  obtain ⟨l, hl, hw⟩ := cloTo_way n x x hc
  have := cloE_rank f h l x x (List.mem_range.1 hx) (List.mem_range.1 hx) hl hw
  omega
end Go.Inq

namespace Go.Inq

theorem sub_len : ∀ (A B : List Nat), A.Nodup → (∀ x ∈ A, x ∈ B) → A.length ≤ B.length
  | [], _, _, _ => Nat.zero_le _
  | a :: A, B, hn, h => by
    rw [List.nodup_cons] at hn
    have h1 := sub_len A (B.erase a) hn.2 fun x hx => (List.mem_erase_of_ne (fun e : x = a => hn.1 (by rw [← e]; exact hx))).2 (h x (by simp [hx]))
    rw [List.length_erase_of_mem (h a (by simp))] at h1
    have := List.length_pos_of_mem (h a (by simp))
    simp
    omega
theorem nextT_spec {n : Nat} {E : Edges} {l : List Nat} {v : Nat} (h : nextT n E l = some v) : v < n ∧ v ∉ l ∧ ∀ x, x < n → E x v = true → x ∈ l := by
  unfold nextT at h
  have h1 := List.find?_some h
  have h2 := List.mem_of_find?_eq_some h
  simp only [Bool.and_eq_true, Bool.not_eq_true', List.all_eq_true, List.mem_range, Bool.or_eq_true, List.contains_iff_mem] at h1
  refine ⟨by simpa using h2, fun hv => ?_, fun x hx he => ?_⟩
  · have := h1.1
    rw [List.contains_iff_mem.2 hv] at this
    cases this
  · rcases h1.2 x hx with g | g
    · rw [he] at g; cases g
    · exact g
theorem nextT_stuck {n : Nat} {E : Edges} {l : List Nat} (h : nextT n E l = none) {v : Nat} (hv : v < n) (hl : v ∉ l) : ∃ x, x < n ∧ x ∉ l ∧ E x v = true := by
  unfold nextT at h
  rw [List.find?_eq_none] at h
  have h1 := h v (List.mem_range.2 hv)
  have hc : l.contains v = false := by
    rw [Bool.eq_false_iff]; intro e; exact hl (List.contains_iff_mem.1 e)
  rw [hc] at h1
  simp only [Bool.not_false, Bool.true_and, List.all_eq_true, List.mem_range, Classical.not_forall] at h1
  obtain ⟨x, hx, h2⟩ := h1
  simp only [Bool.or_eq_true, Bool.not_eq_true', List.contains_iff_mem, not_or] at h2
  exact ⟨x, hx, h2.2, by simpa using h2.1⟩
/-- What an order's beginning is. -/
structure TopoL (n : Nat) (E : Edges) (l : List Nat) : Prop where
  nd : l.Nodup
  lt : ∀ x ∈ l, x < n
  up : ∀ y ∈ l, ∀ x, x < n → E x y = true → x ∈ l ∧ l.idxOf x < l.idxOf y
theorem orderTo_topo {n : Nat} {E : Edges} : ∀ (k : Nat) (l : List Nat), orderTo n E k = some l → TopoL n E l
  | 0, l, h => by
    unfold orderTo at h
    injection h with h
    subst h
    exact ⟨List.nodup_nil, by simp, by simp⟩
  | k + 1, l, h => by
    unfold orderTo at h
    split at h
    · cases h
    · rename_i l0 h0
      split at h
      · cases h
      · rename_i v hv
        injection h with h
        subst h
        have ih := orderTo_topo k l0 h0
        obtain ⟨h1, h2, h3⟩ := nextT_spec hv
        refine ⟨?_, fun x hx => ?_, fun y hy x hx he => ?_⟩
        · rw [List.nodup_append]
          refine ⟨ih.nd, by simp, fun a ha b hb e => ?_⟩
          simp at hb
          subst hb
          exact h2 (e ▸ ha)
        · rw [List.mem_append, List.mem_singleton] at hx
          rcases hx with hx | rfl
          · exact ih.lt x hx
          · exact h1
        · rw [List.mem_append, List.mem_singleton] at hy
          rcases hy with hy | rfl
          · obtain ⟨g1, g2⟩ := ih.up y hy x hx he
            exact ⟨List.mem_append.2 (.inl g1), by rw [List.idxOf_append, List.idxOf_append, if_pos g1, if_pos hy]; exact g2⟩
          · have g1 := h3 x hx he
            refine ⟨List.mem_append.2 (.inl g1), ?_⟩
            rw [List.idxOf_append, List.idxOf_append, if_pos g1, if_neg h2]
            have := List.idxOf_lt_length_of_mem g1
            omega
theorem orderT_some_cyc {n : Nat} {E : Edges} {o : List Nat} (h : orderT n E = some o) : cycB n E = false := by
  have ht := orderTo_topo n o h
  have hl := orderTo_len h
  have hall : ∀ y, y < n → y ∈ o := fun y hy => by
    refine Classical.byContradiction fun hno => ?_
    have := sub_len (y :: o) (List.range n) (List.nodup_cons.2 ⟨hno, ht.nd⟩) (fun x hx => by
      rw [List.mem_cons] at hx
      rw [List.mem_range]
      rcases hx with rfl | hx
      · exact hy
      · exact ht.lt x hx)
    simp at this
    omega
  exact cyc_rank (fun x => o.idxOf x) fun x y hx hy he => (ht.up y (hall y hy) x hx he).2
/-- Where each of some has one of them ahead, some way leads back. -/
theorem back_cyc {n : Nat} {E : Edges} (R : Nat → Prop) (hR : ∀ v, R v → v < n) (hp : ∀ v, R v → ∃ x, R x ∧ E x v = true) : ∀ (m : Nat) (v : Nat), R v → ((List.range n).filter fun x => cloE n E x v).length ≤ m → cycB n E = true
  | m, v, hv, hm => by
    obtain ⟨x, hx, he⟩ := hp v hv
    by_cases hc : cloE n E x x = true
    · unfold cycB
      rw [List.any_eq_true]
      exact ⟨x, List.mem_range.2 (hR x hx), hc⟩
    · have hlt : ((List.range n).filter fun y => cloE n E y x).length + 1 ≤ ((List.range n).filter fun y => cloE n E y v).length := by
        have := sub_len (x :: (List.range n).filter fun y => cloE n E y x) ((List.range n).filter fun y => cloE n E y v) (List.nodup_cons.2 ⟨fun h => hc (List.mem_filter.1 h).2, List.Pairwise.filter _ List.nodup_range⟩) (fun y hy => by
          rw [List.mem_cons] at hy
          rw [List.mem_filter, List.mem_range]
          rcases hy with rfl | hy
          · exact ⟨hR y hx, cloE_edge he⟩
          · rw [List.mem_filter, List.mem_range] at hy
            exact ⟨hy.1, cloE_trans (hR x hx) hy.2 (cloE_edge he)⟩)
        simpa using this
      match m, hm with
      | 0, hm => omega
      | m + 1, hm => exact back_cyc R hR hp m x hx (by omega)
theorem orderTo_stuck {n : Nat} {E : Edges} : ∀ k, orderTo n E k = none → ∃ j l, j < k ∧ orderTo n E j = some l ∧ nextT n E l = none
  | 0, h => by unfold orderTo at h; cases h
  | k + 1, h => by
    unfold orderTo at h
    split at h
    · rename_i h0
      obtain ⟨j, l, h1, h2⟩ := orderTo_stuck k h0
      exact ⟨j, l, by omega, h2⟩
    · rename_i l0 h0
      split at h
      · rename_i hv
        exact ⟨k, l0, by omega, h0, hv⟩
      · cases h
theorem orderT_none_cyc {n : Nat} {E : Edges} (h : orderT n E = none) : cycB n E = true := by
  obtain ⟨j, l, hj, hl, hx⟩ := orderTo_stuck n h
  have ht := orderTo_topo j l hl
  have hlen := orderTo_len hl
  obtain ⟨v, hv, hvl⟩ : ∃ v, v < n ∧ v ∉ l := by
    refine Classical.byContradiction fun hno => ?_
    have := sub_len (List.range n) l List.nodup_range fun x hx => Classical.byContradiction fun hn => hno ⟨x, List.mem_range.1 hx, hn⟩
    simp at this
    omega
  refine back_cyc (fun u => u < n ∧ u ∉ l) (fun u hu => hu.1) (fun u hu => ?_) _ v ⟨hv, hvl⟩ (Nat.le_refl _)
  obtain ⟨x, h1, h2, h3⟩ := nextT_stuck hx hu.1 hu.2
  exact ⟨x, ⟨h1, h2⟩, h3⟩
/-- An order there is just if no way leads back. -/
theorem orderT_cyc (n : Nat) (E : Edges) : (orderT n E).isSome = !cycB n E := by
  cases h : orderT n E with
  | none => rw [orderT_none_cyc h]; rfl
  | some o => rw [orderT_some_cyc h]; rfl
end Go.Inq

namespace Go.Inq

theorem wwE_mono {l l' : List Cho} (h : ∀ c ∈ l, c ∈ l') {x y : Nat} (he : wwE l x y = true) : wwE l' x y = true := by
  unfold wwE at he ⊢
  rw [List.any_eq_true] at he ⊢
  obtain ⟨c, hc, h2⟩ := he
  exact ⟨c, h c hc, h2⟩
theorem rwE_mono {H : List Txn} {l l' : List Cho} (h : ∀ c ∈ l, c ∈ l') {x y : Nat} (he : rwE H l x y = true) : rwE H l' x y = true := by
  unfold rwE at he ⊢
  rw [Bool.or_eq_true] at he ⊢
  rcases he with he | he
  · exact .inl he
  · rw [List.any_eq_true] at he ⊢
    obtain ⟨c, hc, h2⟩ := he
    exact .inr ⟨c, h c hc, h2⟩
theorem fullE_mono {H : List Txn} {level : Int} {l l' : List Cho} (h : ∀ c ∈ l, c ∈ l') {x y : Nat} (he : fullE H level l x y = true) : fullE H level l' x y = true := by
  have hd : ∀ a b, orE (pastE H) (wwE l) a b = true → orE (pastE H) (wwE l') a b = true := fun a b g => by
    unfold orE at g ⊢
    rw [Bool.or_eq_true] at g ⊢
    exact g.imp id (wwE_mono h)
  show (orE (pastE H) (wwE l') x y || (if level = 1 then thenE H.length (orE (pastE H) (wwE l')) (rwE H l') else rwE H l') x y) = true
  have he' : (orE (pastE H) (wwE l) x y || (if level = 1 then thenE H.length (orE (pastE H) (wwE l)) (rwE H l) else rwE H l) x y) = true := he
  rw [Bool.or_eq_true] at he' ⊢
  rcases he' with g | g
  · exact .inl (hd x y g)
  · right
    by_cases hl : level = 1
    · rw [if_pos hl] at g ⊢
      unfold thenE at g ⊢
      rw [List.any_eq_true] at g ⊢
      obtain ⟨b, hb, h2⟩ := g
      rw [Bool.and_eq_true] at h2
      exact ⟨b, hb, by rw [hd x b h2.1, rwE_mono h h2.2]; rfl⟩
    · rw [if_neg hl] at g ⊢
      exact rwE_mono h g
theorem wayB_mono {E F : Edges} (h : ∀ x y, E x y = true → F x y = true) : ∀ (l : List Nat) (x y : Nat), wayB E x l y = true → wayB F x l y = true
  | [], x, y, hw => h x y hw
  | a :: l, x, y, hw => by
    have hw' : (E x a && wayB E a l y) = true := hw
    rw [Bool.and_eq_true] at hw'
    show (F x a && wayB F a l y) = true
    rw [h x a hw'.1, wayB_mono h l a y hw'.2]
    rfl
theorem cyc_mono {n : Nat} {E F : Edges} (h : ∀ x y, E x y = true → F x y = true) (hc : cycB n E = true) : cycB n F = true := by
  unfold cycB at hc ⊢
  rw [List.any_eq_true] at hc ⊢
  obtain ⟨x, hx, h2⟩ := hc
  obtain ⟨l, hl, hw⟩ := cloTo_way n x x h2
  exact ⟨x, hx, way_cloTo n l.length l x x (Nat.le_refl _) hl (wayB_mono h l x x hw)⟩
/-- Does nothing lead back? -/
def goodB (H : List Txn) (level : Int) (l : List Cho) : Bool := !cycB H.length (fullE H level l)
theorem good_less {H : List Txn} {level : Int} {l l' : List Cho} (h : ∀ c ∈ l, c ∈ l') (hg : goodB H level l' = true) : goodB H level l = true := by
  unfold goodB at hg ⊢
  rw [Bool.not_eq_true'] at hg ⊢
  rw [← Bool.not_eq_true] at hg ⊢
  exact fun hc => hg (cyc_mono (fun x y => fullE_mono h) hc)
theorem good_order (H : List Txn) (level : Int) (l : List Cho) : (orderT H.length (fullE H level l)).isSome = goodB H level l := orderT_cyc _ _
end Go.Inq

namespace Go.Proofs.Ytfhnamomiaekdaa
open Go.RowKit Go.Inq

def idxI (l : List Int) (x : Int) : Int := match l.findIdx? (· == x) with | some k => k | none => -1
theorem idxI_hit {l : List Int} {x : Int} {k : Nat} (hk : k < l.length) (h : l[k] = x) (h0 : ∀ j (hj : j < l.length), j < k → l[j] ≠ x) : idxI l x = k := by
  unfold idxI
  have : l.findIdx? (· == x) = some k := by
    rw [List.findIdx?_eq_some_iff_getElem]
    exact ⟨hk, by simpa using h, fun j hj => by simpa using h0 j (by omega) hj⟩
  rw [this]
theorem idxI_none {l : List Int} {x : Int} (h0 : ∀ j (hj : j < l.length), l[j] ≠ x) : idxI l x = -1 := by
  unfold idxI
  have : l.findIdx? (· == x) = none := by
    rw [List.findIdx?_eq_none_iff]
    intro y hy
    obtain ⟨j, hj, rfl⟩ := List.getElem_of_mem hy
    simpa using h0 j hj
  rw [this]
theorem idxI_contains (l : List Int) (x : Int) : decide (0 ≤ idxI l x) = l.contains x := by
  by_cases h : x ∈ l
  · rw [List.contains_iff_mem.2 h]
    unfold idxI
    cases hf : l.findIdx? (· == x) with
    | none =>
      rw [List.findIdx?_eq_none_iff] at hf
      have := hf x h
      simp at this
    | some k => simp
  · have : l.contains x = false := by simpa using h
    rw [this, idxI_none (fun j hj e => h (by rw [← e]; exact List.getElem_mem hj))]
    rfl
end Go.Proofs.Ytfhnamomiaekdaa

namespace Go.Proofs.Ytfhnamomiaekdaa
open Go.RowKit Go.Inq

theorem idxI_some {l : List Int} {x : Int} {i : Nat} (h : l.idxOf? x = some i) : idxI l x = i := by
  unfold idxI
  have : l.findIdx? (· == x) = some i := h
  rw [this]
theorem idxI_no {l : List Int} {x : Int} (h : l.idxOf? x = none) : idxI l x = -1 := by
  unfold idxI
  have : l.findIdx? (· == x) = none := h
  rw [this]
theorem turnC_none {path : List Int} {p : Cho} (h1 : idxI path p.a < 0) (h2 : idxI path p.b < 0) : turnC path p = none := by
  unfold turnC
  cases ha : path.idxOf? p.a with
  | some i => rw [idxI_some ha] at h1; omega
  | none =>
    cases hb : path.idxOf? p.b with
    | some i => rw [idxI_some hb] at h2; omega
    | none => rfl
theorem turnC_turn {path : List Int} {p : Cho} (h0 : ¬ (idxI path p.a < 0 ∧ idxI path p.b < 0)) (h : idxI path p.a < 0 ∨ (0 ≤ idxI path p.b ∧ idxI path p.b < idxI path p.a)) : turnC path p = some ⟨p.key, p.b, p.a⟩ := by
  unfold turnC
  cases ha : path.idxOf? p.a with
  | some i =>
    rw [idxI_some ha] at h h0
    cases hb : path.idxOf? p.b with
    | some j =>
      rw [idxI_some hb] at h h0
      dsimp only
      rw [if_pos (by omega)]
    | none => rw [idxI_no hb] at h; omega
  | none =>
    rw [idxI_no ha] at h h0
    cases hb : path.idxOf? p.b with
    | some j => rfl
    | none => rw [idxI_no hb] at h0; omega
theorem turnC_same {path : List Int} {p : Cho} (h : ¬ (idxI path p.a < 0 ∨ (0 ≤ idxI path p.b ∧ idxI path p.b < idxI path p.a))) : turnC path p = some p := by
  unfold turnC
  cases ha : path.idxOf? p.a with
  | some i =>
    rw [idxI_some ha] at h
    cases hb : path.idxOf? p.b with
    | some j =>
      rw [idxI_some hb] at h
      dsimp only
      rw [if_neg (by omega)]
    | none => rfl
  | none => rw [idxI_no ha] at h; omega
theorem dec_snoc (path : List Int) (l : List Cho) (x : Cho) : (l ++ [x]).filterMap (turnC path) = l.filterMap (turnC path) ++ (match turnC path x with | some y => [y] | none => []) := by
  rw [List.filterMap_append]
  congr 1
  cases h : turnC path x <;> simp [h]
end Go.Proofs.Ytfhnamomiaekdaa

namespace Go.Inq

/-- The pairs of the first i of some writers with all that stand behind. -/
def pairsI (key : Int) (l : List Nat) (i : Nat) : List Cho := ((List.range i).map fun a => (l.drop (a + 1)).map fun (b : Nat) => (⟨key, (l.getD a 0 : Nat), b⟩ : Cho)).flatten
theorem pairsI_step (key : Int) (l : List Nat) {i : Nat} (h : i < l.length) : pairsI key l (i + 1) = pairsI key l i ++ (l.drop (i + 1)).map fun (b : Nat) => (⟨key, (l[i] : Nat), b⟩ : Cho) := by
  unfold pairsI
  rw [List.range_succ, List.map_append, List.flatten_append]
  simp [List.getD_eq_getElem?_getD, List.getElem?_eq_getElem h]
theorem pairsI_cons (key : Int) (a : Nat) (r : List Nat) : ∀ i, pairsI key (a :: r) (i + 1) = (r.map fun (b : Nat) => (⟨key, a, b⟩ : Cho)) ++ pairsI key r i
  | 0 => by simp [pairsI, List.range_succ]
  | i + 1 => by
    have h1 : pairsI key (a :: r) (i + 1 + 1) = pairsI key (a :: r) (i + 1) ++ ((a :: r).drop (i + 1 + 1)).map fun (b : Nat) => (⟨key, ((a :: r).getD (i + 1) 0 : Nat), b⟩ : Cho) := by
      unfold pairsI; rw [List.range_succ, List.map_append, List.flatten_append]; simp
    have h2 : pairsI key r (i + 1) = pairsI key r i ++ (r.drop (i + 1)).map fun (b : Nat) => (⟨key, (r.getD i 0 : Nat), b⟩ : Cho) := by
      unfold pairsI; rw [List.range_succ, List.map_append, List.flatten_append]; simp
    rw [h1, h2, pairsI_cons key a r i]
    simp
theorem pairsI_all (key : Int) : ∀ l : List Nat, pairsI key l l.length = pairsK key l
  | [] => by simp [pairsI, pairsK]
  | a :: r => by rw [List.length_cons, pairsI_cons, pairsI_all key r]; rfl
/-- The pairs of the first k keys. -/
def pairsTo (H : List Txn) (k : Nat) : List Cho := (((keysL H).take k).map fun key => pairsK key (wrsL H key)).flatten
theorem pairsTo_step {H : List Txn} {k : Nat} (h : k < (keysL H).length) : pairsTo H (k + 1) = pairsTo H k ++ pairsK (keysL H)[k] (wrsL H (keysL H)[k]) := by
  unfold pairsTo
  rw [List.take_succ_eq_append_getElem h, List.map_append, List.flatten_append]; simp
theorem pairsTo_all (H : List Txn) : pairsTo H (keysL H).length = pairsL H := by unfold pairsTo pairsL; rw [List.take_length]
theorem pairsK_len (key : Int) : ∀ l : List Nat, (pairsK key l).length ≤ l.length * l.length
  | [] => by simp [pairsK]
  | a :: r => by
    unfold pairsK
    rw [List.length_append, List.length_map, List.length_cons]
    have := pairsK_len key r
    rw [Nat.add_mul, Nat.mul_add]
    omega
theorem pairsI_len (key : Int) (l : List Nat) : ∀ i, (pairsI key l i).length ≤ i * l.length
  | 0 => by simp [pairsI]
  | i + 1 => by
    have h1 : pairsI key l (i + 1) = pairsI key l i ++ (l.drop (i + 1)).map fun (b : Nat) => (⟨key, (l.getD i 0 : Nat), b⟩ : Cho) := by
      unfold pairsI; rw [List.range_succ, List.map_append, List.flatten_append]; simp
    rw [h1, List.length_append, List.length_map, List.length_drop, Nat.add_mul]
    have := pairsI_len key l i
    omega
theorem keysL_16len {H : List Txn} (hr : rightH H = true) : (keysL H).length ≤ 16 := by
  have hb : ∀ t ∈ H, ∀ k ∈ t.writes, 0 ≤ k ∧ k < 16 := fun t ht k hk => by
    obtain ⟨i, hi, rfl⟩ := List.getElem_of_mem ht
    exact (((rightH_iff H).1 hr).2 i hi).wkey k hk
  rw [keysL_16 hb, List.length_map]
  exact Nat.le_trans (List.length_filter_le _ _) (by simp)
theorem pairsTo_len {H : List Txn} (h32 : H.length ≤ 32) : ∀ k, k ≤ (keysL H).length → (pairsTo H k).length ≤ k * 1024
  | 0, _ => by simp [pairsTo]
  | k + 1, hk => by
    rw [pairsTo_step (by omega), List.length_append]
    have h1 := pairsTo_len h32 k (by omega)
    have h2 := pairsK_len (keysL H)[k] (wrsL H (keysL H)[k])
    have h3 := wrsL_len H (keysL H)[k]
    have h4 : (wrsL H (keysL H)[k]).length * (wrsL H (keysL H)[k]).length ≤ 32 * 32 := Nat.mul_le_mul (by omega) (by omega)
    omega
theorem pairsL_len {H : List Txn} (hr : rightH H = true) : (pairsL H).length ≤ 16384 := by
  have h1 := pairsTo_len ((rightH_iff H).1 hr).1 _ (Nat.le_refl _)
  rw [pairsTo_all] at h1
  have := keysL_16len hr
  omega
theorem pairsK_mem {key : Int} {c : Cho} : ∀ {l : List Nat}, c ∈ pairsK key l → c.key = key ∧ ∃ a b : Nat, c.a = a ∧ c.b = b ∧ a ∈ l ∧ b ∈ l
  | [], h => by simp [pairsK] at h
  | a :: r, h => by
    unfold pairsK at h
    rw [List.mem_append] at h
    rcases h with h | h
    · obtain ⟨b, hb, rfl⟩ := List.mem_map.1 h
      exact ⟨rfl, a, b, rfl, rfl, by simp, by simp [hb]⟩
    · obtain ⟨h1, x, y, h2, h3, h4, h5⟩ := pairsK_mem h
      exact ⟨h1, x, y, h2, h3, by simp [h4], by simp [h5]⟩
theorem pairsK_lt {key : Int} {c : Cho} : ∀ {l : List Nat}, l.Pairwise (· < ·) → c ∈ pairsK key l → c.a < c.b
  | [], _, h => by simp [pairsK] at h
  | a :: r, hp, h => by
    rw [List.pairwise_cons] at hp
    unfold pairsK at h
    rw [List.mem_append] at h
    rcases h with h | h
    · obtain ⟨b, hb, rfl⟩ := List.mem_map.1 h
      have := hp.1 b hb
      show (a : Int) < (b : Int)
      omega
    · exact pairsK_lt hp.2 h
/-- What a pair is. -/
theorem pairsL_mem {H : List Txn} {c : Cho} (h : c ∈ pairsL H) : ∃ a b : Nat, c.a = a ∧ c.b = b ∧ a < b ∧ b < H.length ∧ c.key ∈ (txnAt H a).writes ∧ c.key ∈ (txnAt H b).writes := by
  unfold pairsL at h
  obtain ⟨l, hl, hc⟩ := List.mem_flatten.1 h
  obtain ⟨key, _, rfl⟩ := List.mem_map.1 hl
  obtain ⟨hk, a, b, ha, hb, h1, h2⟩ := pairsK_mem hc
  have hlt := pairsK_lt (wrsL_rise H key) hc
  obtain ⟨_, h3⟩ := wrsL_mem.1 h1
  obtain ⟨h4, h5⟩ := wrsL_mem.1 h2
  rw [hk]
  exact ⟨a, b, ha, hb, by omega, h4, h3, h5⟩
/-- Does a transaction, whatever its number, write a key? -/
def wrB (H : List Txn) (t key : Int) : Bool := decide (0 ≤ t) && decide (t < (H.length : Int)) && (txnAt H t.toNat).writes.contains key
/-- May a choice be? -/
def oneB (H : List Txn) (c : Cho) : Bool := decide (c.a ≠ c.b) && wrB H c.a c.key && wrB H c.b c.key
def rightC (H : List Txn) (l : List Cho) : Bool := rightH H && decide (l.length ≤ 20000) && l.all (oneB H)
theorem wrB_nat {H : List Txn} {t : Nat} {key : Int} (h : t < H.length) : wrB H (t : Int) key = (txnAt H t).writes.contains key := by unfold wrB; simp [h]
theorem wrB_iff {H : List Txn} {t key : Int} : wrB H t key = true ↔ ∃ n : Nat, t = n ∧ n < H.length ∧ key ∈ (txnAt H n).writes := by
  unfold wrB
  constructor
  · intro h
    simp only [Bool.and_eq_true, decide_eq_true_eq, List.contains_iff_mem] at h
    exact ⟨t.toNat, by omega, by omega, h.2⟩
  · rintro ⟨n, rfl, h1, h2⟩
    simp [h1, h2]
theorem oneB_iff {H : List Txn} {c : Cho} : oneB H c = true ↔ ∃ a b : Nat, c.a = a ∧ c.b = b ∧ a ≠ b ∧ a < H.length ∧ b < H.length ∧ c.key ∈ (txnAt H a).writes ∧ c.key ∈ (txnAt H b).writes := by
  unfold oneB
  rw [Bool.and_eq_true, Bool.and_eq_true, wrB_iff, wrB_iff]
  constructor
  · rintro ⟨⟨h1, a, ha, h2, h3⟩, b, hb, h4, h5⟩
    have := of_decide_eq_true h1
    exact ⟨a, b, ha, hb, by omega, h2, h4, h3, h5⟩
  · rintro ⟨a, b, ha, hb, h1, h2, h3, h4, h5⟩
    exact ⟨⟨decide_eq_true (by omega), a, ha, h2, h4⟩, b, hb, h3, h5⟩
theorem pairs_one {H : List Txn} {c : Cho} (h : c ∈ pairsL H) : oneB H c = true := by
  obtain ⟨a, b, ha, hb, h1, h2, h3, h4⟩ := pairsL_mem h
  exact oneB_iff.2 ⟨a, b, ha, hb, by omega, by omega, h2, h3, h4⟩
def turnB (c : Cho) : Cho := ⟨c.key, c.b, c.a⟩
theorem turn_one {H : List Txn} {c : Cho} (h : oneB H c = true) : oneB H (turnB c) = true := by
  obtain ⟨a, b, ha, hb, h1, h2, h3, h4, h5⟩ := oneB_iff.1 h
  exact oneB_iff.2 ⟨b, a, hb, ha, h1.symm, h3, h2, h5, h4⟩
end Go.Inq

namespace Go.Proofs.Ytfhnamomiaekdaa
open Go.RowKit Go.Inq

theorem idxI_first {l : List Int} {x : Int} {k : Nat} (hk : k < l.length) (h0 : (l.take k).contains x = false) (h : l[k] = x) : idxI l x = k := by
  refine idxI_some ?_
  rw [List.idxOf?, List.findIdx?_eq_some_iff_getElem]
  refine ⟨hk, by simpa using h, fun j hj => ?_⟩
  rw [beq_iff_eq]
  intro e
  have : (l.take k).contains x = true := by
    rw [List.contains_iff_mem]
    exact List.mem_take_iff_getElem.2 ⟨j, by omega, e⟩
  rw [h0] at this
  cases this
theorem idxI_miss {l : List Int} {x : Int} (h0 : l.contains x = false) : idxI l x = -1 := by
  refine idxI_no ?_
  rw [List.idxOf?, List.findIdx?_eq_none_iff]
  intro y hy
  rw [beq_eq_false_iff_ne]
  rintro rfl
  rw [Bool.eq_false_iff] at h0
  exact h0 (List.contains_iff_mem.2 hy)
theorem idxI_neg {l : List Int} {x : Int} : idxI l x < 0 ↔ l.contains x = false := by
  constructor
  · intro h
    rw [Bool.eq_false_iff]
    intro hc
    obtain ⟨k, hk⟩ : ∃ k, l.idxOf? x = some k := by
      cases e : l.idxOf? x with
      | some k => exact ⟨k, rfl⟩
      | none =>
        rw [List.idxOf?, List.findIdx?_eq_none_iff] at e
        have := e x (List.contains_iff_mem.1 hc)
        simp at this
    rw [idxI_some hk] at h
    omega
  · intro h; rw [idxI_miss h]; decide
theorem idxI_ge {l : List Int} {x : Int} (h : l.contains x = true) : 0 ≤ idxI l x := by
  rcases Int.lt_or_le (idxI l x) 0 with g | g
  · rw [idxI_neg, h] at g; cases g
  · exact g
/-- Are numbers those of n things, each once? -/
def permB (l : List Int) (n : Nat) : Bool := decide (l.length = n) && (List.range n).all fun i => l.contains (i : Int)
/-- A pair, as an order has it. -/
def ofC (order : List Int) (p : Cho) : Cho := if idxI order p.a > idxI order p.b then ⟨p.key, p.b, p.a⟩ else p
def ofL (H : List Txn) (order : List Int) : List Cho := (pairsL H).map (ofC order)
theorem fmC_congr {α β : Type} {f g : α → Option β} : ∀ {l : List α}, (∀ x ∈ l, f x = g x) → l.filterMap f = l.filterMap g
  | [], _ => rfl
  | x :: l, h => by
    rw [List.filterMap_cons, List.filterMap_cons, h x (by simp), fmC_congr fun y hy => h y (by simp [hy])]
theorem ofL_dec {H : List Txn} {order : List Int} (h : permB order H.length = true) : ofL H order = decW H order := by
  unfold ofL decW
  rw [← List.filterMap_eq_map]
  refine fmC_congr fun p hp => ?_
  obtain ⟨a, b, ha, hb, hab, hbn, -, -⟩ := pairsL_mem hp
  unfold permB at h
  rw [Bool.and_eq_true, List.all_eq_true] at h
  have h1 := h.2 a (List.mem_range.2 (by omega))
  have h2 := h.2 b (List.mem_range.2 hbn)
  rw [← ha] at h1
  rw [← hb] at h2
  have g1 := idxI_ge h1
  have g2 := idxI_ge h2
  unfold turnC ofC
  show some (if _ then _ else _) = _
  cases e1 : order.idxOf? p.a with
  | none => rw [idxI_no e1] at g1; omega
  | some i =>
    cases e2 : order.idxOf? p.b with
    | none => rw [idxI_no e2] at g2; omega
    | some j =>
      rw [idxI_some e1, idxI_some e2]
      dsimp only
      by_cases hij : j < i
      · rw [if_pos (by omega), if_pos hij]
      · rw [if_neg (by omega), if_neg hij]
end Go.Proofs.Ytfhnamomiaekdaa

namespace Go.Proofs.Ytfhnamomiaekdaa
open Go.RowKit Go.Inq

/-- The first among some numbers that is one of a pair. -/
def scanC (p : Cho) : List Int → Option Cho
  | [] => none
  | x :: r => if x = p.a then some p else if x = p.b then some ⟨p.key, p.b, p.a⟩ else scanC p r
theorem scanC_turn (p : Cho) : ∀ l : List Int, turnC l p = scanC p l
  | [] => by simp [turnC, scanC]
  | x :: r => by
    have ih := scanC_turn p r
    unfold scanC
    rw [← ih]
    unfold turnC
    rw [List.idxOf?_cons, List.idxOf?_cons]
    by_cases h1 : x = p.a
    · subst h1
      simp only [beq_self_eq_true, if_true]
      by_cases h2 : p.a = p.b
      · simp [h2]
      · have : (p.a == p.b) = false := by simpa using h2
        rw [this]
        cases List.idxOf? p.b r <;> simp
    · have e1 : (x == p.a) = false := by simpa using h1
      rw [e1]
      by_cases h2 : x = p.b
      · subst h2
        simp only [beq_self_eq_true, if_true]
        rw [if_neg h1]
        cases List.idxOf? p.a r <;> simp
      · have e2 : (x == p.b) = false := by simpa using h2
        rw [e2, if_neg h1, if_neg h2]
        cases List.idxOf? p.a r <;> cases List.idxOf? p.b r <;> simp
theorem scan_a {p : Cho} {l : List Int} {k : Nat} (hk : k < l.length) (h : l[k] = p.a) : scanC p (l.drop k) = some p := by
  rw [List.drop_eq_getElem_cons hk]; simp [scanC, h]
theorem scan_b {p : Cho} {l : List Int} {k : Nat} (hk : k < l.length) (h1 : l[k] ≠ p.a) (h : l[k] = p.b) : scanC p (l.drop k) = some ⟨p.key, p.b, p.a⟩ := by
  rw [List.drop_eq_getElem_cons hk]
  unfold scanC
  rw [if_neg h1, if_pos h]
theorem scan_no {p : Cho} {l : List Int} {k : Nat} (hk : k < l.length) (h1 : l[k] ≠ p.a) (h : l[k] ≠ p.b) : scanC p (l.drop k) = scanC p (l.drop (k + 1)) := by
  rw [List.drop_eq_getElem_cons hk]
  conv => lhs; unfold scanC
  rw [if_neg h1, if_neg h]
end Go.Proofs.Ytfhnamomiaekdaa

namespace Go.Proofs.Ytfhnamomiaekdaa
open Go.RowKit Go.Inq

theorem scanC_append {p d : Cho} : ∀ {a b : List Int}, scanC p a = some d → scanC p (a ++ b) = some d
  | [], b, h => by simp [scanC] at h
  | x :: a, b, h => by
    show scanC p (x :: (a ++ b)) = some d
    unfold scanC at h ⊢
    by_cases h1 : x = p.a
    · rw [if_pos h1] at h ⊢; exact h
    · rw [if_neg h1] at h ⊢
      by_cases h2 : x = p.b
      · rw [if_pos h2] at h ⊢; exact h
      · rw [if_neg h2] at h ⊢; exact scanC_append h
theorem dec_append {H : List Txn} {a b : List Int} : ∀ c ∈ decW H a, c ∈ decW H (a ++ b) := by
  intro c hc
  unfold decW at hc ⊢
  rw [List.mem_filterMap] at hc ⊢
  obtain ⟨q, h1, h2⟩ := hc
  rw [scanC_turn] at h2
  exact ⟨q, h1, by rw [scanC_turn]; exact scanC_append h2⟩
/-- The beginnings of a good order are good. -/
theorem good_prefix {H : List Txn} {level : Int} {a b : List Int} (h : goodB H level (decW H (a ++ b)) = true) : goodB H level (decW H a) = true := good_less dec_append h
theorem order_good {H : List Txn} {level : Int} {a : List Int} : (orderT H.length (fullE H level (decW H a))).isSome = goodB H level (decW H a) := good_order _ _ _
end Go.Proofs.Ytfhnamomiaekdaa

namespace Go.Proofs.Ytfhnamomiaekdaa
open Go.RowKit Go.Inq

/-- Each pair, one way or the other. -/
def allW : List Cho → List Cho → Prop
  | [], [] => True
  | p :: P, c :: C => (c = p ∨ c = turnB p) ∧ allW P C
  | _, _ => False
theorem allW_map {f : Cho → Cho} : ∀ {P : List Cho}, (∀ p ∈ P, f p = p ∨ f p = turnB p) → allW P (P.map f)
  | [], _ => trivial
  | p :: P, h => ⟨h p (by simp), allW_map fun q hq => h q (by simp [hq])⟩
theorem allW_mem : ∀ {P C : List Cho}, allW P C → ∀ c ∈ C, ∃ p ∈ P, c = p ∨ c = turnB p
  | [], [], _, c, hc => by cases hc
  | [], _ :: _, h, _, _ => h.elim
  | _ :: _, [], h, _, _ => h.elim
  | p :: P, d :: C, h, c, hc => by
    rw [List.mem_cons] at hc
    rcases hc with rfl | hc
    · exact ⟨p, by simp, h.1⟩
    · obtain ⟨q, hq, e⟩ := allW_mem h.2 c hc
      exact ⟨q, by simp [hq], e⟩
theorem allW_has : ∀ {P C : List Cho}, allW P C → ∀ p ∈ P, p ∈ C ∨ turnB p ∈ C
  | [], [], _, c, hc => by cases hc
  | [], _ :: _, h, _, _ => h.elim
  | _ :: _, [], h, _, _ => h.elim
  | p :: P, d :: C, h, c, hc => by
    rw [List.mem_cons] at hc
    rcases hc with rfl | hc
    · rcases h.1 with e | e
      · exact .inl (by rw [← e]; simp)
      · exact .inr (by rw [← e]; simp)
    · rcases allW_has h.2 c hc with e | e
      · exact .inl (by simp [e])
      · exact .inr (by simp [e])
theorem allW_len : ∀ {P C : List Cho}, allW P C → P.length = C.length
  | [], [], _ => rfl
  | [], _ :: _, h => h.elim
  | _ :: _, [], h => h.elim
  | p :: P, d :: C, h => by rw [List.length_cons, List.length_cons, allW_len h.2]

/-- All ways to choose pairs behind some choices, till nothing leads back. -/
def someB (H : List Txn) (level : Int) : List Cho → List Cho → Bool
  | [], l => goodB H level l
  | c :: P, l => someB H level P (l ++ [c]) || someB H level P (l ++ [turnB c])
def hasB (H : List Txn) (level : Int) : Bool := someB H level (pairsL H) []
theorem someB_iff {H : List Txn} {level : Int} : ∀ {P l : List Cho}, someB H level P l = true ↔ ∃ m, allW P m ∧ goodB H level (l ++ m) = true
  | [], l => by
    unfold someB
    constructor
    · intro h; exact ⟨[], trivial, by rw [List.append_nil]; exact h⟩
    · rintro ⟨m, hm, h⟩
      match m, hm with
      | [], _ => rw [List.append_nil] at h; exact h
      | _ :: _, hm => exact hm.elim
  | c :: P, l => by
    unfold someB
    rw [Bool.or_eq_true, someB_iff, someB_iff]
    constructor
    · rintro (⟨m, hm, h⟩ | ⟨m, hm, h⟩)
      · exact ⟨c :: m, ⟨.inl rfl, hm⟩, by rw [List.append_assoc] at h; exact h⟩
      · exact ⟨turnB c :: m, ⟨.inr rfl, hm⟩, by rw [List.append_assoc] at h; exact h⟩
    · rintro ⟨m, hm, h⟩
      match m, hm with
      | [], hm => exact hm.elim
      | d :: m, hm =>
        rcases hm.1 with rfl | rfl
        · exact .inl ⟨m, hm.2, by rw [List.append_assoc]; exact h⟩
        · exact .inr ⟨m, hm.2, by rw [List.append_assoc]; exact h⟩
theorem hasB_iff {H : List Txn} {level : Int} : hasB H level = true ↔ ∃ m, allW (pairsL H) m ∧ goodB H level m = true := by
  unfold hasB; rw [someB_iff]; simp
end Go.Proofs.Ytfhnamomiaekdaa

namespace Go.Proofs.Ytfhnamomiaekdaa
open Go.RowKit Go.Inq

theorem perm_miss {l : List Int} {n j : Nat} (h : permB l n = true) (hj : j < l.length) (hm : ∀ k, k < n → ∃ i, ∃ hi : i < l.length, i ≠ j ∧ l[i] = (k : Int)) : False := by
  unfold permB at h
  rw [Bool.and_eq_true] at h
  have hl := of_decide_eq_true h.1
  have := sub_len (List.range n) ((l.eraseIdx j).map Int.toNat) List.nodup_range fun k hk => by
    obtain ⟨i, hi, hij, e⟩ := hm k (List.mem_range.1 hk)
    exact List.mem_map.2 ⟨l[i], List.mem_eraseIdx_iff_getElem.2 ⟨i, hi, hij, rfl⟩, by rw [e]; simp⟩
  simp [List.length_eraseIdx, hj] at this
  omega
theorem perm_has {l : List Int} {n k : Nat} (h : permB l n = true) (hk : k < n) : (k : Int) ∈ l := by
  unfold permB at h
  rw [Bool.and_eq_true, List.all_eq_true] at h
  exact List.contains_iff_mem.1 (h.2 k (List.mem_range.2 hk))
theorem perm_len {l : List Int} {n : Nat} (h : permB l n = true) : l.length = n := by
  unfold permB at h
  rw [Bool.and_eq_true] at h
  exact of_decide_eq_true h.1
theorem perm_bd {l : List Int} {n j : Nat} (h : permB l n = true) (hj : j < l.length) : 0 ≤ l[j] ∧ l[j] < (n : Int) := by
  refine Classical.byContradiction fun hno => perm_miss h hj fun k hk => ?_
  obtain ⟨i, hi, e⟩ := List.getElem_of_mem (perm_has h hk)
  refine ⟨i, hi, ?_, e⟩
  rintro rfl
  omega
theorem perm_ne {l : List Int} {n i j : Nat} (h : permB l n = true) (hij : i < j) (hj : j < l.length) : l[i]'(by omega) ≠ l[j] := by
  intro he
  refine perm_miss h hj fun k hk => ?_
  obtain ⟨m, hm, e⟩ := List.getElem_of_mem (perm_has h hk)
  by_cases hmj : m = j
  · subst hmj
    exact ⟨i, by omega, by omega, by rw [he]; exact e⟩
  · exact ⟨m, hm, hmj, e⟩
theorem perm_nodup {l : List Int} {n : Nat} (h : permB l n = true) : l.Nodup := by
  rw [List.nodup_iff_pairwise_ne, List.pairwise_iff_getElem]
  intro i j hi hj hij
  exact perm_ne h hij hj
theorem perm_nd {l : List Int} {n : Nat} (hl : l.length = n) (hd : l.Nodup) (hb : ∀ x ∈ l, 0 ≤ x ∧ x < (n : Int)) : permB l n = true := by
  unfold permB
  rw [decide_eq_true hl, Bool.true_and, List.all_eq_true]
  intro k hk
  have hk := List.mem_range.1 hk
  rw [List.contains_iff_mem]
  refine Classical.byContradiction fun hno => ?_
  have hnd : (l.map Int.toNat).Nodup := by
    rw [List.nodup_iff_pairwise_ne, List.pairwise_map]
    exact (List.nodup_iff_pairwise_ne.1 hd).imp_of_mem fun ha hb' hne e => hne (by have := hb _ ha; have := hb _ hb'; omega)
  have := sub_len (k :: l.map Int.toNat) (List.range n) (List.nodup_cons.2 ⟨fun hm => by
      obtain ⟨y, hy, e⟩ := List.mem_map.1 hm
      have := hb y hy
      exact hno (by rw [show (k : Int) = y by omega]; exact hy), hnd⟩) fun x hx => by
    rw [List.mem_cons] at hx
    rw [List.mem_range]
    rcases hx with rfl | hx
    · exact hk
    · obtain ⟨y, hy, rfl⟩ := List.mem_map.1 hx
      have := hb y hy
      omega
  simp at this
  omega

/-- An order's choices are a way to choose all pairs. -/
theorem dec_all {H : List Txn} {π : List Int} (h : permB π H.length = true) : allW (pairsL H) (decW H π) := by
  rw [← ofL_dec h]
  unfold ofL
  refine allW_map fun p _ => ?_
  unfold ofC
  split
  · exact .inr rfl
  · exact .inl rfl
theorem has_of_dec {H : List Txn} {level : Int} {π : List Int} (h : permB π H.length = true) (hg : goodB H level (decW H π) = true) : hasB H level = true := hasB_iff.2 ⟨_, dec_all h, hg⟩

/-- An order of nodes, all of them. -/
structure TopoN (n : Nat) (E : Edges) (o : List Nat) : Prop where
  t : TopoL n E o
  len : o.length = n
  all : ∀ y, y < n → y ∈ o
theorem topoN_of {n : Nat} {E : Edges} (h : cycB n E = false) : ∃ o, TopoN n E o := by
  obtain ⟨o, ho⟩ : ∃ o, orderT n E = some o := by
    have := orderT_cyc n E
    rw [h] at this
    exact Option.isSome_iff_exists.1 this
  have ht := orderTo_topo n o ho
  have hl := orderTo_len ho
  refine ⟨o, ht, hl, fun y hy => Classical.byContradiction fun hno => ?_⟩
  have := sub_len (y :: o) (List.range n) (List.nodup_cons.2 ⟨hno, ht.nd⟩) (fun x hx => by
    rw [List.mem_cons] at hx
    rw [List.mem_range]
    rcases hx with rfl | hx
    · exact hy
    · exact ht.lt x hx)
  simp at this
  omega
theorem good_topo {H : List Txn} {level : Int} {m : List Cho} (hg : goodB H level m = true) : ∃ o, TopoN H.length (fullE H level m) o := by
  unfold goodB at hg
  exact topoN_of (by simpa using hg)
theorem TopoN.perm {n : Nat} {E : Edges} {o : List Nat} (h : TopoN n E o) : permB (o.map fun (x : Nat) => (x : Int)) n = true := by
  refine perm_nd (by rw [List.length_map]; exact h.len) ?_ fun x hx => ?_
  · rw [List.nodup_iff_pairwise_ne, List.pairwise_map]
    exact (List.nodup_iff_pairwise_ne.1 h.t.nd).imp fun hne e => hne (by omega)
  · obtain ⟨y, hy, rfl⟩ := List.mem_map.1 hx
    have := h.t.lt y hy
    omega
/-- Where a number stands in an order. -/
theorem TopoN.at_ {n : Nat} {E : Edges} {o : List Nat} (h : TopoN n E o) {x : Nat} (hx : x < n) : ∃ hi : o.idxOf x < o.length, o[o.idxOf x] = x := ⟨List.idxOf_lt_length_of_mem (h.all x hx), List.getElem_idxOf _⟩
theorem TopoN.idxI {n : Nat} {E : Edges} {o : List Nat} (h : TopoN n E o) {x : Nat} (hx : x < n) : idxI (o.map fun (x : Nat) => (x : Int)) (x : Int) = o.idxOf x := by
  obtain ⟨hi, he⟩ := h.at_ hx
  refine idxI_hit (by rw [List.length_map]; exact hi) (by rw [List.getElem_map, he]) fun j hj hlt e => ?_
  rw [List.getElem_map] at e
  have hnd := List.pairwise_iff_getElem.1 (List.nodup_iff_pairwise_ne.1 h.t.nd) j (o.idxOf x) (by simpa using hj) hi hlt
  exact hnd (by rw [he]; omega)
theorem TopoN.up {n : Nat} {E : Edges} {o : List Nat} (h : TopoN n E o) {x y : Nat} (hx : x < n) (hy : y < n) (he : E x y = true) : o.idxOf x < o.idxOf y := (h.t.up y (h.all y hy) x hx he).2
/-- What an order of all that follows decides was so chosen. -/
theorem dec_sub {H : List Txn} {m : List Cho} {E : Edges} {o : List Nat} (hm : allW (pairsL H) m) (ht : TopoN H.length E o) (hw : ∀ a b, wwE m a b = true → E a b = true) : ∀ c ∈ decW H (o.map fun (x : Nat) => (x : Int)), c ∈ m := by
  intro c hc
  rw [← ofL_dec ht.perm] at hc
  unfold ofL at hc
  obtain ⟨p, hp, rfl⟩ := List.mem_map.1 hc
  obtain ⟨a, b, ha, hb, hab, hbn, -, -⟩ := pairsL_mem hp
  have hia := ht.idxI (x := a) (by omega)
  have hib := ht.idxI (x := b) hbn
  unfold ofC
  rw [ha, hb, hia, hib]
  have hin : ∀ q ∈ m, ∀ x y : Nat, q.a = x → q.b = y → x < H.length → y < H.length → o.idxOf x < o.idxOf y := fun q hq x y hx hy hxn hyn => ht.up hxn hyn (hw x y (by
    unfold wwE
    rw [List.any_eq_true]
    exact ⟨q, hq, by rw [hx, hy]; simp⟩))
  rcases allW_has hm p hp with h | h
  · have := hin p h a b ha hb (by omega) hbn
    rw [if_neg (by omega)]
    exact h
  · have := hin (turnB p) h b a hb ha hbn (by omega)
    rw [if_pos (by omega)]
    have e : turnB p = ⟨p.key, b, a⟩ := by unfold turnB; rw [ha, hb]
    rw [← e]
    exact h
/-- A good order, in which whoever is surely ahead stands ahead. -/
structure FullP (H : List Txn) (level : Int) (π : List Int) : Prop where
  perm : permB π H.length = true
  past : ∀ i (hi : i < π.length) (x : Nat), x < H.length → pastE H x (π[i]).toNat = true → (x : Int) ∈ π.take i
  good : goodB H level (decW H π) = true
theorem full_of {H : List Txn} {level : Int} (h : hasB H level = true) : ∃ π, FullP H level π := by
  obtain ⟨m, hm, hg⟩ := hasB_iff.1 h
  obtain ⟨o, ht⟩ := good_topo hg
  have hsub : ∀ x y, orE (pastE H) (wwE m) x y = true → fullE H level m x y = true := fun x y h => by
    unfold fullE
    show (orE (pastE H) (wwE m) x y || _) = true
    rw [h]; rfl
  refine ⟨o.map fun (x : Nat) => (x : Int), ht.perm, fun i hi x hx hp => ?_, good_less (dec_sub hm ht fun a b h => hsub a b (by unfold orE; rw [h]; simp)) hg⟩
  rw [List.getElem_map, Int.toNat_natCast] at hp
  have hi2 : i < o.length := by simpa using hi
  have hup := ht.up hx (ht.t.lt _ (List.getElem_mem hi2)) (hsub _ _ (by unfold orE; rw [hp]; rfl))
  have hie : o.idxOf o[i] = i := by
    have h1 : o.idxOf o[i] < o.length := List.idxOf_lt_length_of_mem (List.getElem_mem hi2)
    have h2 : o[o.idxOf o[i]] = o[i] := List.getElem_idxOf _
    rcases Nat.lt_trichotomy (o.idxOf o[i]) i with g | g | g
    · exact absurd h2 (List.pairwise_iff_getElem.1 (List.nodup_iff_pairwise_ne.1 ht.t.nd) _ _ h1 hi2 g)
    · exact g
    · exact absurd h2.symm (List.pairwise_iff_getElem.1 (List.nodup_iff_pairwise_ne.1 ht.t.nd) _ _ hi2 h1 g)
  rw [hie] at hup
  obtain ⟨g1, g2⟩ := ht.at_ hx
  exact List.mem_take_iff_getElem.2 ⟨o.idxOf x, by rw [List.length_map]; omega, by rw [List.getElem_map, g2]⟩
theorem has_full {H : List Txn} {level : Int} : hasB H level = true ↔ ∃ π, FullP H level π := ⟨full_of, fun ⟨_, h⟩ => has_of_dec h.perm h.good⟩
end Go.Proofs.Ytfhnamomiaekdaa

namespace Go.Proofs.Ytfhnamomiaekdaa
open Go.RowKit Go.Inq

/-- Who writes a key, at a place of an order. -/
def wrA (H : List Txn) (π : List Int) (key : Int) (i : Nat) : Bool := (txnAt H (π.getD i 0).toNat).writes.contains key
/-- From whom the transaction at a place reads a key. -/
def fromB (H : List Txn) (π : List Int) (key : Int) : Nat → Int
  | 0 => -1
  | k + 1 => if wrA H π key k then π.getD k 0 else fromB H π key k
theorem from_spec (H : List Txn) (π : List Int) (key : Int) : ∀ k, (fromB H π key k = -1 ∧ ∀ i, i < k → wrA H π key i = false) ∨ ∃ i, i < k ∧ fromB H π key k = π.getD i 0 ∧ wrA H π key i = true ∧ ∀ j, i < j → j < k → wrA H π key j = false
  | 0 => .inl ⟨rfl, fun i hi => absurd hi (by omega)⟩
  | k + 1 => by
    unfold fromB
    cases h : wrA H π key k with
    | true =>
      rw [if_pos rfl]
      exact .inr ⟨k, by omega, rfl, h, fun j h1 h2 => absurd h1 (by omega)⟩
    | false =>
      rw [if_neg (by decide)]
      rcases from_spec H π key k with ⟨h1, h2⟩ | ⟨i, h1, h2, h3, h4⟩
      · refine .inl ⟨h1, fun i hi => ?_⟩
        by_cases e : i = k
        · subst e; exact h
        · exact h2 i (by omega)
      · refine .inr ⟨i, by omega, h2, h3, fun j hj1 hj2 => ?_⟩
        by_cases e : j = k
        · subst e; exact h
        · exact h4 j hj1 (by omega)
/-- What each transaction reads, one by one. -/
def playL (H : List Txn) (π : List Int) (t : Nat) : List It := (txnAt H t).reads.map fun r => ⟨r.a, fromB H π r.a (π.idxOf (t : Int))⟩
def sessB (H : List Txn) (π : List Int) : Bool := (List.range π.length).all fun i => (List.range i).all fun k => !(decide (π.getD k 0 > π.getD i 0) && decide ((txnAt H (π.getD k 0).toNat).sess = (txnAt H (π.getD i 0).toNat).sess))
def readsB (H : List Txn) (π : List Int) : Bool := (List.range H.length).all fun t => decide ((txnAt H t).reads = playL H π t)
/-- Does an order show that a history is what its transactions do, one by one? -/
def checkB (H : List Txn) (π : List Int) : Bool := permB π H.length && readsB H π && sessB H π
/-- All orders that begin so. -/
def nextB (H : List Txn) : Nat → List Int → Bool
  | 0, l => checkB H l
  | d + 1, l => (List.range H.length).any fun t => !l.contains (t : Int) && nextB H d (l ++ [(t : Int)])
def serB (H : List Txn) : Bool := nextB H H.length []

theorem nextB_some {H : List Txn} : ∀ d l, nextB H d l = true → ∃ q, checkB H (l ++ q) = true
  | 0, l, h => ⟨[], by rw [List.append_nil]; exact h⟩
  | d + 1, l, h => by
    unfold nextB at h
    rw [List.any_eq_true] at h
    obtain ⟨t, _, h2⟩ := h
    rw [Bool.and_eq_true] at h2
    obtain ⟨q, hq⟩ := nextB_some d _ h2.2
    exact ⟨(t : Int) :: q, by rw [List.append_assoc] at hq; exact hq⟩
theorem nextB_of {H : List Txn} : ∀ d l q, q.length = d → checkB H (l ++ q) = true → nextB H d l = true
  | 0, l, q, hq, h => by
    obtain rfl := List.eq_nil_of_length_eq_zero hq
    rw [List.append_nil] at h
    exact h
  | d + 1, l, [], hq, h => by simp at hq
  | d + 1, l, x :: q, hq, h => by
    have hp : permB (l ++ x :: q) H.length = true := by
      unfold checkB at h
      simp only [Bool.and_eq_true] at h
      exact h.1.1
    have hb := perm_bd hp (j := l.length) (by simp)
    rw [List.getElem_append_right (Nat.le_refl _)] at hb
    simp only [Nat.sub_self, List.getElem_cons_zero] at hb
    obtain ⟨t, rfl⟩ : ∃ t : Nat, x = (t : Int) := ⟨x.toNat, by omega⟩
    unfold nextB
    rw [List.any_eq_true]
    refine ⟨t, List.mem_range.2 (by omega), ?_⟩
    have hnd := perm_nodup hp
    rw [List.nodup_append] at hnd
    have hc : l.contains (t : Int) = false := by
      rw [Bool.eq_false_iff]
      intro hc
      exact hnd.2.2 _ (List.contains_iff_mem.1 hc) _ (by simp) rfl
    rw [hc, nextB_of d (l ++ [(t : Int)]) q (by simpa using hq) (by rw [List.append_assoc]; exact h)]
    rfl
theorem serB_iff {H : List Txn} : serB H = true ↔ ∃ π, checkB H π = true := by
  unfold serB
  constructor
  · intro h
    obtain ⟨q, hq⟩ := nextB_some _ _ h
    exact ⟨q, by simpa using hq⟩
  · rintro ⟨π, h⟩
    have hp : permB π H.length = true := by
      unfold checkB at h
      simp only [Bool.and_eq_true] at h
      exact h.1.1
    exact nextB_of _ [] π (perm_len hp) (by simpa using h)

/-- Two that write one key are a pair. -/
theorem pairsK_have {key : Int} {a b : Nat} : ∀ {l : List Nat}, l.Pairwise (· < ·) → a ∈ l → b ∈ l → a < b → (⟨key, a, b⟩ : Cho) ∈ pairsK key l
  | [], _, h, _, _ => by cases h
  | x :: r, hp, ha, hb, hab => by
    rw [List.pairwise_cons] at hp
    unfold pairsK
    rw [List.mem_append]
    rw [List.mem_cons] at ha hb
    rcases ha with rfl | ha
    · rcases hb with rfl | hb
      · omega
      · exact .inl (List.mem_map.2 ⟨b, hb, rfl⟩)
    · rcases hb with rfl | hb
      · have := hp.1 a ha; omega
      · exact .inr (pairsK_have hp.2 ha hb hab)
theorem pairsL_have {H : List Txn} {key : Int} {a b : Nat} (hab : a < b) (hb : b < H.length) (ha1 : key ∈ (txnAt H a).writes) (hb1 : key ∈ (txnAt H b).writes) : (⟨key, a, b⟩ : Cho) ∈ pairsL H := by
  unfold pairsL
  refine List.mem_flatten.2 ⟨_, List.mem_map.2 ⟨key, ?_, rfl⟩, pairsK_have (wrsL_rise H key) (wrsL_mem.2 ⟨by omega, ha1⟩) (wrsL_mem.2 ⟨hb, hb1⟩) hab⟩
  rw [txnAt_of hb] at hb1
  exact keysL_mem.2 ⟨_, List.getElem_mem hb, hb1⟩

/-- A place in an order. -/
theorem perm_at {π : List Int} {n x : Nat} (h : permB π n = true) (hx : x < n) : ∃ hi : π.idxOf (x : Int) < π.length, π[π.idxOf (x : Int)] = (x : Int) := ⟨List.idxOf_lt_length_of_mem (perm_has h hx), List.getElem_idxOf _⟩
theorem perm_inj {π : List Int} {n x y : Nat} (h : permB π n = true) (hx : x < n) (hy : y < n) (he : π.idxOf (x : Int) = π.idxOf (y : Int)) : x = y := by
  obtain ⟨h1, e1⟩ := perm_at h hx
  obtain ⟨h2, e2⟩ := perm_at h hy
  have : π[π.idxOf (x : Int)] = π[π.idxOf (y : Int)] := by simp only [he]
  omega
theorem perm_idx {π : List Int} {n i : Nat} (h : permB π n = true) (hi : i < π.length) : π.idxOf π[i] = i := by
  have h1 : π.idxOf π[i] < π.length := List.idxOf_lt_length_of_mem (List.getElem_mem hi)
  have h2 : π[π.idxOf π[i]] = π[i] := List.getElem_idxOf _
  rcases Nat.lt_trichotomy (π.idxOf π[i]) i with g | g | g
  · exact absurd h2 (perm_ne h g hi)
  · exact g
  · exact absurd h2.symm (perm_ne h g h1)
theorem getD_at {π : List Int} {i : Nat} (hi : i < π.length) : π.getD i 0 = π[i] := by rw [List.getD_eq_getElem?_getD, List.getElem?_eq_getElem hi, Option.getD_some]
/-- The order's own choices: the first stands ahead. -/
theorem of_ahead {H : List Txn} {π : List Int} (h : permB π H.length = true) {c : Cho} (hc : c ∈ decW H π) : ∃ a b : Nat, c.a = a ∧ c.b = b ∧ a < H.length ∧ b < H.length ∧ c.key ∈ (txnAt H a).writes ∧ c.key ∈ (txnAt H b).writes ∧ π.idxOf (a : Int) < π.idxOf (b : Int) := by
  rw [← ofL_dec h] at hc
  unfold ofL at hc
  obtain ⟨p, hp, rfl⟩ := List.mem_map.1 hc
  obtain ⟨a, b, ha, hb, hab, hbn, h1, h2⟩ := pairsL_mem hp
  have hI : ∀ x, x < H.length → idxI π (x : Int) = π.idxOf (x : Int) := fun x hx => by
    obtain ⟨hi, he⟩ := perm_at h hx
    refine idxI_hit hi he fun j hj hlt e => ?_
    exact perm_ne h hlt hi (by rw [he]; exact e)
  have hne : π.idxOf (a : Int) ≠ π.idxOf (b : Int) := fun e => by
    have := perm_inj h (by omega) hbn e
    omega
  have e1 := hI a (by omega)
  have e2 := hI b hbn
  unfold ofC
  rw [ha, hb, e1, e2]
  split
  · exact ⟨b, a, rfl, rfl, hbn, by omega, h2, h1, by omega⟩
  · exact ⟨a, b, ha, hb, by omega, hbn, h1, h2, by omega⟩
theorem ser_good {H : List Txn} {π : List Int} (h : checkB H π = true) : goodB H 0 (decW H π) = true := by
  unfold checkB at h
  simp only [Bool.and_eq_true] at h
  obtain ⟨⟨hp, hr⟩, hs⟩ := h
  have hR : ∀ t, t < H.length → ∀ r ∈ (txnAt H t).reads, r.b = fromB H π r.a (π.idxOf (t : Int)) := fun t ht r hr2 => by
    unfold readsB at hr
    rw [List.all_eq_true] at hr
    have h1 := of_decide_eq_true (hr t (List.mem_range.2 ht))
    unfold playL at h1
    obtain ⟨i, hi, rfl⟩ := List.getElem_of_mem hr2
    have h2 := congrArg (fun l => l[i]?) h1
    simp only [List.getElem?_map, List.getElem?_eq_getElem hi, Option.map_some, Option.some.injEq] at h2
    have h3 := congrArg It.b h2
    exact h3
  have hwA : ∀ x, x < H.length → ∀ key, key ∈ (txnAt H x).writes → wrA H π key (π.idxOf (x : Int)) = true := fun x hx key hk => by
    obtain ⟨hi, he⟩ := perm_at hp hx
    unfold wrA
    rw [getD_at hi, he, Int.toNat_natCast]
    exact List.contains_iff_mem.2 hk
  have hso : ∀ a b, a < H.length → b < H.length → soE H a b = true → π.idxOf (a : Int) < π.idxOf (b : Int) := fun a b ha hb he => by
    unfold soE at he
    rw [Bool.and_eq_true] at he
    have hab := of_decide_eq_true he.1
    refine Classical.byContradiction fun hno => ?_
    have hne : π.idxOf (a : Int) ≠ π.idxOf (b : Int) := fun e => by have := perm_inj hp ha hb e; omega
    obtain ⟨i1, e1⟩ := perm_at hp ha
    obtain ⟨i2, e2⟩ := perm_at hp hb
    unfold sessB at hs
    rw [List.all_eq_true] at hs
    have h1 := hs _ (List.mem_range.2 i1)
    rw [List.all_eq_true] at h1
    have h2 := h1 (π.idxOf (b : Int)) (List.mem_range.2 (by omega))
    rw [getD_at i1, getD_at i2, e1, e2, Int.toNat_natCast, Int.toNat_natCast, decide_eq_true (show ((b : Nat) : Int) > (a : Int) by omega), decide_eq_true (of_decide_eq_true he.2).symm] at h2
    cases h2
  have hwr : ∀ a b, a < H.length → b < H.length → wrE H a b = true → π.idxOf (a : Int) < π.idxOf (b : Int) := fun a b ha hb he => by
    unfold wrE at he
    rw [Bool.and_eq_true, List.any_eq_true] at he
    obtain ⟨_, r, hr2, hra⟩ := he
    have hra := of_decide_eq_true hra
    have h1 := hR b hb r hr2
    rcases from_spec H π r.a (π.idxOf (b : Int)) with ⟨g, _⟩ | ⟨i, g1, g2, _, _⟩
    · omega
    · obtain ⟨i2, e2⟩ := perm_at hp hb
      have hil : i < π.length := by omega
      rw [getD_at hil] at g2
      have : π[i] = (a : Int) := by omega
      have hx := perm_idx hp hil
      rw [this] at hx
      omega
  have hin : ∀ a b, a < H.length → b < H.length → initE H a b = true → π.idxOf (a : Int) < π.idxOf (b : Int) := fun a b ha hb he => by
    unfold initE at he
    rw [Bool.and_eq_true, List.any_eq_true] at he
    obtain ⟨hne, r, hr2, hra⟩ := he
    rw [Bool.and_eq_true, List.contains_iff_mem] at hra
    have hne := of_decide_eq_true hne
    have hr1 := of_decide_eq_true hra.1
    have h1 := hR a ha r hr2
    obtain ⟨i2, e2⟩ := perm_at hp ha
    rcases from_spec H π r.a (π.idxOf (a : Int)) with ⟨_, g⟩ | ⟨i, g1, g2, _, _⟩
    · refine Classical.byContradiction fun hno => ?_
      have hne2 : π.idxOf (a : Int) ≠ π.idxOf (b : Int) := fun e => hne (perm_inj hp ha hb e)
      have := g _ (show π.idxOf (b : Int) < _ by omega)
      rw [hwA b hb r.a hra.2] at this
      cases this
    · have hil : i < π.length := by omega
      rw [getD_at hil] at g2
      have := perm_bd hp hil
      omega
  unfold goodB
  rw [Bool.not_eq_true']
  refine cyc_rank (fun x => π.idxOf (x : Int)) fun x y hx hy he => ?_
  unfold fullE at he
  rw [if_neg (by decide)] at he
  have he : ((pastE H x y || wwE (decW H π) x y) || rwE H (decW H π) x y) = true := he
  rw [Bool.or_eq_true, Bool.or_eq_true] at he
  rcases he with (he | he) | he
  · unfold pastE orE at he
    rw [Bool.or_eq_true] at he
    exact he.elim (hso x y hx hy) (hwr x y hx hy)
  · unfold wwE at he
    rw [List.any_eq_true] at he
    obtain ⟨c, hc, h2⟩ := he
    rw [Bool.and_eq_true] at h2
    obtain ⟨a, b, e1, e2, _, _, _, _, hlt⟩ := of_ahead hp hc
    have h3 := of_decide_eq_true h2.1
    have h4 := of_decide_eq_true h2.2
    obtain rfl : a = x := by omega
    obtain rfl : b = y := by omega
    exact hlt
  · unfold rwE at he
    rw [Bool.or_eq_true] at he
    rcases he with he | he
    · exact hin x y hx hy he
    · rw [List.any_eq_true] at he
      obtain ⟨c, hc, h2⟩ := he
      simp only [Bool.and_eq_true, List.any_eq_true] at h2
      obtain ⟨⟨h3, h4⟩, r, hr2, h5, h6⟩ := h2
      have h3 := of_decide_eq_true h3
      have h4 := of_decide_eq_true h4
      have h5 := of_decide_eq_true h5
      have h6 := of_decide_eq_true h6
      obtain ⟨a, b, e1, e2, ha, hb, hwa, hwb, hlt⟩ := of_ahead hp hc
      obtain rfl : b = y := by omega
      refine Classical.byContradiction fun hno => ?_
      have hne2 : π.idxOf (x : Int) ≠ π.idxOf (b : Int) := fun e => h4 (perm_inj hp hx hb e)
      have h1 := hR x hx r hr2
      obtain ⟨i2, e2'⟩ := perm_at hp hx
      rcases from_spec H π r.a (π.idxOf (x : Int)) with ⟨g, _⟩ | ⟨i, g1, g2, _, g4⟩
      · omega
      · have hil : i < π.length := by omega
        rw [getD_at hil] at g2
        have hia : π[i] = (a : Int) := by omega
        have hx2 := perm_idx hp hil
        rw [hia] at hx2
        have := g4 (π.idxOf (b : Int)) (by omega) (by omega)
        rw [h5, hwA b hb _ hwb] at this
        cases this
theorem good_ser {H : List Txn} {m : List Cho} (hr : rightH H = true) (hm : allW (pairsL H) m) (hg : goodB H 0 m = true) : ∃ π, checkB H π = true := by
  obtain ⟨o, ht⟩ := good_topo hg
  have hp := ht.perm
  have hfull : ∀ x y, ((pastE H x y || wwE m x y) || rwE H m x y) = true → fullE H 0 m x y = true := fun x y h => by
    unfold fullE
    rw [if_neg (by decide)]
    exact h
  generalize hπ : (o.map fun (x : Nat) => (x : Int)) = π at hp
  have hpos : ∀ x, x < H.length → π.idxOf (x : Int) = o.idxOf x := fun x hx => by
    obtain ⟨hi, he⟩ := ht.at_ hx
    have hi2 : o.idxOf x < π.length := by rw [← hπ, List.length_map]; exact hi
    have : π[o.idxOf x] = (x : Int) := by subst hπ; rw [List.getElem_map, he]
    rw [← this]
    exact perm_idx hp hi2
  have hup : ∀ x y, x < H.length → y < H.length → ((pastE H x y || wwE m x y) || rwE H m x y) = true → π.idxOf (x : Int) < π.idxOf (y : Int) := fun x y hx hy h => by
    rw [hpos x hx, hpos y hy]
    exact ht.up hx hy (hfull x y h)
  have hbd : ∀ i (hi : i < π.length), ∃ u : Nat, u < H.length ∧ π[i] = (u : Int) ∧ π.idxOf (u : Int) = i := fun i hi => by
    have h1 := perm_bd hp hi
    refine ⟨π[i].toNat, by omega, by omega, ?_⟩
    rw [show ((π[i].toNat : Nat) : Int) = π[i] by omega]
    exact perm_idx hp hi
  refine ⟨π, ?_⟩
  unfold checkB
  rw [hp, Bool.true_and, Bool.and_eq_true]
  constructor
  · unfold readsB
    rw [List.all_eq_true]
    intro t ht2
    have ht2 := List.mem_range.1 ht2
    refine decide_eq_true ?_
    unfold playL
    refine List.ext_getElem (by simp) fun i h1 h2 => ?_
    rw [List.getElem_map]
    generalize hrr : (txnAt H t).reads[i] = r
    have hmem : r ∈ (txnAt H t).reads := by rw [← hrr]; exact List.getElem_mem h1
    suffices hs : r.b = fromB H π r.a (π.idxOf (t : Int)) by rw [← hs]
    obtain ⟨it, et⟩ := perm_at hp ht2
    have hth := (((rightH_iff H).1 hr).2 t ht2).there r (by rw [← txnAt_of ht2]; exact hmem)
    rcases from_spec H π r.a (π.idxOf (t : Int)) with ⟨g1, g2⟩ | ⟨j, g1, g2, g3, g4⟩
    · rcases (thereB_iff H t r).1 hth with e | ⟨k, hk, e1, e2, e3⟩
      · rw [e, g1]
      · exfalso
        have hlt := hup k t hk ht2 (by
          have : pastE H k t = true := by
            unfold pastE orE wrE
            rw [Bool.or_eq_true]
            right
            rw [Bool.and_eq_true, List.any_eq_true]
            exact ⟨decide_eq_true e2, r, hmem, decide_eq_true e1⟩
          rw [this]; rfl)
        have := g2 _ hlt
        obtain ⟨ik, ek⟩ := perm_at hp hk
        unfold wrA at this
        rw [getD_at ik, ek, Int.toNat_natCast, txnAt_of hk, List.contains_iff_mem.2 e3] at this
        cases this
    · have hjl : j < π.length := by omega
      obtain ⟨u, hu, eu, iu⟩ := hbd j hjl
      have hut : u ≠ t := fun e => by subst e; omega
      unfold wrA at g3
      rw [getD_at hjl, eu, Int.toNat_natCast, List.contains_iff_mem] at g3
      rw [getD_at hjl, eu] at g2
      rcases (thereB_iff H t r).1 hth with e | ⟨k, hk, e1, e2, e3⟩
      · exfalso
        have hlt := hup t u ht2 hu (by
          have : initE H t u = true := by
            unfold initE
            rw [Bool.and_eq_true, List.any_eq_true]
            exact ⟨decide_eq_true hut.symm, r, hmem, by rw [Bool.and_eq_true, List.contains_iff_mem]; exact ⟨decide_eq_true e, g3⟩⟩
          unfold rwE
          rw [this]; simp)
        omega
      · by_cases huk : u = k
        · subst huk; rw [e1, g2]
        · exfalso
          have hlt := hup k t hk ht2 (by
            have : pastE H k t = true := by
              unfold pastE orE wrE
              rw [Bool.or_eq_true]
              right
              rw [Bool.and_eq_true, List.any_eq_true]
              exact ⟨decide_eq_true e2, r, hmem, decide_eq_true e1⟩
            rw [this]; rfl)
          obtain ⟨ik, ek⟩ := perm_at hp hk
          have hkw : r.a ∈ (txnAt H k).writes := by rw [txnAt_of hk]; exact e3
          have hku : π.idxOf (k : Int) < π.idxOf (u : Int) := by
            have hne : π.idxOf (k : Int) ≠ π.idxOf (u : Int) := fun e => huk (perm_inj hp hk hu e).symm
            refine Classical.byContradiction fun hno => ?_
            have := g4 (π.idxOf (k : Int)) (by omega) hlt
            unfold wrA at this
            rw [getD_at ik, ek, Int.toNat_natCast, List.contains_iff_mem.2 hkw] at this
            cases this
          have hch : (⟨r.a, k, u⟩ : Cho) ∈ m ∨ (⟨r.a, u, k⟩ : Cho) ∈ m := by
            rcases Nat.lt_or_ge u k with g | g
            · have := allW_has hm _ (pairsL_have g hk g3 hkw)
              exact this.symm.imp id id
            · exact allW_has hm _ (pairsL_have (show k < u by omega) hu hkw g3)
          rcases hch with hch | hch
          · have := hup t u ht2 hu (by
              have : rwE H m t u = true := by
                unfold rwE
                rw [Bool.or_eq_true]
                right
                rw [List.any_eq_true]
                refine ⟨_, hch, ?_⟩
                simp only [Bool.and_eq_true, List.any_eq_true]
                exact ⟨⟨by simp, decide_eq_true hut.symm⟩, r, hmem, by simp, decide_eq_true e1⟩
              rw [this]; simp)
            omega
          · have := hup u k hu hk (by
              have : wwE m u k = true := by
                unfold wwE
                rw [List.any_eq_true]
                exact ⟨_, hch, by simp⟩
              rw [this]; simp)
            omega
  · unfold sessB
    rw [List.all_eq_true]
    intro i hi
    have hi := List.mem_range.1 hi
    rw [List.all_eq_true]
    intro k hk
    have hk := List.mem_range.1 hk
    obtain ⟨u, hu, eu, iu⟩ := hbd i hi
    obtain ⟨v, hv, ev, iv⟩ := hbd k (by omega)
    rw [getD_at hi, getD_at (show k < π.length by omega), eu, ev, Int.toNat_natCast, Int.toNat_natCast, Bool.not_eq_true', Bool.and_eq_false_iff]
    refine Classical.byContradiction fun hno => ?_
    simp only [decide_eq_false_iff_not, not_or, Classical.not_not] at hno
    have := hup u v hu hv (by
      have : soE H u v = true := by
        unfold soE
        rw [Bool.and_eq_true]
        exact ⟨decide_eq_true (by omega), decide_eq_true hno.2.symm⟩
      unfold pastE orE
      rw [this]; rfl)
    omega
/-- Some order shows it just if some way to choose all pairs is good. -/
theorem ser_has {H : List Txn} (hr : rightH H = true) : serB H = hasB H 0 := by
  rw [Bool.eq_iff_iff, serB_iff]
  constructor
  · rintro ⟨π, h⟩
    have hp : permB π H.length = true := by
      unfold checkB at h
      simp only [Bool.and_eq_true] at h
      exact h.1.1
    exact has_of_dec hp (ser_good h)
  · intro h
    obtain ⟨m, hm, hg⟩ := hasB_iff.1 h
    exact good_ser hr hm hg
end Go.Proofs.Ytfhnamomiaekdaa

namespace Go.Proofs.Ytfhnamomiaekdaa
open Go.RowKit Go.Inq

/-- The mark of a node. -/
def mkD (s : List Int) (x : Nat) : Int := s.getD x 0
theorem mkD_set {s : List Int} {x : Nat} {v : Int} (hx : x < s.length) (y : Nat) : mkD (s.set x v) y = if y = x then v else mkD s y := by
  unfold mkD
  rw [List.getD_eq_getElem?_getD, List.getD_eq_getElem?_getD, List.getElem?_set]
  by_cases e : x = y
  · subst e; rw [if_pos rfl, if_pos hx, if_pos rfl]; rfl
  · rw [if_neg e, if_neg (fun h => e h.symm)]

/-- Marks that may be: those done can be laid in a row such that what follows one is ahead of it. -/
structure DfsI (n : Nat) (E : Edges) (s : List Int) : Prop where
  len : s.length = n
  val : ∀ x ∈ s, x = 0 ∨ x = 1 ∨ x = 2
  ord : ∃ o : List Nat, o.Nodup ∧ (∀ x, x ∈ o ↔ x < n ∧ mkD s x = 2) ∧ ∀ i (hi : i < o.length) y, y < n → E o[i] y = true → y ∈ o.take i
theorem DfsI.start (n : Nat) (E : Edges) : DfsI n E (List.replicate n 0) := by
  refine ⟨by simp, fun x hx => .inl (List.eq_of_mem_replicate hx), [], List.nodup_nil, fun x => ?_, fun i hi => by cases hi⟩
  constructor
  · intro h; cases h
  · rintro ⟨h, h2⟩
    unfold mkD at h2
    rw [List.getD_eq_getElem?_getD, List.getElem?_replicate] at h2
    split at h2 <;> simp at h2
theorem DfsI.at_ {n : Nat} {E : Edges} {s : List Int} (h : DfsI n E s) {x : Nat} (hx : x < n) : mkD s x = s[x]'(by rw [h.len]; exact hx) := by
  unfold mkD; rw [List.getD_eq_getElem?_getD, List.getElem?_eq_getElem (by rw [h.len]; exact hx), Option.getD_some]
theorem DfsI.val_ {n : Nat} {E : Edges} {s : List Int} (h : DfsI n E s) {x : Nat} (hx : x < n) : mkD s x = 0 ∨ mkD s x = 1 ∨ mkD s x = 2 := by
  rw [h.at_ hx]; exact h.val _ (List.getElem_mem _)
theorem DfsI.begin {n : Nat} {E : Edges} {s : List Int} (h : DfsI n E s) {x : Nat} (hx : x < n) (h0 : mkD s x = 0) : DfsI n E (s.set x 1) := by
  have hxs : x < s.length := by rw [h.len]; exact hx
  obtain ⟨o, h1, h2, h3⟩ := h.ord
  refine ⟨by rw [List.length_set]; exact h.len, fun y hy => ?_, o, h1, fun y => ?_, h3⟩
  · rcases List.mem_or_eq_of_mem_set hy with e | e
    · exact h.val y e
    · exact .inr (.inl e)
  · rw [h2 y, mkD_set hxs]
    by_cases e : y = x
    · subst e; rw [if_pos rfl, h0]; simp
    · rw [if_neg e]
theorem DfsI.done {n : Nat} {E : Edges} {s : List Int} (h : DfsI n E s) {x : Nat} (hx : x < n) (h0 : mkD s x = 1) (hs : ∀ y, y < n → E x y = true → mkD s y = 2) : DfsI n E (s.set x 2) := by
  have hxs : x < s.length := by rw [h.len]; exact hx
  obtain ⟨o, h1, h2, h3⟩ := h.ord
  have hxo : x ∉ o := fun hm => by have := ((h2 x).1 hm).2; rw [h0] at this; cases this
  refine ⟨by rw [List.length_set]; exact h.len, fun y hy => ?_, o ++ [x], ?_, fun y => ?_, fun i hi y hy he => ?_⟩
  · rcases List.mem_or_eq_of_mem_set hy with e | e
    · exact h.val y e
    · exact .inr (.inr e)
  · rw [List.nodup_append]
    refine ⟨h1, by simp, fun a ha b hb e => ?_⟩
    rw [List.mem_singleton] at hb
    subst e; subst hb; exact hxo ha
  · rw [List.mem_append, List.mem_singleton, h2 y, mkD_set hxs]
    by_cases e : y = x
    · subst e; rw [if_pos rfl]; simp [hx]
    · rw [if_neg e]; simp [e]
  · rw [List.length_append, List.length_singleton] at hi
    rcases Nat.lt_or_ge i o.length with hio | hio
    · rw [List.getElem_append_left hio] at he
      rw [List.take_append_of_le_length (by omega)]
      exact h3 i hio y hy he
    · have hie : i = o.length := by omega
      subst hie
      rw [List.getElem_append_right (Nat.le_refl _)] at he
      simp only [Nat.sub_self, List.getElem_cons_zero] at he
      rw [List.take_append_of_le_length (Nat.le_refl _), List.take_length]
      exact (h2 y).2 ⟨hy, hs y hy he⟩
theorem DfsI.fine {n : Nat} {E : Edges} {s : List Int} (h : DfsI n E s) (ha : ∀ x, x < n → mkD s x = 2) : cycB n E = false := by
  obtain ⟨o, h1, h2, h3⟩ := h.ord
  refine cyc_rank (fun x => o.length - o.idxOf x) fun x y hx hy he => ?_
  have hxo : x ∈ o := (h2 x).2 ⟨hx, ha x hx⟩
  have hi := List.idxOf_lt_length_of_mem hxo
  have hm := h3 (o.idxOf x) hi y hy (by rw [List.getElem_idxOf]; exact he)
  obtain ⟨j, hj, e⟩ := List.getElem_of_mem hm
  rw [List.getElem_take] at e
  rw [List.length_take] at hj
  have hlt : o.idxOf y < o.idxOf x := by
    have h4 : o.idxOf y = j := by rw [← e]; exact List.Nodup.idxOf_getElem h1 _ _
    rw [h4]; omega
  show o.length - o.idxOf x < o.length - o.idxOf y
  omega

/-- How many are not seen yet. -/
def zeroD (s : List Int) : Nat := s.count 0
theorem zeroD_begin {s : List Int} {x : Nat} (hx : x < s.length) (h0 : mkD s x = 0) : zeroD (s.set x 1) + 1 = zeroD s := by
  unfold zeroD
  have he : s[x] = 0 := by unfold mkD at h0; rw [List.getD_eq_getElem?_getD, List.getElem?_eq_getElem hx, Option.getD_some] at h0; exact h0
  rw [List.count_set hx, he]
  have hp : 0 < s.count 0 := List.count_pos_iff.2 (by rw [← he]; exact List.getElem_mem hx)
  simp
  omega

/-- What a walk from a node does. -/
structure DfsO (n : Nat) (E : Edges) (s : List Int) (s' : List Int) : Prop where
  inv : DfsI n E s'
  grey : ∀ y, y < n → (mkD s' y = 1 ↔ mkD s y = 1)
  black : ∀ y, y < n → mkD s y = 2 → mkD s' y = 2
  zero : zeroD s' ≤ zeroD s
theorem DfsO.refl {n : Nat} {E : Edges} {s : List Int} (h : DfsI n E s) : DfsO n E s s := ⟨h, fun _ _ => Iff.rfl, fun _ _ h => h, Nat.le_refl _⟩
theorem DfsO.trans {n : Nat} {E : Edges} {a b c : List Int} (h : DfsO n E a b) (h' : DfsO n E b c) : DfsO n E a c := ⟨h'.inv, fun y hy => (h'.grey y hy).trans (h.grey y hy), fun y hy hb => h'.black y hy (h.black y hy hb), Nat.le_trans h'.zero h.zero⟩
theorem zeroD_set2 {s : List Int} {x : Nat} (hx : x < s.length) (h0 : mkD s x = 1) : zeroD (s.set x 2) ≤ zeroD s := by
  unfold zeroD
  have he : s[x] = 1 := by unfold mkD at h0; rw [List.getD_eq_getElem?_getD, List.getElem?_eq_getElem hx, Option.getD_some] at h0; exact h0
  rw [List.count_set hx, he]
  simp
/-- A node's walk whose followers are all done. -/
theorem DfsO.closed {n : Nat} {E : Edges} {s t : List Int} {x : Nat} (hs : DfsI n E s) (hx : x < n) (h0 : mkD s x = 0) (h : DfsO n E (s.set x 1) t) (hb : ∀ y, y < n → E x y = true → mkD t y = 2) : DfsO n E s (t.set x 2) ∧ mkD (t.set x 2) x = 2 := by
  have hxs : x < s.length := by rw [hs.len]; exact hx
  have hxt : x < t.length := by rw [h.inv.len]; exact hx
  have h1 : mkD t x = 1 := (h.grey x hx).2 (by rw [mkD_set hxs, if_pos rfl])
  refine ⟨⟨h.inv.done hx h1 hb, fun y hy => ?_, fun y hy h2 => ?_, ?_⟩, by rw [mkD_set hxt, if_pos rfl]⟩
  · rw [mkD_set hxt]
    by_cases e : y = x
    · subst e; rw [if_pos rfl, h0]; simp
    · rw [if_neg e, h.grey y hy, mkD_set hxs, if_neg e]
  · rw [mkD_set hxt]
    by_cases e : y = x
    · rw [if_pos e]
    · rw [if_neg e]; exact h.black y hy (by rw [mkD_set hxs, if_neg e]; exact h2)
  · refine Nat.le_trans (zeroD_set2 hxt h1) (Nat.le_trans h.zero ?_)
    have := zeroD_begin hxs h0
    omega
/-- All that is being gone through leads to a node. -/
def GreyTo (n : Nat) (E : Edges) (s : List Int) (x : Nat) : Prop := ∀ g, g < n → mkD s g = 1 → cloE n E g x = true
theorem GreyTo.hit {n : Nat} {E : Edges} {s : List Int} {x : Nat} (h : GreyTo n E s x) (hx : x < n) (h1 : mkD s x = 1) : cycB n E = true := by
  unfold cycB
  exact List.any_eq_true.2 ⟨x, List.mem_range.2 hx, h x hx h1⟩
theorem GreyTo.next {n : Nat} {E : Edges} {s t : List Int} {x y : Nat} (h : GreyTo n E s x) (hl : s.length = n) (hx : x < n) (h2 : DfsO n E (s.set x 1) t) (he : E x y = true) : GreyTo n E t y := by
  intro g hg h1
  have h3 := (h2.grey g hg).1 h1
  rw [mkD_set (by rw [hl]; exact hx)] at h3
  by_cases e : g = x
  · subst e; exact cloE_edge he
  · rw [if_neg e] at h3
    exact cloE_trans hx (h g hg h3) (cloE_edge he)
theorem greyTo_none {n : Nat} {E : Edges} {s : List Int} {x : Nat} (h : ∀ g, g < n → mkD s g ≠ 1) : GreyTo n E s x := fun g hg h1 => absurd h1 (h g hg)
end Go.Proofs.Ytfhnamomiaekdaa

namespace Go.Inq

/-- That of a read; that of a choice; that of a read of what is written over (of two transactions). -/
def redE (H : List Txn) (x y : Nat) : Bool := (txnAt H y).reads.any fun r => decide (r.b = (x : Int))
def chosE (H : List Txn) (x y : Nat) (c : Cho) : Bool := decide (c.a = (x : Int)) && decide (c.b = (y : Int)) && decide (x ≠ y) && (txnAt H x).writes.contains c.key && (txnAt H y).writes.contains c.key
def writE (H : List Txn) (l : List Cho) (x y : Nat) : Bool := l.any (chosE H x y)
def overR (H : List Txn) (l : List Cho) (y : Nat) (r : It) : Bool := (txnAt H y).writes.contains r.a && (decide (r.b < 0) || (decide (r.b ≠ (y : Int)) && l.any fun c => decide (c = ⟨r.a, r.b, y⟩)))
def overE (H : List Txn) (l : List Cho) (x y : Nat) : Bool := decide (x ≠ y) && (txnAt H x).reads.any (overR H l y)
def dirE (H : List Txn) (l : List Cho) (x y : Nat) : Bool := soE H x y || redE H x y || writE H l x y
/-- Two of a history's transactions. -/
def twoB (H : List Txn) (x y : Int) : Bool := rightH H && decide (0 ≤ x) && decide (x < (H.length : Int)) && decide (0 ≤ y) && decide (y < (H.length : Int))
def directB (H : List Txn) (l : List Cho) (x y : Int) : Bool := twoB H x y && dirE H l x.toNat y.toNat
def antiB (H : List Txn) (l : List Cho) (x y : Int) : Bool := twoB H x y && overE H l x.toNat y.toNat
/-- Is there an edge? -/
def isB (H : List Txn) (level : Int) (l : List Cho) (x y : Int) : Bool :=
  if level = 0 then directB H l x y || antiB H l x y
  else if level = 1 then (List.range H.length).any fun m => directB H l x (m : Int) && (decide ((m : Int) = y) || antiB H l (m : Int) y)
  else false
/-- Are some transactions a cycle? -/
def ringB (H : List Txn) (level : Int) (l : List Cho) (row : List Int) : Bool :=
  decide (0 < row.length) && (List.range row.length).all fun i => !(row.take i).contains (row.getD i 0) && isB H level l (row.getD i 0) (row.getD ((i + 1) % row.length) 0)
theorem twoB_iff {H : List Txn} {x y : Int} : twoB H x y = true ↔ rightH H = true ∧ ∃ a b : Nat, x = a ∧ y = b ∧ a < H.length ∧ b < H.length := by
  unfold twoB
  simp only [Bool.and_eq_true, decide_eq_true_eq]
  constructor
  · rintro ⟨⟨⟨⟨h1, h2⟩, h3⟩, h4⟩, h5⟩
    exact ⟨h1, x.toNat, y.toNat, by omega, by omega, by omega, by omega⟩
  · rintro ⟨h1, a, b, rfl, rfl, h2, h3⟩
    exact ⟨⟨⟨⟨h1, by omega⟩, by omega⟩, by omega⟩, by omega⟩
theorem directB_nat {H : List Txn} {l : List Cho} {x y : Nat} (hr : rightH H = true) (hx : x < H.length) (hy : y < H.length) : directB H l x y = dirE H l x y := by
  unfold directB
  rw [twoB_iff.2 ⟨hr, x, y, rfl, rfl, hx, hy⟩]; simp
theorem antiB_nat {H : List Txn} {l : List Cho} {x y : Nat} (hr : rightH H = true) (hx : x < H.length) (hy : y < H.length) : antiB H l x y = overE H l x y := by
  unfold antiB
  rw [twoB_iff.2 ⟨hr, x, y, rfl, rfl, hx, hy⟩]; simp
end Go.Inq
