/-
  Plain words of layer 21: the order of each key's writes; rows, their choices, and the graph that they make; no program in sight.
-/
import Derived.Test.YtfhnamomiaekdaaProg
import Derived.Laws.BitsAllLaws
import Derived.Laws.Shifts
import Derived.Lib.TrailingZeros
import Derived.Laws.Bits64b
import Derived.OrdersHeld
import Derived.StillTail
import Derived.Conc.Events
import Derived.Laws.AppendOwn
import Derived.Laws.Panics
import Derived.KernelRfl
import Derived.Test.YtfhnamomiaekdaaRSiRowsWA
import Derived.Test.YtfhnamomiaekdaaR01
set_option linter.unusedVariables false
set_option linter.unusedSimpArgs false
namespace Go.Proofs.Ytfhnamomiaekdaa
open Go.RowKit Go.Inq

/-- A key, and who writes it, in order. -/
structure SRow where
  key : Int
  l : List Int
deriving DecidableEq
def natI (l : List Nat) : List Int := l.map fun (x : Nat) => (x : Int)
def sortI (l : List Int) : List Int := l.mergeSort fun x y => decide (x ≤ y)
/-- The rows that an order makes. -/
def rowS (H : List Txn) (π : List Int) (k : Int) : SRow := ⟨k, π.filter fun t => (txnAt H t.toNat).writes.contains k⟩
def rowsL (H : List Txn) (π : List Int) : List SRow := if rightH H = true ∧ permB π H.length = true then (keysL H).map (rowS H π) else []
/-- May rows be? -/
def rightS (H : List Txn) (R : List SRow) : Bool := rightH H && decide (R.map (·.key) = keysL H) && R.all fun r => decide (sortI r.l = natI (wrsL H r.key))
/-- The choices that rows make. -/
def choR (H : List Txn) (r : SRow) : List Cho := (pairsK r.key (wrsL H r.key)).map (ofC r.l)
def choS (H : List Txn) (R : List SRow) : List Cho := if rightS H R then (R.map (choR H)).flatten else []

theorem sortI_rise (l : List Int) : (sortI l).Pairwise (· ≤ ·) := by
  unfold sortI
  refine (List.pairwise_mergeSort (le := fun x y => decide (x ≤ y)) (fun a b c h1 h2 => ?_) (fun a b => ?_) l).imp fun h => by simpa using h
  · rw [decide_eq_true_eq] at h1 h2 ⊢; omega
  · rw [Bool.or_eq_true, decide_eq_true_eq, decide_eq_true_eq]; omega
theorem sortI_perm (l : List Int) : (sortI l).Perm l := List.mergeSort_perm l _
theorem rise_perm : ∀ {a b : List Int}, a.Pairwise (· ≤ ·) → b.Pairwise (· ≤ ·) → a.Perm b → a = b
  | [], b, _, _, h => by rw [h.nil_eq]
  | x :: a, [], _, _, h => by have := h.length_eq; simp at this
  | x :: a, y :: b, ha, hb, h => by
    rw [List.pairwise_cons] at ha hb
    have hx : x ∈ y :: b := h.mem_iff.1 (by simp)
    have hy : y ∈ x :: a := h.mem_iff.2 (by simp)
    have hxy : x = y := by
      rw [List.mem_cons] at hx hy
      rcases hx with rfl | hx
      · rfl
      · rcases hy with rfl | hy
        · rfl
        · have h1 := hb.1 x hx; have h2 := ha.1 y hy; omega
    subst hxy
    rw [rise_perm ha.2 hb.2 ((List.perm_cons x).1 h)]
theorem natI_rise {l : List Nat} (h : l.Pairwise (· < ·)) : (natI l).Pairwise (· ≤ ·) := by
  unfold natI
  rw [List.pairwise_map]
  exact h.imp fun hab => by omega
theorem natI_mem {l : List Nat} {x : Int} : x ∈ natI l ↔ ∃ n ∈ l, x = (n : Int) := by
  unfold natI; rw [List.mem_map]; exact ⟨fun ⟨n, h, e⟩ => ⟨n, h, e.symm⟩, fun ⟨n, h, e⟩ => ⟨n, h, e.symm⟩⟩
theorem natI_nodup {l : List Nat} (h : l.Pairwise (· < ·)) : (natI l).Nodup := by
  unfold natI
  rw [List.nodup_iff_pairwise_ne, List.pairwise_map]
  exact h.imp fun hab => by omega
theorem sort_iff {H : List Txn} {r : SRow} : sortI r.l = natI (wrsL H r.key) ↔ r.l.Perm (natI (wrsL H r.key)) := by
  constructor
  · intro h; rw [← h]; exact (sortI_perm r.l).symm
  · intro h; exact rise_perm (sortI_rise _) (natI_rise (wrsL_rise H r.key)) ((sortI_perm r.l).trans h)

/-- What is right of rows that may be. -/
structure OkS (H : List Txn) (R : List SRow) : Prop where
  right : rightH H = true
  keys : R.map (·.key) = keysL H
  perm : ∀ r ∈ R, r.l.Perm (natI (wrsL H r.key))
theorem okS_iff (H : List Txn) (R : List SRow) : rightS H R = true ↔ OkS H R := by
  unfold rightS
  rw [Bool.and_eq_true, Bool.and_eq_true, decide_eq_true_eq, List.all_eq_true]
  constructor
  · rintro ⟨⟨h1, h2⟩, h3⟩
    exact ⟨h1, h2, fun r hr => sort_iff.1 (of_decide_eq_true (h3 r hr))⟩
  · rintro ⟨h1, h2, h3⟩
    exact ⟨⟨h1, h2⟩, fun r hr => decide_eq_true (sort_iff.2 (h3 r hr))⟩
theorem OkS.nodup {H : List Txn} {R : List SRow} (h : OkS H R) {r : SRow} (hr : r ∈ R) : r.l.Nodup := (h.perm r hr).nodup_iff.2 (natI_nodup (wrsL_rise H r.key))
theorem OkS.mem {H : List Txn} {R : List SRow} (h : OkS H R) {r : SRow} (hr : r ∈ R) {x : Int} : x ∈ r.l ↔ ∃ n : Nat, x = n ∧ n < H.length ∧ r.key ∈ (txnAt H n).writes := by
  rw [(h.perm r hr).mem_iff, natI_mem]
  constructor
  · rintro ⟨n, hn, e⟩; obtain ⟨h1, h2⟩ := wrsL_mem.1 hn; exact ⟨n, e, h1, h2⟩
  · rintro ⟨n, e, h1, h2⟩; exact ⟨n, wrsL_mem.2 ⟨h1, h2⟩, e⟩
theorem OkS.nat {H : List Txn} {R : List SRow} (h : OkS H R) {r : SRow} (hr : r ∈ R) {n : Nat} (hn : n < H.length) : ((n : Nat) : Int) ∈ r.l ↔ r.key ∈ (txnAt H n).writes := by
  rw [h.mem hr]
  constructor
  · rintro ⟨m, e, h1, h2⟩; obtain rfl : n = m := by omega
    exact h2
  · intro h2; exact ⟨n, rfl, hn, h2⟩
theorem OkS.has {H : List Txn} {R : List SRow} (h : OkS H R) {k : Int} {n : Nat} (hn : n < H.length) (hk : k ∈ (txnAt H n).writes) : ∃ r ∈ R, r.key = k := by
  have : k ∈ keysL H := by rw [txnAt_of hn] at hk; exact keysL_mem.2 ⟨_, List.getElem_mem hn, hk⟩
  rw [← h.keys] at this
  obtain ⟨r, hr, e⟩ := List.mem_map.1 this
  exact ⟨r, hr, e⟩
theorem OkS.one {H : List Txn} {R : List SRow} (h : OkS H R) {r r' : SRow} (hr : r ∈ R) (hr' : r' ∈ R) (e : r.key = r'.key) : r = r' := by
  have hp := keysL_rise H
  rw [← h.keys, List.pairwise_map] at hp
  obtain ⟨i, hi, rfl⟩ := List.getElem_of_mem hr
  obtain ⟨j, hj, rfl⟩ := List.getElem_of_mem hr'
  rw [List.pairwise_iff_getElem] at hp
  rcases Nat.lt_trichotomy i j with g | g | g
  · have := hp i j hi hj g; omega
  · subst g; rfl
  · have := hp j i hj hi g; omega
theorem OkS.key {H : List Txn} {R : List SRow} (h : OkS H R) {r : SRow} (hr : r ∈ R) : 0 ≤ r.key ∧ r.key < 16 := by
  have : r.key ∈ keysL H := by rw [← h.keys]; exact List.mem_map_of_mem hr
  obtain ⟨t, ht, hk⟩ := keysL_mem.1 this
  obtain ⟨i, hi, rfl⟩ := List.getElem_of_mem ht
  exact (((rightH_iff H).1 h.right).2 i hi).wkey _ hk

/-- A number's place in a row. -/
theorem idxI_idxOf {l : List Int} {x : Int} (h : x ∈ l) : idxI l x = (l.idxOf x : Int) := by
  have hi := List.idxOf_lt_length_of_mem h
  refine idxI_hit hi (List.getElem_idxOf _) fun j hj hlt e => ?_
  have : l.idxOf x ≤ j := by
    rw [← e]
    refine Nat.le_of_not_lt fun hgt => ?_
    have := List.not_of_lt_findIdx (p := (· == l[j])) (xs := l) (i := j) (by simpa [List.idxOf] using hgt)
    simp at this
  omega
/-- The place of a transaction's write of a key, from 1 on; 0: nowhere. -/
def placeS (R : List SRow) (k : Int) (t : Int) : Int := match R.find? fun r => decide (r.key = k) with
  | some r => if r.l.contains t then (r.l.idxOf t : Int) + 1 else 0
  | none => 0
def aheadB (R : List SRow) (k a b : Int) : Bool := decide (0 < placeS R k b) && (decide (a < 0) || (decide (0 < placeS R k a) && decide (placeS R k a < placeS R k b)))
def dirS (H : List Txn) (R : List SRow) (x y : Nat) : Bool := soE H x y || redE H x y || (txnAt H x).writes.any fun k => aheadB R k (x : Int) (y : Int)
def ovrS (H : List Txn) (R : List SRow) (x y : Nat) : Bool := decide (x ≠ y) && (txnAt H x).reads.any fun r => aheadB R r.a r.b (y : Int)
/-- All to which an edge leads. -/
def nextY (H : List Txn) (R : List SRow) (x y : Nat) : List Nat := if dirS H R x y then y :: (List.range H.length).filter (ovrS H R y) else []
def nextL (H : List Txn) (R : List SRow) (x : Nat) : List Nat := ((List.range H.length).map (nextY H R x)).flatten
def nextE (H : List Txn) (R : List SRow) : Edges := fun x y => (nextL H R x).contains y
def checkS (H : List Txn) (R : List SRow) : Bool := rightS H R && !cycB H.length (nextE H R)

theorem placeS_at {H : List Txn} {R : List SRow} (h : OkS H R) {r : SRow} (hr : r ∈ R) (t : Int) : placeS R r.key t = if r.l.contains t then (r.l.idxOf t : Int) + 1 else 0 := by
  unfold placeS
  cases hf : R.find? fun x => decide (x.key = r.key) with
  | none => have := List.find?_eq_none.1 hf r hr; simp at this
  | some x =>
    have h1 := List.find?_some hf
    have h2 := List.mem_of_find?_eq_some hf
    rw [decide_eq_true_eq] at h1
    rw [h.one h2 hr h1]
theorem placeS_pos {H : List Txn} {R : List SRow} (h : OkS H R) {k : Int} {n : Nat} (hn : n < H.length) : 0 < placeS R k (n : Int) ↔ k ∈ (txnAt H n).writes := by
  constructor
  · intro hp
    unfold placeS at hp
    cases hf : R.find? fun x => decide (x.key = k) with
    | none => rw [hf] at hp; exact absurd hp (Int.lt_irrefl 0)
    | some r =>
      rw [hf] at hp
      have h1 := List.find?_some hf
      rw [decide_eq_true_eq] at h1
      subst h1
      have h2 := List.mem_of_find?_eq_some hf
      refine (h.nat h2 hn).1 ?_
      by_cases hc : r.l.contains (n : Int) = true
      · exact List.contains_iff_mem.1 hc
      · rw [Bool.not_eq_true] at hc
        simp only [hc] at hp
        exact absurd hp (Int.lt_irrefl 0)
  · intro hk
    obtain ⟨r, hr, rfl⟩ := h.has hn hk
    rw [placeS_at h hr, if_pos (List.contains_iff_mem.2 ((h.nat hr hn).2 hk))]
    omega
theorem choS_mem {H : List Txn} {R : List SRow} (h : OkS H R) {c : Cho} : c ∈ choS H R ↔ ∃ r ∈ R, ∃ p ∈ pairsK r.key (wrsL H r.key), c = ofC r.l p := by
  unfold choS
  rw [if_pos ((okS_iff H R).2 h), List.mem_flatten]
  constructor
  · rintro ⟨l, hl, hc⟩
    obtain ⟨r, hr, rfl⟩ := List.mem_map.1 hl
    obtain ⟨p, hp, e⟩ := List.mem_map.1 hc
    exact ⟨r, hr, p, hp, e.symm⟩
  · rintro ⟨r, hr, p, hp, rfl⟩
    exact ⟨_, List.mem_map_of_mem hr, List.mem_map_of_mem hp⟩
/-- A choice of rows: whose place is ahead. -/
theorem choS_iff {H : List Txn} {R : List SRow} (h : OkS H R) {k : Int} {a b : Nat} (ha : a < H.length) (hb : b < H.length) :
    (⟨k, a, b⟩ : Cho) ∈ choS H R ↔ k ∈ (txnAt H a).writes ∧ k ∈ (txnAt H b).writes ∧ placeS R k a < placeS R k b := by
  rw [choS_mem h]
  have hpl : ∀ {r : SRow}, r ∈ R → ∀ {n : Nat}, n < H.length → r.key ∈ (txnAt H n).writes → placeS R r.key (n : Int) = (r.l.idxOf (n : Int) : Int) + 1 ∧ idxI r.l (n : Int) = (r.l.idxOf (n : Int) : Int) := fun {r} hr {n} hn hk => by
    have hm := (h.nat hr hn).2 hk
    exact ⟨by rw [placeS_at h hr, if_pos (List.contains_iff_mem.2 hm)], idxI_idxOf hm⟩
  have hne : ∀ {r : SRow}, r ∈ R → ∀ {m n : Nat}, m < H.length → n < H.length → r.key ∈ (txnAt H m).writes → r.key ∈ (txnAt H n).writes → m ≠ n → r.l.idxOf (m : Int) ≠ r.l.idxOf (n : Int) := fun {r} hr {m n} hm hn hkm hkn hmn e => by
    have h1 := (h.nat hr hm).2 hkm
    have h2 := (h.nat hr hn).2 hkn
    have e1 := List.getElem_idxOf (List.idxOf_lt_length_of_mem h1)
    have e2 := List.getElem_idxOf (List.idxOf_lt_length_of_mem h2)
    have : r.l[r.l.idxOf (m : Int)]'(List.idxOf_lt_length_of_mem h1) = r.l[r.l.idxOf (n : Int)]'(List.idxOf_lt_length_of_mem h2) := by simp only [e]
    omega
  constructor
  · rintro ⟨r, hr, p, hp, e⟩
    obtain ⟨hpk, x, y, hx, hy, hxm, hym⟩ := pairsK_mem hp
    have hlt := pairsK_lt (wrsL_rise H r.key) hp
    obtain ⟨hx1, hx2⟩ := wrsL_mem.1 hxm
    obtain ⟨hy1, hy2⟩ := wrsL_mem.1 hym
    obtain ⟨px, ix⟩ := hpl hr hx1 hx2
    obtain ⟨py, iy⟩ := hpl hr hy1 hy2
    have hnd := hne hr hx1 hy1 hx2 hy2 (by omega)
    unfold ofC at e
    rw [hx, hy, ix, iy] at e
    split at e
    · next hgt =>
      injection e with e1 e2 e3
      obtain rfl : a = y := by omega
      obtain rfl : b = x := by omega
      rw [hpk] at e1
      subst e1
      exact ⟨hy2, hx2, by omega⟩
    · next hgt =>
      subst e
      obtain rfl : a = x := by have : (a : Int) = x := hx; omega
      obtain rfl : b = y := by have : (b : Int) = y := hy; omega
      have hk : k = r.key := hpk
      subst hk
      exact ⟨hx2, hy2, by omega⟩
  · rintro ⟨hka, hkb, hlt⟩
    obtain ⟨r, hr, rfl⟩ := h.has ha hka
    obtain ⟨pa, ia⟩ := hpl hr ha hka
    obtain ⟨pb, ib⟩ := hpl hr hb hkb
    have hab : a ≠ b := by rintro rfl; omega
    rcases Nat.lt_or_gt_of_ne hab with g | g
    · refine ⟨r, hr, _, pairsK_have (wrsL_rise H r.key) (wrsL_mem.2 ⟨ha, hka⟩) (wrsL_mem.2 ⟨hb, hkb⟩) g, ?_⟩
      unfold ofC
      rw [if_neg]
      show ¬ (idxI r.l (a : Int) > idxI r.l (b : Int))
      omega
    · refine ⟨r, hr, _, pairsK_have (wrsL_rise H r.key) (wrsL_mem.2 ⟨hb, hkb⟩) (wrsL_mem.2 ⟨ha, hka⟩) g, ?_⟩
      unfold ofC
      rw [if_pos]
      show idxI r.l (b : Int) > idxI r.l (a : Int)
      omega
theorem choS_nat {H : List Txn} {R : List SRow} (h : OkS H R) {c : Cho} (hc : c ∈ choS H R) : ∃ a b : Nat, c.a = a ∧ c.b = b ∧ a < H.length ∧ b < H.length := by
  obtain ⟨r, hr, p, hp, rfl⟩ := (choS_mem h).1 hc
  obtain ⟨hpk, x, y, hx, hy, hxm, hym⟩ := pairsK_mem hp
  obtain ⟨hx1, -⟩ := wrsL_mem.1 hxm
  obtain ⟨hy1, -⟩ := wrsL_mem.1 hym
  unfold ofC
  split
  · exact ⟨y, x, hy, hx, hy1, hx1⟩
  · exact ⟨x, y, hx, hy, hx1, hy1⟩
/-- The row's graph is the graph of its choices. -/
theorem dirS_eq {H : List Txn} {R : List SRow} (h : OkS H R) {x y : Nat} (hx : x < H.length) (hy : y < H.length) : dirS H R x y = orE (pastE H) (wwE (choS H R)) x y := by
  have hr := (rightH_iff H).1 h.right
  rw [Bool.eq_iff_iff]
  unfold dirS pastE orE
  rw [Bool.or_eq_true, Bool.or_eq_true, Bool.or_eq_true, Bool.or_eq_true]
  refine or_congr (or_congr Iff.rfl ?_) ?_
  · unfold redE wrE
    rw [Bool.and_eq_true, decide_eq_true_eq]
    refine ⟨fun hm => ⟨?_, hm⟩, And.right⟩
    rintro rfl
    rw [List.any_eq_true] at hm
    obtain ⟨r, hr1, hr2⟩ := hm
    have hr2 := of_decide_eq_true hr2
    rw [txnAt_of hx] at hr1
    have ht := (hr.2 x hx).there r hr1
    rcases (thereB_iff H x r).1 ht with e | ⟨k, hk, e, hne, -⟩
    · omega
    · omega
  · unfold wwE
    rw [List.any_eq_true, List.any_eq_true]
    constructor
    · rintro ⟨k, hk, ha⟩
      unfold aheadB at ha
      rw [Bool.and_eq_true, Bool.or_eq_true, Bool.and_eq_true] at ha
      simp only [decide_eq_true_eq] at ha
      obtain ⟨h1, h2⟩ := ha
      have h3 : placeS R k (x : Int) < placeS R k (y : Int) := by rcases h2 with h2 | h2 <;> omega
      exact ⟨⟨k, x, y⟩, (choS_iff h hx hy).2 ⟨hk, (placeS_pos h hy).1 h1, h3⟩, by simp⟩
    · rintro ⟨⟨k, a, b⟩, hc, hab⟩
      rw [Bool.and_eq_true, decide_eq_true_eq, decide_eq_true_eq] at hab
      obtain ⟨rfl, rfl⟩ := hab
      obtain ⟨h1, h2, h3⟩ := (choS_iff h hx hy).1 hc
      have h4 := (placeS_pos h hx).2 h1
      have h5 := (placeS_pos h hy).2 h2
      refine ⟨k, h1, ?_⟩
      unfold aheadB
      rw [Bool.and_eq_true, Bool.or_eq_true, Bool.and_eq_true]
      simp only [decide_eq_true_eq]
      exact ⟨h5, .inr ⟨h4, h3⟩⟩
theorem ovrS_eq {H : List Txn} {R : List SRow} (h : OkS H R) {x y : Nat} (hx : x < H.length) (hy : y < H.length) : ovrS H R x y = rwE H (choS H R) x y := by
  have hr := (rightH_iff H).1 h.right
  rw [Bool.eq_iff_iff]
  unfold ovrS rwE initE
  rw [Bool.and_eq_true, Bool.or_eq_true, Bool.and_eq_true, List.any_eq_true, List.any_eq_true, List.any_eq_true, decide_eq_true_eq]
  have hthere : ∀ r ∈ (txnAt H x).reads, r.b = -1 ∨ ∃ k, ∃ hk : k < H.length, r.b = (k : Int) ∧ k ≠ x ∧ r.a ∈ H[k].writes := fun r hr1 => by
    rw [txnAt_of hx] at hr1
    exact (thereB_iff H x r).1 ((hr.2 x hx).there r hr1)
  constructor
  · rintro ⟨hne, r, hr1, ha⟩
    unfold aheadB at ha
    rw [Bool.and_eq_true, Bool.or_eq_true, Bool.and_eq_true] at ha
    simp only [decide_eq_true_eq] at ha
    obtain ⟨h1, h2⟩ := ha
    have hky := (placeS_pos h hy).1 h1
    rcases hthere r hr1 with e | ⟨k, hk, e, hkx, hkw⟩
    · refine .inl ⟨hne, r, hr1, ?_⟩
      rw [Bool.and_eq_true, decide_eq_true_eq, List.contains_iff_mem]
      exact ⟨e, hky⟩
    · have h3 : 0 < placeS R r.a r.b ∧ placeS R r.a r.b < placeS R r.a (y : Int) := by
        rcases h2 with h2 | h2
        · omega
        · exact h2
      rw [e] at h3
      refine .inr ⟨⟨r.a, k, y⟩, (choS_iff h hk hy).2 ⟨(placeS_pos h hk).1 h3.1, hky, h3.2⟩, ?_⟩
      rw [Bool.and_eq_true, Bool.and_eq_true, List.any_eq_true]
      simp only [decide_eq_true_eq]
      refine ⟨⟨trivial, hne⟩, r, hr1, ?_⟩
      rw [Bool.and_eq_true, decide_eq_true_eq, decide_eq_true_eq]
      exact ⟨rfl, e⟩
  · rintro (⟨hne, r, hr1, h2⟩ | ⟨c, hc, h2⟩)
    · rw [Bool.and_eq_true, decide_eq_true_eq, List.contains_iff_mem] at h2
      refine ⟨hne, r, hr1, ?_⟩
      unfold aheadB
      rw [Bool.and_eq_true, Bool.or_eq_true]
      simp only [decide_eq_true_eq]
      exact ⟨(placeS_pos h hy).2 h2.2, .inl (by omega)⟩
    · rw [Bool.and_eq_true, Bool.and_eq_true, List.any_eq_true] at h2
      simp only [decide_eq_true_eq] at h2
      obtain ⟨⟨hb, hne⟩, r, hr1, h3⟩ := h2
      rw [Bool.and_eq_true, decide_eq_true_eq, decide_eq_true_eq] at h3
      obtain ⟨a, b, e1, e2, ha, hb'⟩ := choS_nat h hc
      obtain ⟨k, ca, cb⟩ := c
      simp only at hb h3 e1 e2
      subst e1; subst e2
      obtain rfl : b = y := by omega
      obtain ⟨g1, g2, g3⟩ := (choS_iff h ha hb').1 hc
      refine ⟨hne, r, hr1, ?_⟩
      unfold aheadB
      rw [h3.1, h3.2, Bool.and_eq_true, Bool.or_eq_true, Bool.and_eq_true]
      simp only [decide_eq_true_eq]
      exact ⟨(placeS_pos h hb').2 g2, .inr ⟨(placeS_pos h ha).2 g1, g3⟩⟩
theorem nextE_iff {H : List Txn} {R : List SRow} {x z : Nat} : nextE H R x z = true ↔ z < H.length ∧ (dirS H R x z = true ∨ ∃ y, y < H.length ∧ dirS H R x y = true ∧ ovrS H R y z = true) := by
  unfold nextE nextL
  rw [List.contains_iff_mem, List.mem_flatten]
  constructor
  · rintro ⟨l, hl, hz⟩
    obtain ⟨y, hy, rfl⟩ := List.mem_map.1 hl
    have hy := List.mem_range.1 hy
    unfold nextY at hz
    split at hz
    · next hd =>
      rw [List.mem_cons] at hz
      rcases hz with rfl | hz
      · exact ⟨hy, .inl hd⟩
      · obtain ⟨h1, h2⟩ := List.mem_filter.1 hz
        exact ⟨List.mem_range.1 h1, .inr ⟨y, hy, hd, h2⟩⟩
    · cases hz
  · rintro ⟨hz, hd | ⟨y, hy, hd, ho⟩⟩
    · refine ⟨_, List.mem_map.2 ⟨z, List.mem_range.2 hz, rfl⟩, ?_⟩
      unfold nextY
      rw [if_pos hd]; simp
    · refine ⟨_, List.mem_map.2 ⟨y, List.mem_range.2 hy, rfl⟩, ?_⟩
      unfold nextY
      rw [if_pos hd, List.mem_cons]
      exact .inr (List.mem_filter.2 ⟨List.mem_range.2 hz, ho⟩)
theorem nextE_eq {H : List Txn} {R : List SRow} (h : OkS H R) {x z : Nat} (hx : x < H.length) (hz : z < H.length) : nextE H R x z = fullE H 1 (choS H R) x z := by
  have hf : fullE H 1 (choS H R) x z = (orE (pastE H) (wwE (choS H R)) x z || thenE H.length (orE (pastE H) (wwE (choS H R))) (rwE H (choS H R)) x z) := rfl
  rw [Bool.eq_iff_iff, nextE_iff, hf, Bool.or_eq_true, ← dirS_eq h hx hz]
  unfold thenE
  rw [List.any_eq_true]
  constructor
  · rintro ⟨_, hd | ⟨y, hy, hd, ho⟩⟩
    · exact .inl hd
    · exact .inr ⟨y, List.mem_range.2 hy, by rw [Bool.and_eq_true, ← dirS_eq h hx hy, ← ovrS_eq h hy hz]; exact ⟨hd, ho⟩⟩
  · rintro (hd | ⟨y, hy, hd⟩)
    · exact ⟨hz, .inl hd⟩
    · have hy := List.mem_range.1 hy
      rw [Bool.and_eq_true, ← dirS_eq h hx hy, ← ovrS_eq h hy hz] at hd
      exact ⟨hz, .inr ⟨y, hy, hd.1, hd.2⟩⟩
theorem wayB_congr {n : Nat} {E F : Edges} (h : ∀ x y, x < n → y < n → E x y = F x y) : ∀ (l : List Nat) (x y : Nat), x < n → y < n → (∀ a ∈ l, a < n) → wayB E x l y = wayB F x l y
  | [], x, y, hx, hy, _ => h x y hx hy
  | a :: l, x, y, hx, hy, hl => by
    show (E x a && wayB E a l y) = (F x a && wayB F a l y)
    rw [h x a hx (hl a (by simp)), wayB_congr h l a y (hl a (by simp)) hy fun b hb => hl b (by simp [hb])]
theorem cyc_sub {n : Nat} {E F : Edges} (h : ∀ x y, x < n → y < n → E x y = F x y) (hc : cycB n E = true) : cycB n F = true := by
  unfold cycB at hc ⊢
  rw [List.any_eq_true] at hc ⊢
  obtain ⟨x, hx, hc⟩ := hc
  have hxn := List.mem_range.1 hx
  obtain ⟨l, hl, hw⟩ := cloTo_way n x x hc
  rw [wayB_congr h l x x hxn hxn hl] at hw
  exact ⟨x, hx, way_cloTo n l.length l x x (Nat.le_refl _) hl hw⟩
theorem cyc_congr {n : Nat} {E F : Edges} (h : ∀ x y, x < n → y < n → E x y = F x y) : cycB n E = cycB n F := by
  rw [Bool.eq_iff_iff]
  exact ⟨cyc_sub h, cyc_sub fun x y hx hy => (h x y hx hy).symm⟩
/-- Rows show snapshots just if nothing leads back in the graph of their choices. -/
theorem checkS_good (H : List Txn) (R : List SRow) : checkS H R = (rightS H R && goodB H 1 (choS H R)) := by
  unfold checkS goodB
  cases hr : rightS H R with
  | false => rfl
  | true => rw [Bool.true_and, Bool.true_and, cyc_congr fun x y hx hy => nextE_eq ((okS_iff H R).1 hr) hx hy]
end Go.Proofs.Ytfhnamomiaekdaa

namespace Go.Proofs.Ytfhnamomiaekdaa
open Go.RowKit Go.Inq

theorem idxOf_hit (a : Int) (t : List Int) : (a :: t).idxOf a = 0 := by simp [List.idxOf_cons]
theorem idxOf_far {a x : Int} (h : a ≠ x) (t : List Int) : (a :: t).idxOf x = t.idxOf x + 1 := by
  rw [List.idxOf_cons, show (a == x) = false by simpa using h]; rfl
theorem filter_idx {p : Int → Bool} {x y : Int} (hx : p x = true) (hy : p y = true) : ∀ {l : List Int}, x ∈ l → y ∈ l → ((l.filter p).idxOf x < (l.filter p).idxOf y ↔ l.idxOf x < l.idxOf y)
  | [], h, _ => by cases h
  | a :: t, h1, h2 => by
    by_cases hpa : p a = true
    · rw [List.filter_cons_of_pos hpa]
      by_cases hax : a = x
      · subst hax
        by_cases hay : a = y
        · subst hay; exact ⟨fun h => absurd h (Nat.lt_irrefl _), fun h => absurd h (Nat.lt_irrefl _)⟩
        · rw [idxOf_hit, idxOf_hit, idxOf_far hay, idxOf_far hay]
          exact ⟨fun _ => by omega, fun _ => by omega⟩
      · by_cases hay : a = y
        · subst hay
          rw [idxOf_hit, idxOf_hit]
          exact ⟨fun h => absurd h (Nat.not_lt_zero _), fun h => absurd h (Nat.not_lt_zero _)⟩
        · rw [List.mem_cons] at h1 h2
          have g1 : x ∈ t := h1.resolve_left fun e => hax e.symm
          have g2 : y ∈ t := h2.resolve_left fun e => hay e.symm
          have := filter_idx hx hy g1 g2
          rw [idxOf_far hax, idxOf_far hay, idxOf_far hax, idxOf_far hay]
          omega
    · rw [List.filter_cons_of_neg hpa]
      have hax : a ≠ x := fun e => hpa (e ▸ hx)
      have hay : a ≠ y := fun e => hpa (e ▸ hy)
      rw [List.mem_cons] at h1 h2
      have g1 : x ∈ t := h1.resolve_left fun e => hax e.symm
      have g2 : y ∈ t := h2.resolve_left fun e => hay e.symm
      have := filter_idx hx hy g1 g2
      rw [idxOf_far hax, idxOf_far hay]
      omega
theorem rowS_mem {H : List Txn} {π : List Int} (hp : permB π H.length = true) {k : Int} {n : Nat} : ((n : Nat) : Int) ∈ (rowS H π k).l ↔ n ∈ wrsL H k := by
  unfold rowS
  rw [List.mem_filter, wrsL_mem, Int.toNat_natCast, List.contains_iff_mem]
  constructor
  · rintro ⟨h1, h2⟩
    obtain ⟨i, hi, e⟩ := List.getElem_of_mem h1
    have := perm_bd hp hi
    exact ⟨by omega, h2⟩
  · rintro ⟨h1, h2⟩
    exact ⟨perm_has hp h1, h2⟩
theorem rowS_perm {H : List Txn} {π : List Int} (hp : permB π H.length = true) (k : Int) : (rowS H π k).l.Perm (natI (wrsL H k)) := by
  refine (List.perm_ext_iff_of_nodup ((perm_nodup hp).sublist List.filter_sublist) (natI_nodup (wrsL_rise H k))).2 fun x => ?_
  constructor
  · intro hx
    have h1 := (List.mem_filter.1 hx).1
    obtain ⟨i, hi, e⟩ := List.getElem_of_mem h1
    have := perm_bd hp hi
    have hn : x = ((x.toNat : Nat) : Int) := by omega
    rw [hn] at hx
    exact natI_mem.2 ⟨_, (rowS_mem hp).1 hx, hn⟩
  · intro hx
    obtain ⟨n, hn, rfl⟩ := natI_mem.1 hx
    exact (rowS_mem hp).2 hn
theorem rowsL_ok {H : List Txn} {π : List Int} (hr : rightH H = true) (hp : permB π H.length = true) : OkS H (rowsL H π) := by
  unfold rowsL
  rw [if_pos ⟨hr, hp⟩]
  refine ⟨hr, ?_, fun r hm => ?_⟩
  · rw [List.map_map]
    exact (List.map_congr_left (g := id) fun k _ => rfl).trans (List.map_id _)
  · obtain ⟨k, hk, rfl⟩ := List.mem_map.1 hm
    exact rowS_perm hp k
theorem rowsL_right {H : List Txn} {π : List Int} (hr : rightH H = true) (hp : permB π H.length = true) : rightS H (rowsL H π) = true := (okS_iff _ _).2 (rowsL_ok hr hp)
/-- An order's rows choose as the order does. -/
theorem choS_rows {H : List Txn} {π : List Int} (hr : rightH H = true) (hp : permB π H.length = true) : choS H (rowsL H π) = ofL H π := by
  unfold choS
  rw [if_pos (rowsL_right hr hp)]
  unfold rowsL ofL pairsL
  rw [if_pos ⟨hr, hp⟩, List.map_flatten, List.map_map, List.map_map]
  congr 1
  refine List.map_congr_left fun k _ => ?_
  show (pairsK k (wrsL H k)).map (ofC (rowS H π k).l) = (pairsK k (wrsL H k)).map (ofC π)
  refine List.map_congr_left fun p hpm => ?_
  obtain ⟨hpk, a, b, ha, hb, ham, hbm⟩ := pairsK_mem hpm
  have h1 := (rowS_mem (k := k) hp).2 ham
  have h2 := (rowS_mem (k := k) hp).2 hbm
  have g1 := (List.mem_filter.1 h1).1
  have g2 := (List.mem_filter.1 h2).1
  have hf := filter_idx (p := fun t => (txnAt H t.toNat).writes.contains k) (List.mem_filter.1 h2).2 (List.mem_filter.1 h1).2 g2 g1
  have hf : (rowS H π k).l.idxOf (b : Int) < (rowS H π k).l.idxOf (a : Int) ↔ π.idxOf (b : Int) < π.idxOf (a : Int) := hf
  unfold ofC
  rw [ha, hb, idxI_idxOf h1, idxI_idxOf h2, idxI_idxOf g1, idxI_idxOf g2]
  by_cases hlt : π.idxOf (b : Int) < π.idxOf (a : Int)
  · rw [if_pos (by have := hf.2 hlt; omega), if_pos (by omega)]
  · rw [if_neg (by intro h; exact hlt (hf.1 (by omega))), if_neg (by omega)]
theorem good_si {H : List Txn} {l : List Cho} (h : goodB H 0 l = true) : goodB H 1 l = true := by
  unfold goodB at h ⊢
  rw [Bool.not_eq_true'] at h ⊢
  obtain ⟨o, ht⟩ := topoN_of h
  have h0 : ∀ x y, fullE H 0 l x y = (orE (pastE H) (wwE l) x y || rwE H l x y) := fun _ _ => rfl
  have h1 : ∀ x y, fullE H 1 l x y = (orE (pastE H) (wwE l) x y || thenE H.length (orE (pastE H) (wwE l)) (rwE H l) x y) := fun _ _ => rfl
  refine cyc_rank (fun x => o.idxOf x) fun x y hx hy he => ?_
  rw [h1, Bool.or_eq_true] at he
  rcases he with he | he
  · exact ht.up hx hy (by rw [h0, he]; rfl)
  · unfold thenE at he
    rw [List.any_eq_true] at he
    obtain ⟨z, hz, he⟩ := he
    have hz := List.mem_range.1 hz
    rw [Bool.and_eq_true] at he
    have g1 := ht.up hx hz (by rw [h0, he.1]; rfl)
    have g2 := ht.up hz hy (by rw [h0, he.2, Bool.or_true])
    exact Nat.lt_trans g1 g2
theorem check_perm {H : List Txn} {π : List Int} (h : checkB H π = true) : permB π H.length = true := by
  unfold checkB at h
  simp only [Bool.and_eq_true] at h
  exact h.1.1
/-- What an order shows to be serializable has snapshots by that order's rows. -/
theorem ser_si {H : List Txn} {π : List Int} (hr : rightH H = true) (h : checkB H π = true) : checkS H (rowsL H π) = true := by
  have hp := check_perm h
  rw [checkS_good, rowsL_right hr hp, Bool.true_and, choS_rows hr hp, ofL_dec hp]
  exact good_si (ser_good h)
theorem rowsL_or (H : List Txn) (π : List Int) : rowsL H π = [] ∨ rightS H (rowsL H π) = true := by
  by_cases h : rightH H = true ∧ permB π H.length = true
  · exact .inr (rowsL_right h.1 h.2)
  · left; unfold rowsL; rw [if_neg h]
/-- Without reads. -/
def bareH (H : List Txn) : List Txn := H.map fun t => { t with reads := [] }
theorem bareH_len (H : List Txn) : (bareH H).length = H.length := List.length_map _
theorem bareH_at {H : List Txn} {t : Nat} (h : t < H.length) : txnAt (bareH H) t = { txnAt H t with reads := [] } := by
  rw [txnAt_of (by rw [bareH_len]; exact h), txnAt_of h]
  unfold bareH
  rw [List.getElem_map]
theorem bare_check {H : List Txn} {π : List Int} (hp : permB π H.length = true) (hs : sessB (bareH H) π = true) : checkB (bareH H) π = true := by
  unfold checkB
  rw [bareH_len, hp, hs, Bool.and_true, Bool.true_and]
  unfold readsB
  rw [List.all_eq_true]
  intro t ht
  rw [bareH_len] at ht
  have ht := List.mem_range.1 ht
  unfold playL
  rw [bareH_at ht]
  simp
end Go.Proofs.Ytfhnamomiaekdaa

namespace Go.Inq

/-- A number's bit. -/
def bitN (i : Int) : Nat := if 0 ≤ i ∧ i < 64 then 2 ^ i.toNat else 0
theorem bitN_in {i : Int} (h0 : 0 ≤ i) (h : i < 64) : bitN i = 2 ^ i.toNat := by unfold bitN; rw [if_pos ⟨h0, h⟩]
theorem bitN_low {i : Int} (h : i < 0) : bitN i = 0 := by unfold bitN; rw [if_neg (by omega)]
theorem bitN_high {i : Int} (h : 64 ≤ i) : bitN i = 0 := by unfold bitN; rw [if_neg (by omega)]
theorem bitN_lt (i : Int) : bitN i < 18446744073709551616 := by
  unfold bitN
  split
  · rename_i h
    exact Nat.lt_of_lt_of_le (Nat.pow_lt_pow_right (by decide) (show i.toNat < 64 by omega)) (by decide)
  · decide
/-- Has a set a number? -/
def hasB (s : Nat) (i : Int) : Bool := decide (0 ≤ i) && s.testBit i.toNat
theorem hasB_nat (s i : Nat) : hasB s (i : Int) = s.testBit i := by unfold hasB; simp
theorem and_bitN {s : Nat} (hs : s < 18446744073709551616) (i : Int) : decide (s &&& bitN i = 0) = !hasB s i := by
  unfold hasB bitN
  by_cases h0 : 0 ≤ i
  · by_cases h : i < 64
    · rw [if_pos ⟨h0, h⟩, Bool.eq_iff_iff, decide_eq_true_iff, and_one]; simp [h0]
    · rw [if_neg (by omega)]
      have : s.testBit i.toNat = false := Nat.testBit_lt_two_pow (Nat.lt_of_lt_of_le (show s < 2 ^ 64 from hs) (Nat.pow_le_pow_right (by decide) (by omega)))
      simp [this]
  · rw [if_neg (by omega)]; simp [h0]
/-- A set with a number. -/
def withB (s : Nat) (i : Int) : Nat := s ||| bitN i
theorem withB_lt {s : Nat} (hs : s < 18446744073709551616) (i : Int) : withB s i < 18446744073709551616 := Nat.or_lt_two_pow (n := 64) hs (bitN_lt i)
theorem withB_bit (s : Nat) {i : Nat} (hi : i < 64) (j : Nat) : (withB s (i : Int)).testBit j = (s.testBit j || decide (i = j)) := by
  unfold withB
  rw [bitN_in (by omega) (by omega), Int.toNat_natCast]
  exact one_or s i j
/-- All that is in some sets. -/
def joinL (l : List Nat) : Nat := l.foldl (· ||| ·) 0
theorem foldl_or_bit (l : List Nat) : ∀ (a i : Nat), (l.foldl (· ||| ·) a).testBit i = (a.testBit i || l.any fun x => x.testBit i) := by
  induction l with
  | nil => intro a i; simp
  | cons x r ih => intro a i; rw [List.foldl_cons, ih, Nat.testBit_or, List.any_cons, Bool.or_assoc]
theorem joinL_bit (l : List Nat) (i : Nat) : (joinL l).testBit i = l.any fun x => x.testBit i := by
  unfold joinL; rw [foldl_or_bit]; simp
theorem joinL_lt {l : List Nat} {n : Nat} (h : ∀ x ∈ l, x < 2 ^ n) : joinL l < 2 ^ n := by
  refine Nat.lt_pow_two_of_testBit _ (fun i hi => ?_)
  rw [joinL_bit, List.any_eq_false]
  intro x hx
  rw [Nat.testBit_lt_two_pow (Nat.lt_of_lt_of_le (h x hx) (Nat.pow_le_pow_right (by decide) hi))]
  simp
theorem joinL_take {l : List Nat} {k : Nat} (h : k < l.length) : joinL (l.take (k + 1)) = joinL (l.take k) ||| l[k] := by
  unfold joinL
  rw [List.take_succ_eq_append_getElem h, List.foldl_append]; rfl
/-- Is all of one set in another one? -/
def subB (a b : Nat) : Bool := decide (a &&& (18446744073709551615 - b) = 0)
theorem subB_iff {a b : Nat} (ha : a < 18446744073709551616) (hb : b < 18446744073709551616) : subB a b = true ↔ ∀ i, a.testBit i = true → b.testBit i = true := by
  unfold subB
  rw [decide_eq_true_iff]
  have hc : ∀ i, (18446744073709551615 - b).testBit i = (decide (i < 64) && !b.testBit i) := by
    intro i
    have := Nat.testBit_two_pow_sub_succ (n := 64) (x := b) hb i
    rw [show 2 ^ 64 - (b + 1) = 18446744073709551615 - b by omega] at this
    exact this
  constructor
  · intro h i hi
    have hi64 : i < 64 := by
      rcases Nat.lt_or_ge i 64 with h | h
      · exact h
      · rw [Nat.testBit_lt_two_pow (Nat.lt_of_lt_of_le (show a < 2 ^ 64 from ha) (Nat.pow_le_pow_right (by decide) h))] at hi; cases hi
    have := congrArg (fun y => y.testBit i) h
    simp only [Nat.testBit_and, hc, hi, decide_eq_true hi64, Nat.zero_testBit, Bool.true_and] at this
    simpa using this
  · intro h
    refine Nat.eq_of_testBit_eq (fun i => ?_)
    rw [Nat.testBit_and, hc, Nat.zero_testBit]
    by_cases hi : a.testBit i = true
    · rw [h i hi]; simp
    · simp [hi]
theorem pow_le_64 {n : Nat} (h : n ≤ 64) : 2 ^ n ≤ 18446744073709551616 := Nat.le_trans (Nat.pow_le_pow_right (by decide) h) (by decide)
/-- Rows that may be are of its nodes. -/
theorem sub_nodes {l : List Nat} {n : Nat} (hn : n ≤ 64) (h : ∀ x ∈ l, x < 2 ^ n) : subB (joinL l) (2 ^ n - 1) = true := by
  have hp := pow_le_64 hn
  have hj := joinL_lt h
  rw [subB_iff (by omega) (by have := Nat.two_pow_pos n; omega)]
  intro i hi
  rw [Nat.testBit_two_pow_sub_one]
  refine decide_eq_true ?_
  rcases Nat.lt_or_ge i n with h | h
  · exact h
  · rw [Nat.testBit_lt_two_pow (Nat.lt_of_lt_of_le hj (Nat.pow_le_pow_right (by decide) h))] at hi; cases hi

theorem listB_setB {p : Nat → Bool} {n : Nat} (hn : n ≤ 64) : listB (setB p n) = (List.range n).filter p := by
  unfold listB
  obtain ⟨m, hm⟩ := Nat.le.dest hn
  rw [← hm, List.range_add, List.filter_append]
  have h1 : (List.range n).filter (fun i => (setB p n).testBit i) = (List.range n).filter p := List.filter_congr fun i hi => by
    have : i < n := by simpa using hi
    rw [testBit_setB]; simp [this]
  have h2 : ((List.range m).map (n + ·)).filter (fun i => (setB p n).testBit i) = [] := by
    rw [List.filter_eq_nil_iff]
    intro i hi
    obtain ⟨k, _, rfl⟩ := List.mem_map.1 hi
    rw [testBit_setB]; simp; intro h; omega
  rw [h1, h2, List.append_nil]

/-- One edge. -/
def oneE (a b : Nat) : Edges := fun x y => decide (x = a) && decide (y = b)
def noE : Edges := fun _ _ => false
theorem rowsG_no (n : Nat) : rowsG n noE = List.replicate n 0 := by
  refine List.ext_getElem (by simp [rowsG_length]) fun a h1 h2 => ?_
  have ha : a < n := by rw [rowsG_length] at h1; exact h1
  rw [rowsG_at ha, List.getElem_replicate]
  refine Nat.eq_of_testBit_eq (fun i => ?_)
  rw [testBit_setB]; simp [noE]
theorem rowsG_get {n : Nat} {E : Edges} {a : Nat} (h : a < (rowsG n E).length) : (rowsG n E)[a] = setB (E a) n := rowsG_at (by rw [rowsG_length] at h; exact h)
/-- A row with a number more. -/
theorem setB_with {p : Nat → Bool} {n b : Nat} (hb : b < n) (hn : n ≤ 64) : withB (setB p n) (b : Int) = setB (fun y => p y || decide (y = b)) n := by
  refine setB_eq ?_ (fun i hi => ?_)
  · refine Nat.lt_pow_two_of_testBit _ (fun i hi => ?_)
    rw [withB_bit _ (by omega), testBit_setB]
    simp; omega
  · rw [withB_bit _ (by omega), testBit_setB]
    have : decide (b = i) = decide (i = b) := by simp [eq_comm]
    simp [hi, this]
theorem rowsG_add {n : Nat} {E : Edges} {a b : Nat} (ha : a < n) (hb : b < n) (hn : n ≤ 64) : (rowsG n E).set a (withB ((rowsG n E)[a]'(by rw [rowsG_length]; exact ha)) (b : Int)) = rowsG n (orE E (oneE a b)) := by
  generalize e2 : (rowsG n E)[a]'(by rw [rowsG_length]; exact ha) = v
  rw [rowsG_at ha] at e2
  subst e2
  refine List.ext_getElem (by simp [rowsG_length]) fun x h1 h2 => ?_
  have hx : x < n := by rw [rowsG_length] at h2; exact h2
  have e1 : (rowsG n (orE E (oneE a b)))[x]'h2 = setB (orE E (oneE a b) x) n := rowsG_at hx
  have e3 : (rowsG n E)[x]'(by rw [rowsG_length]; exact hx) = setB (E x) n := rowsG_at hx
  rw [List.getElem_set, e1]
  split
  · rename_i e
    subst e
    rw [setB_with hb hn]
    exact setB_congr fun y hy => by simp [orE, oneE]
  · rename_i e
    rw [e3]
    exact setB_congr fun y hy => by
      have : decide (x = a) = false := by simp; omega
      simp [orE, oneE, this]
theorem joinL_two (a b : Nat) : joinL [a, b] = a ||| b := by unfold joinL; simp
theorem setB_or {p q : Nat → Bool} {n : Nat} : setB p n ||| setB q n = setB (fun y => p y || q y) n := by
  refine setB_eq (Nat.or_lt_two_pow (setB_lt _ _) (setB_lt _ _)) (fun i hi => ?_)
  rw [Nat.testBit_or, testBit_setB, testBit_setB]; simp [hi]
/-- All edges of a graph. -/
def edgesG (n : Nat) (E : Edges) : List (Nat × Nat) := ((List.range n).map fun a => ((List.range n).filter (E a)).map fun b => (a, b)).flatten
theorem edgesG_mem {n : Nat} {E : Edges} {a b : Nat} : (a, b) ∈ edgesG n E ↔ a < n ∧ b < n ∧ E a b = true := by
  unfold edgesG
  rw [List.mem_flatten]
  constructor
  · rintro ⟨l, hl, h⟩
    obtain ⟨x, hx, rfl⟩ := List.mem_map.1 hl
    obtain ⟨y, hy, e⟩ := List.mem_map.1 h
    injection e with e1 e2
    subst e1 e2
    rw [List.mem_filter] at hy
    exact ⟨by simpa using hx, by simpa using hy.1, hy.2⟩
  · rintro ⟨ha, hb, he⟩
    exact ⟨_, List.mem_map.2 ⟨a, by simpa using ha, rfl⟩, List.mem_map.2 ⟨b, List.mem_filter.2 ⟨by simpa using hb, he⟩, rfl⟩⟩
/-- The edges of a row of edges. -/
def ofL (l : List (Nat × Nat)) : Edges := fun a b => l.contains (a, b)
theorem ofL_snoc (l : List (Nat × Nat)) (a b : Nat) : ofL (l ++ [(a, b)]) = orE (ofL l) (oneE a b) := by
  funext x y
  unfold ofL orE oneE
  rw [Bool.eq_iff_iff]
  simp
end Go.Inq

namespace Go.Inq
open Go Go.RowKit

def encU (n : Nat) : List Value := [.int .u64 n]
/-- A slice of sets of bits. -/
def U64S (w : World) (K : Nat → Prop) (v : Value) (l : List Nat) : Prop := SlR 1 (Flat encU) w K v l
section
variable {w w' : World} {K K' : Nat → Prop} {v : Value} {l : List Nat}
theorem U64S.keep (h : U64S w K v l) (ha : Agree K w w') (hk : ∀ b, K b → K' b) : U64S w' K' v l := SlR.keep (Flat.stab _) h ha hk
theorem U64S.below (h : U64S w (Old w) v l) (hb : Below w.heap.size w w') : U64S w' (Old w') v l := SlR.below (Flat.stab _) h hb
theorem U64S.fit (h : U64S w K v l) (hk : ∀ b, K b → K' b) : U64S w K' v l := SlR.fit (Flat.stab _) h hk
theorem U64S.at_ {A : Option Addr} {n c : Nat} (h : U64S w K (.slice A n c) l) {i : Nat} (hi : i < l.length) : ∃ b off, A = some ⟨b, off, none⟩ ∧ K b ∧ w.cell? ⟨b, off + i, none⟩ = some (.int .u64 (l[i] : Nat)) := by
  obtain ⟨b, off, cs, hA, hK, _, hR, hc⟩ := SlR.at_ h hi
  unfold Flat at hR
  subst hR
  have := hc 0 _ rfl
  rw [Nat.mul_one, Nat.add_zero] at this
  exact ⟨b, off, hA, hK, this⟩
theorem U64S.cells {b off n c : Nat} (h : U64S w K (.slice (some ⟨b, off, none⟩) n c) l) {i : Nat} (hi : i < l.length) : K b ∧ w.cell? ⟨b, off + i, none⟩ = some (.int .u64 (l[i] : Nat)) := by
  obtain ⟨cs, hK, _, hR, hc⟩ := SlR.cells h hi
  unfold Flat at hR
  subst hR
  have := hc 0 _ rfl
  rw [Nat.mul_one, Nat.add_zero] at this
  exact ⟨hK, this⟩
theorem U64S.nil (w : World) (K : Nat → Prop) (A : Option Addr) (c : Nat) : U64S w K (.slice A 0 c) [] := SlR.nil _ _ _ _ _ _
/-- A block of sets, whole. -/
theorem U64S.of_blk {g : Nat} {t : TypeId} (h : Blk w g t (l.map fun x : Nat => Value.int .u64 x).toArray) (hK : K g) : U64S w K (.slice (some ⟨g, 0, none⟩) l.length l.length) l := by
  refine ⟨some ⟨g, 0, none⟩, l.length, l.map encU, rfl, Nat.le_refl _, by simp, fun i cs x h1 h2 => ?_, fun _ => ⟨g, 0, rfl, hK, fun i j cs u h1 h2 => ?_⟩⟩
  · rw [List.getElem?_map, h2] at h1
    injection h1 with h1
    exact ⟨by rw [← h1]; rfl, h1.symm⟩
  · rw [List.getElem?_map] at h1
    cases hl : l[i]? with
    | none => rw [hl] at h1; cases h1
    | some x =>
      rw [hl] at h1
      injection h1 with h1
      subst h1
      cases j with
      | zero =>
        injection h2 with h2
        rw [Nat.zero_add, Nat.mul_one, Nat.add_zero, h.cell, List.getElem?_toArray, List.getElem?_map, hl, ← h2]
        rfl
      | succ j => simp [encU] at h2
end

/-- A graph of n nodes. -/
structure GrS (w : World) (K : Nat → Prop) (n : Nat) (A : Option Addr) (c : Nat) (E : Edges) : Prop where
  sl : U64S w K (.slice A n c) (rowsG n E)
  n64 : n ≤ 64
/-- A graph's rows, as a block of its own. -/
def rowsB (n : Nat) (E : Edges) : Array Value := ((rowsG n E).map fun x : Nat => Value.int .u64 x).toArray
theorem rowsB_at {n : Nat} {E : Edges} {a : Nat} (h : a < n) : (rowsB n E)[a]? = some (.int .u64 (setB (E a) n : Nat)) := by
  unfold rowsB
  rw [List.getElem?_toArray, List.getElem?_map, List.getElem?_eq_getElem (by rw [rowsG_length]; exact h), rowsG_at h]; rfl
theorem rowsB_add {n : Nat} {E : Edges} {a b : Nat} (ha : a < n) (hb : b < n) (hn : n ≤ 64) : (rowsB n E).setIfInBounds a (.int .u64 (withB (setB (E a) n) (b : Int) : Nat)) = rowsB n (orE E (oneE a b)) := by
  unfold rowsB
  rw [← rowsG_add ha hb hn, List.setIfInBounds_toArray, List.map_set, rowsG_at ha]
theorem rowsB_set {n : Nat} {E : Edges} {a x : Nat} {p : Nat → Bool} (ha : a < n) (hx : x = setB p n) : (rowsB n E).setIfInBounds a (.int .u64 (x : Nat)) = rowsB n (fun i => if i = a then p else E i) := by
  unfold rowsB
  rw [List.setIfInBounds_toArray]
  congr 1
  refine List.ext_getElem (by simp [rowsG_length]) fun i h1 h2 => ?_
  have hi : i < n := by simpa [rowsG_length] using h2
  rw [List.getElem_set, List.getElem_map, List.getElem_map, rowsG_at hi, rowsG_at hi]
  by_cases e : a = i
  · subst e; rw [if_pos rfl, if_pos rfl, hx]
  · rw [if_neg e, if_neg (fun h => e h.symm)]
theorem rowsB_no (n : Nat) : rowsB n noE = madeCells #[.int .u64 0] n := by
  unfold rowsB
  rw [rowsG_no]
  refine Array.ext (by simp [size_madeCells]) fun i h1 h2 => ?_
  simp [madeCells, Nat.mod_one]
theorem rowsB_congr {n : Nat} {E F : Edges} (h : ∀ a b, a < n → b < n → E a b = F a b) : rowsB n E = rowsB n F := by unfold rowsB; rw [rowsG_congr h]
section
variable {w w' : World} {K K' : Nat → Prop} {n c : Nat} {A : Option Addr} {E F : Edges}
theorem GrS.keep (h : GrS w K n A c E) (ha : Agree K w w') (hk : ∀ b, K b → K' b) : GrS w' K' n A c E := ⟨h.sl.keep ha hk, h.n64⟩
theorem GrS.below (h : GrS w (Old w) n A c E) (hb : Below w.heap.size w w') : GrS w' (Old w') n A c E := ⟨h.sl.below hb, h.n64⟩
theorem GrS.fit (h : GrS w K n A c E) (hk : ∀ b, K b → K' b) : GrS w K' n A c E := ⟨h.sl.fit hk, h.n64⟩
theorem GrS.at_ (h : GrS w K n A c E) {i : Nat} (hi : i < n) : ∃ b off, A = some ⟨b, off, none⟩ ∧ K b ∧ w.cell? ⟨b, off + i, none⟩ = some (.int .u64 (setB (E i) n : Nat)) := by
  obtain ⟨b, off, hA, hK, hc⟩ := h.sl.at_ (i := i) (by rw [rowsG_length]; exact hi)
  rw [rowsG_at hi] at hc
  exact ⟨b, off, hA, hK, hc⟩
theorem GrS.cells {b off : Nat} (h : GrS w K n (some ⟨b, off, none⟩) c E) {i : Nat} (hi : i < n) : K b ∧ w.cell? ⟨b, off + i, none⟩ = some (.int .u64 (setB (E i) n : Nat)) := by
  obtain ⟨b', off', hA, hK, hc⟩ := h.at_ hi
  injection hA with hA; injection hA with h1 h2; subst h1 h2
  exact ⟨hK, hc⟩
theorem GrS.of_blk {g : Nat} {t : TypeId} (h : Blk w g t (rowsB n E)) (hK : K g) (hn : n ≤ 64) : GrS w K n (some ⟨g, 0, none⟩) n E := by
  have := U64S.of_blk (l := rowsG n E) h hK
  rw [rowsG_length] at this
  exact ⟨this, hn⟩
theorem GrS.congr (h : GrS w K n A c E) (hE : ∀ a b, a < n → b < n → E a b = F a b) : GrS w K n A c F := ⟨by rw [← rowsG_congr hE]; exact h.sl, h.n64⟩
theorem GrS.zero (w : World) (K : Nat → Prop) (A : Option Addr) (c : Nat) (E : Edges) : GrS w K 0 A c E := ⟨by simpa [rowsG] using U64S.nil w K A c, by omega⟩
end
theorem setB_64 {p : Nat → Bool} {n : Nat} (h : n ≤ 64) : setB p n < 18446744073709551616 := Nat.lt_of_lt_of_le (setB_lt p n) (pow_le_64 h)
/-- What makes a graph tells: a block of its own, and that it may be. -/
def NewG (t : TypeId) (w : World) (n : Nat) (E : Edges) (e : Ending) (w' : World) : Prop :=
  ∃ g, w.heap.size ≤ g ∧ e = .returned (.tuple #[.agg #[.int .i64 n, .slice (some ⟨g, 0, none⟩) n n], .int .i64 0]) ∧ Blk w' g t (rowsB n E) ∧ Below w.heap.size w w'
theorem NewG.congr {t : TypeId} {w w' : World} {n : Nat} {E F : Edges} {e : Ending} (h : NewG t w n E e w') (hE : ∀ a b, a < n → b < n → E a b = F a b) : NewG t w n F e w' := by
  unfold NewG at h ⊢
  rw [← rowsB_congr hE]; exact h
end Go.Inq

namespace Go.Proofs.Ytfhnamomiaekdaa
open Go.RowKit Go.Inq
set_option maxHeartbeats 1000000
attribute [local go_sem ↓] Go.wp_at_zero Go.wp_at_succ

end Go.Proofs.Ytfhnamomiaekdaa

namespace Go.Proofs.Ytfhnamomiaekdaa
open Go.RowKit Go.Inq
set_option maxHeartbeats 1000000
attribute [local go_sem ↓] Go.wp_at_zero Go.wp_at_succ

/-- The library's table lies in its variable. -/
def TabB (w : World) : Prop := ∀ j, j < Lib.deBruijn64tab.length → w.cell? ⟨0, j, none⟩ = some (.int .u8 (Lib.deBruijn64tab.getD j 0))
theorem TabB.lt {w : World} (h : TabB w) : 0 < w.heap.size := by
  have := h 0 (by decide)
  rcases Nat.lt_or_ge 0 w.heap.size with g | g
  · exact g
  · unfold World.cell? at this; simp [Array.getElem?_eq_none g] at this
theorem TabB.below {w w' : World} (h : TabB w) (hb : Below w.heap.size w w') : TabB w' := fun j hj => (hb.cell (p := ⟨0, j, none⟩) h.lt).trans (h j hj)
theorem TabB.below' {w w' : World} {B : Nat} (h : TabB w) (hb : Below B w w') (hB : 0 < B) : TabB w' := fun j hj => (hb.cell (p := ⟨0, j, none⟩) hB).trans (h j hj)
theorem TabB.drewN {w : World} (h : TabB w) (n : Nat) : TabB (w.drewN n) := h
theorem tz_key (x a : Nat) (hx : x < 18446744073709551616) (hx0 : x ≠ 0) (hlow : x &&& (18446744073709551616 - x) = a) :
    IntKind.u64.wrap (bits BinOp.and IntKind.u64 (x : Int) (IntKind.u64.wrap (-(x : Int))) * 285870213051353865) / 288230376151711744 = ((a * 285870213051353865 % 18446744073709551616 / 288230376151711744 : Nat) : Int) := by
  have e1 : IntKind.u64.wrap (-(x : Int)) = ((18446744073709551616 - x : Nat) : Int) := by rw [IntKind.wrap_u64]; omega
  rw [e1, u64_and_nat x _ hx (by omega), hlow, IntKind.wrap_u64]
  omega
end Go.Proofs.Ytfhnamomiaekdaa

namespace Go.Inq
open Go Go.RowKit

theorem below_grown {B : Nat} {w0 w w' : World} {row : Option Nat} (hb : Below B w0 w) (hg : w.grownBy w' row) (hB : B ≤ w.heap.size) (hr : ∀ k, row = some k → B ≤ k) : Below B w0 w' :=
  hb.trans ⟨hg.os, hg.tape, hg.output, hg.size, fun k hk => hg.block k (Nat.lt_of_lt_of_le hk hB) (fun e => by have := hr k e.symm; omega)⟩

/-- append(s, x), the element a block that was just made. -/
theorem wpList_push {P : Program} {W : World} {ops : Array Oper} {rest : List Oper} {o : Oper} {a : Act} {Q : Exit → Act → World → Prop} {α : Type} {enc : α → List Value}
    (hgd : o.guard = none) (s x : Operand) (t : TypeId) (ho : o.op = .call { callee := .builtin .append, args := #[s, x], argTypes := #[t, t] })
    (base : Nat) (e : TypeId) (i : TypeInfo) (z : Value) (size bytes : Nat) (ht : P.underlying t = some (.slice e)) (hi : P.info? e = some i) (hz : i.zero = some z)
    (hsize : i.size = size) (hby : i.bytes = bytes) (hzs : z.cells.size = size) (hsz : 0 < size)
    (v : Value) (l : List α) (hs : a.eval s = v) (hown : W.ownsRow base e size v l.length (l.map enc).flatten) (hen : ∀ x, (enc x).length = size)
    (x0 : α) (cs : Array Value) (hcs : cs.toList = enc x0) (hx : a.eval x = .slice (some ⟨W.heap.size, 0, none⟩) 1 1)
    (h1 : ∀ x, ∀ u ∈ enc x, u.oneCell' = true) (h63 : l.length + 1 ≤ maxLen) (hbytes : (l.length + 1) * bytes ≤ 140737488355328) (hbase : base ≤ W.heap.size)
    (w0 : World) (B : Nat) (hB : B ≤ base) (hb : Below B w0 W)
    (h : ∀ v' w', w'.ownsRow base e size v' (l ++ [x0]).length ((l ++ [x0]).map enc).flatten → (W.alloc (.cells cs e)).grownBy w' v.ownBlock → Below B w0 w' → (v'.ownBlock = v.ownBlock ∨ v'.ownBlock = some (W.heap.size + 1)) → wpList P ops Q rest (a.put o.dst v') w') :
    wpList P ops Q (o :: rest) a (W.alloc (.cells cs e)) := by
  have hk : Blk (W.alloc (.cells cs e)) W.heap.size e cs := Blk.new _ _ _
  have hl : cs.size = size := by rw [← Array.length_toList, hcs, hen]
  refine wpList_append_flat (enc := enc) hgd s x t ho base e i z size bytes ht hi hz hsize hby hzs hsz v (fun _ => True) l hs (hown.alloc _) hen _ [x0] hx (SlR.one hk hl (by unfold Flat; exact hcs) trivial) h1 h63 hbytes (by simp; omega) ?_
  intro v' w' g1 g2 g3
  refine h v' w' g1 g2 (below_grown (hb.alloc (by omega) _) g2 (by simp; omega) ?_) (by simpa using g3)
  intro k hk
  have := (hown.lt k hk).1
  omega
end Go.Inq

namespace Go.Proofs.Ytfhnamomiaekdaa
open Go.RowKit Go.Inq
set_option maxHeartbeats 1000000
attribute [local go_sem ↓] Go.wp_at_zero Go.wp_at_succ

def intsN (l : List Nat) : List Int := l.map fun (n : Nat) => (n : Int)
theorem intsN_snoc (l : List Nat) (x : Nat) : intsN (l ++ [x]) = intsN l ++ [(x : Int)] := by simp [intsN]
theorem intsN_len (l : List Nat) : (intsN l).length = l.length := by simp [intsN]
theorem intsN_at {l : List Nat} {i : Nat} (h : i < l.length) : (intsN l)[i]'(by rw [intsN_len]; exact h) = (l[i] : Int) := by simp [intsN]
theorem infoI10 : (Try.prog.info? 3).map (fun i => (i.zero, i.size, i.bytes)) = some (some (.int .i64 0), 1, 8) := by kernel_rfl
/-- A row of numbers of the call's own. -/
def OwnI (w : World) (base : Nat) (v : Value) (l : List Int) : Prop := w.ownsRow base 3 1 v l.length (l.map Go.Inq.encI).flatten
/-- What a call tells, where it is such a row. -/
def OutI (w : World) (l : List Int) (e : Ending) (w' : World) : Prop := ∃ v, e = .returned v ∧ OwnI w' w.heap.size v l ∧ Below w.heap.size w w'
theorem OwnI.form {w : World} {base : Nat} {v : Value} {l : List Int} (h : OwnI w base v l) : ∃ A c, v = .slice A l.length c := own_slice h
theorem OwnI.sl {w : World} {base : Nat} {v : Value} {l : List Int} (h : OwnI w base v l) {K : Nat → Prop} (hK : ∀ g, base ≤ g → g < w.heap.size → K g) : IntS w K v l := SlR.of_flat h rfl (fun _ => rfl) hK
theorem OwnI.nil (w : World) (base : Nat) : OwnI w base (.slice none 0 0) [] := World.ownsRow_nil _ _ _ _
/-- Below 2 to the power of 64. -/
def B64 (n : Nat) : Prop := n < 18446744073709551616
def restL (s y : Nat) (l : List Nat) : Prop := l ++ listB y = listB s
theorem restL_next {s y : Nat} {l : List Nat} (h : restL s y l) (h0 : y ≠ 0) (hy : y < 18446744073709551616) : restL s (y &&& (y - 1)) (l ++ [Lib.ctz 64 y]) := by
  unfold restL at h ⊢
  rw [← h, listB_next y h0 hy]; simp
end Go.Proofs.Ytfhnamomiaekdaa

namespace Go.Proofs.Ytfhnamomiaekdaa
open Go.RowKit Go.Inq

/-- The keys below one that are written. -/
def keysTo (H : List Txn) (k : Nat) : List Int := ((List.range k).filter fun (x : Nat) => decide (wrsL H (x : Int) ≠ [])).map fun (x : Nat) => (x : Int)
theorem keysTo_zero (H : List Txn) : keysTo H 0 = [] := rfl
theorem keysTo_skip {H : List Txn} {k : Nat} (h : wrsL H (k : Int) = []) : keysTo H (k + 1) = keysTo H k := by
  unfold keysTo; rw [List.range_succ, List.filter_append, List.map_append]; simp [h]
theorem keysTo_next {H : List Txn} {k : Nat} (h : wrsL H (k : Int) ≠ []) : keysTo H (k + 1) = keysTo H k ++ [(k : Int)] := by
  unfold keysTo; rw [List.range_succ, List.filter_append, List.map_append]; simp [h]
theorem keysTo_len (H : List Txn) (k : Nat) : (keysTo H k).length ≤ k := by
  unfold keysTo; rw [List.length_map]; exact Nat.le_trans (List.length_filter_le _ _) (by simp)
theorem keysTo_all {H : List Txn} (hr : rightH H = true) : keysTo H 16 = keysL H := by
  rw [keysL_16 fun t ht k hk => ?_]
  · rfl
  · obtain ⟨i, hi, rfl⟩ := List.getElem_of_mem ht
    exact (((rightH_iff H).1 hr).2 i hi).wkey k hk
theorem keysTo_pre {H : List Txn} {k m : Nat} (h : k ≤ m) : keysTo H k <+: keysTo H m := by
  obtain ⟨d, rfl⟩ := Nat.le.dest h
  unfold keysTo
  rw [List.range_add, List.filter_append, List.map_append]
  exact List.prefix_append _ _
def rowOk (H : List Txn) (r : SRow) : Bool := decide (sortI r.l = natI (wrsL H r.key))
/-- Rows gone through, up to a key. -/
structure RtI (H : List Txn) (R : List SRow) (k n : Nat) : Prop where
  le : n ≤ R.length
  n16 : n ≤ k
  keys : (R.take n).map (·.key) = keysTo H k
  ok : ∀ r ∈ R.take n, rowOk H r = true
theorem RtI.start (H : List Txn) (R : List SRow) : RtI H R 0 0 := ⟨Nat.zero_le _, Nat.le_refl _, rfl, fun r h => by simp at h⟩
theorem RtI.len {H : List Txn} {R : List SRow} {k n : Nat} (h : RtI H R k n) : (keysTo H k).length = n := by rw [← h.keys, List.length_map, List.length_take]; have := h.le; omega
theorem RtI.skip {H : List Txn} {R : List SRow} {k n : Nat} (h : RtI H R k n) (hw : wrsL H (k : Int) = []) : RtI H R (k + 1) n := ⟨h.le, by have := h.n16; omega, by rw [keysTo_skip hw]; exact h.keys, h.ok⟩
theorem RtI.next {H : List Txn} {R : List SRow} {k n : Nat} (h : RtI H R k n) (hw : wrsL H (k : Int) ≠ []) (hn : n < R.length) (hk : R[n].key = (k : Int)) (ho : sortI R[n].l = intsN (wrsL H (k : Int))) : RtI H R (k + 1) (n + 1) := by
  refine ⟨hn, by have := h.n16; omega, ?_, fun r hr => ?_⟩
  · rw [List.take_succ_eq_append_getElem hn, List.map_append, h.keys, keysTo_next hw, List.map_cons, hk]; rfl
  · rw [List.take_succ_eq_append_getElem hn, List.mem_append, List.mem_singleton] at hr
    rcases hr with hr | rfl
    · exact h.ok r hr
    · unfold rowOk; rw [hk]; exact decide_eq_true ho
theorem rightS_bad {H : List Txn} {R : List SRow} (h : OkS H R → False) : rightS H R = false := by
  rw [Bool.eq_false_iff]; intro h2; exact h ((okS_iff H R).1 h2)
theorem RtI.at_ {H : List Txn} {R : List SRow} {k n : Nat} (h : RtI H R k n) (hk : k < 16) (hw : wrsL H (k : Int) ≠ []) (ho : OkS H R) : ∃ hn : n < R.length, R[n].key = (k : Int) := by
  have hp : keysTo H k ++ [(k : Int)] <+: keysL H := by rw [← keysTo_next hw, ← keysTo_all ho.right]; exact keysTo_pre (by omega)
  rw [← ho.keys] at hp
  have hl := hp.length_le
  simp only [List.length_append, h.len, List.length_map, List.length_singleton] at hl
  refine ⟨by omega, ?_⟩
  have he := hp.getElem (i := n) (by simp [h.len])
  rw [List.getElem_map, List.getElem_append_right (by rw [h.len]; exact Nat.le_refl _)] at he
  simp only [h.len, Nat.sub_self, List.getElem_cons_zero] at he
  exact he.symm
theorem RtI.few {H : List Txn} {R : List SRow} {k n : Nat} (h : RtI H R k n) (hk : k < 16) (hw : wrsL H (k : Int) ≠ []) (hn : n = R.length) : rightS H R = false :=
  rightS_bad fun ho => by obtain ⟨h1, _⟩ := h.at_ hk hw ho; omega
theorem RtI.key {H : List Txn} {R : List SRow} {k n : Nat} (h : RtI H R k n) (hk : k < 16) (hw : wrsL H (k : Int) ≠ []) (hn : n < R.length) (he : R[n].key ≠ (k : Int)) : rightS H R = false :=
  rightS_bad fun ho => by obtain ⟨_, h1⟩ := h.at_ hk hw ho; exact he h1
theorem RtI.row {H : List Txn} {R : List SRow} {k n : Nat} (h : RtI H R k n) (hk : k < 16) (hw : wrsL H (k : Int) ≠ []) (hn : n < R.length) (he : sortI R[n].l ≠ intsN (wrsL H (k : Int))) : rightS H R = false :=
  rightS_bad fun ho => by
    obtain ⟨_, h1⟩ := h.at_ hk hw ho
    have h2 := sort_iff.2 (ho.perm R[n] (List.getElem_mem hn))
    rw [h1] at h2
    exact he h2
theorem RtI.done {H : List Txn} {R : List SRow} {n : Nat} (h : RtI H R 16 n) (hr : rightH H = true) : rightS H R = decide (n = R.length) := by
  rw [Bool.eq_iff_iff, decide_eq_true_eq, okS_iff]
  constructor
  · intro ho
    have h1 := h.len
    rw [keysTo_all hr, ← ho.keys, List.length_map] at h1
    exact h1.symm
  · intro hn
    have hk := h.keys
    have ho := h.ok
    rw [hn, List.take_length] at hk ho
    rw [keysTo_all hr] at hk
    exact ⟨hr, hk, fun r hm => sort_iff.1 (of_decide_eq_true (ho r hm))⟩
theorem rightS_no {H : List Txn} {R : List SRow} (hr : rightH H = false) : rightS H R = false := rightS_bad fun ho => by rw [ho.right] at hr; cases hr
end Go.Proofs.Ytfhnamomiaekdaa

namespace Go.Proofs.Ytfhnamomiaekdaa
open Go.RowKit Go.Inq

theorem perm_by {f : Int → Int} : ∀ {a b : List Int}, a.Pairwise (fun x y => ¬ f y < f x) → b.Pairwise (fun x y => ¬ f y < f x) → (∀ x ∈ a, ∀ y ∈ a, f x = f y → x = y) → a.Perm b → a = b
  | [], b, _, _, _, h => by rw [h.nil_eq]
  | x :: a, [], _, _, _, h => by have := h.length_eq; simp at this
  | x :: a, y :: b, ha, hb, hf, h => by
    rw [List.pairwise_cons] at ha hb
    have hx : x ∈ y :: b := h.mem_iff.1 (by simp)
    have hy : y ∈ x :: a := h.mem_iff.2 (by simp)
    have hxy : x = y := by
      have hx' := hx
      have hy' := hy
      rw [List.mem_cons] at hx hy
      rcases hx with rfl | hx
      · rfl
      · rcases hy with rfl | hy
        · rfl
        · have h1 := hb.1 x hx
          have h2 := ha.1 y hy
          exact hf x (by simp) y hy' (by omega)
    subst hxy
    rw [perm_by ha.2 hb.2 (fun u hu v hv e => hf u (by simp [hu]) v (by simp [hv]) e) ((List.perm_cons x).1 h)]
theorem perm_pw {π : List Int} {n : Nat} (hp : permB π n = true) : π.Pairwise fun x y => ¬ idxI π y < idxI π x := by
  rw [List.pairwise_iff_getElem]
  intro i j hi hj hij
  rw [idxI_idxOf (List.getElem_mem hj), idxI_idxOf (List.getElem_mem hi), perm_idx hp hi, perm_idx hp hj]
  omega
/-- Writers in the order's order are the order's row. -/
theorem rowS_sorted {H : List Txn} {π l : List Int} {k : Int} (hp : permB π H.length = true) (h1 : l.Perm (intsN (wrsL H k))) (h2 : l.Pairwise fun x y => idxI π x ≤ idxI π y) : l = (rowS H π k).l := by
  replace h2 : l.Pairwise fun x y => ¬ idxI π y < idxI π x := h2.imp fun h => by omega
  have hpm := h1.trans (rowS_perm hp k).symm
  refine perm_by h2 ((perm_pw hp).sublist List.filter_sublist) (fun x hx y hy e => ?_) hpm
  have gx := (List.mem_filter.1 (hpm.mem_iff.1 hx)).1
  have gy := (List.mem_filter.1 (hpm.mem_iff.1 hy)).1
  rw [idxI_idxOf gx, idxI_idxOf gy] at e
  have e1 := List.getElem_idxOf (List.idxOf_lt_length_of_mem gx)
  have e2 := List.getElem_idxOf (List.idxOf_lt_length_of_mem gy)
  have : π[π.idxOf x]'(List.idxOf_lt_length_of_mem gx) = π[π.idxOf y]'(List.idxOf_lt_length_of_mem gy) := by simp only [show π.idxOf x = π.idxOf y by omega]
  rw [e1, e2] at this
  exact this
/-- An order, put in order, is all numbers from 0 on. -/
theorem permB_sort {π : List Int} {n : Nat} (hn : π.length = n) : permB π n = decide (sortI π = natI (List.range n)) := by
  rw [Bool.eq_iff_iff, decide_eq_true_eq]
  constructor
  · intro hp
    refine rise_perm (sortI_rise _) (natI_rise List.pairwise_lt_range) ((sortI_perm π).trans ?_)
    refine (List.perm_ext_iff_of_nodup (perm_nodup hp) (natI_nodup List.pairwise_lt_range)).2 fun x => ?_
    rw [natI_mem]
    constructor
    · intro hx
      obtain ⟨i, hi, e⟩ := List.getElem_of_mem hx
      have := perm_bd hp hi
      exact ⟨x.toNat, List.mem_range.2 (by omega), by omega⟩
    · rintro ⟨m, hm, rfl⟩
      exact perm_has hp (List.mem_range.1 hm)
  · intro he
    have hp : π.Perm (natI (List.range n)) := by rw [← he]; exact (sortI_perm π).symm
    unfold permB
    rw [decide_eq_true hn, Bool.true_and, List.all_eq_true]
    intro i hi
    exact List.contains_iff_mem.2 (hp.mem_iff.2 (natI_mem.2 ⟨i, hi, rfl⟩))
theorem sort_at {Q : List Int} {n k : Nat} (h : Q = natI (List.range n)) (hk : k < Q.length) : Q[k] = (k : Int) := by
  subst h
  simp [natI]
theorem sort_all {Q : List Int} (h : ∀ k (hk : k < Q.length), Q[k] = (k : Int)) : Q = natI (List.range Q.length) := by
  refine List.ext_getElem (by simp [natI]) fun i h1 h2 => ?_
  rw [h i h1]
  simp [natI]
def rowsTo (H : List Txn) (π : List Int) (k : Nat) : List SRow := (keysTo H k).map (rowS H π)
theorem rowsTo_skip {H : List Txn} {π : List Int} {k : Nat} (h : wrsL H (k : Int) = []) : rowsTo H π (k + 1) = rowsTo H π k := by unfold rowsTo; rw [keysTo_skip h]
theorem rowsTo_next {H : List Txn} {π : List Int} {k : Nat} (h : wrsL H (k : Int) ≠ []) : rowsTo H π (k + 1) = rowsTo H π k ++ [rowS H π (k : Int)] := by unfold rowsTo; rw [keysTo_next h, List.map_append]; rfl
theorem rowsTo_len (H : List Txn) (π : List Int) (k : Nat) : (rowsTo H π k).length ≤ k := by unfold rowsTo; rw [List.length_map]; exact keysTo_len H k
theorem rowsTo_all {H : List Txn} {π : List Int} (hr : rightH H = true) (hp : permB π H.length = true) : rowsTo H π 16 = rowsL H π := by unfold rowsTo rowsL; rw [if_pos ⟨hr, hp⟩, keysTo_all hr]
theorem rowsL_no {H : List Txn} {π : List Int} (h : rightH H = false ∨ permB π H.length = false) : rowsL H π = [] := by
  unfold rowsL
  rw [if_neg]
  rintro ⟨h1, h2⟩
  rcases h with h | h
  · rw [h] at h1; cases h1
  · rw [h] at h2; cases h2
theorem permB_len {π : List Int} {n : Nat} (h : π.length ≠ n) : permB π n = false := by unfold permB; rw [decide_eq_false h, Bool.false_and]
end Go.Proofs.Ytfhnamomiaekdaa

namespace Go.Inq
open Go

/-- A computation that, where it yields, leaves the world as it is and yields the same in every world. -/
def Clear {α : Type} (e : Sem α) : Prop := ∀ (P : Program) w v w', e.run P w = .ok v w' → w' = w ∧ ∀ u, e.run P u = .ok v u

section
variable {α β : Type}
theorem Clear.pure (a : α) : Clear (Pure.pure a : Sem α) := fun P w v w' h => by
  simp at h
  obtain ⟨rfl, rfl⟩ := h
  exact ⟨rfl, fun u => by simp⟩
theorem Clear.halt (x : Halt) : Clear (Sem.halt x : Sem α) := fun P w v w' h => by simp [Sem.run] at h
theorem Clear.never {e : Sem α} (h : ∀ (P : Program) w v w', e.run P w ≠ .ok v w') : Clear e := fun P w v w' h' => absurd h' (h P w v w')
theorem Clear.bind {e : Sem α} {f : α → Sem β} (he : Clear e) (hf : ∀ a, Clear (f a)) : Clear (e >>= f) := fun P w v w' h => by
  rw [Sem.run_bind] at h
  cases hr : e.run P w with
  | halt x w1 => rw [hr] at h; simp [Result.andThen] at h
  | ok a w1 =>
    rw [hr] at h
    obtain ⟨rfl, h1⟩ := he P w a w1 hr
    simp only [Result.andThen] at h
    obtain ⟨rfl, h2⟩ := hf a P _ v w' h
    exact ⟨rfl, fun u => by rw [Sem.run_bind, h1 u]; simp only [Result.andThen]; exact h2 u⟩
theorem Clear.program : Clear Go.program := fun P w v w' h => by
  simp [Go.program, Sem.run] at h
  obtain ⟨rfl, rfl⟩ := h
  exact ⟨rfl, fun u => by simp [Go.program, Sem.run]⟩
theorem Clear.bounds (k : IntKind) (x y : Int) (c : BoundsCode) : Clear (boundsPanic k x y c : Sem α) := Clear.never fun P w v w' h => by
  obtain ⟨s, w2, h2⟩ := run_boundsPanic (α := α) (P := P) (w := w) k x y c
  rw [h2] at h
  cases h
theorem Clear.underlying (t : TypeId) : Clear (Go.underlying t) := Clear.bind Clear.program fun p => by
  split
  · exact Clear.pure _
  · exact Clear.halt _
theorem Clear.typeInfo (t : TypeId) : Clear (Go.typeInfo t) := Clear.bind Clear.program fun p => by
  split
  · exact Clear.pure _
  · exact Clear.halt _
theorem Clear.sizeOf (t : TypeId) : Clear (Go.sizeOf t) := Clear.bind (Clear.typeInfo t) fun _ => Clear.pure _
theorem Clear.zeroValue (t : TypeId) : Clear (Go.zeroValue t) := Clear.bind (Clear.typeInfo t) fun _ => by
  split
  · exact Clear.pure _
  · exact Clear.halt _
theorem Clear.nilDeref {α : Type} : Clear (runtimePanic .nilDeref : Sem α) := by
  unfold runtimePanic
  exact Clear.bind Clear.program fun p => Clear.halt _
theorem Clear.sureAddr (v : Value) : Clear (Instr.sureAddr v) := by
  unfold Instr.sureAddr
  split
  · exact Clear.pure _
  · exact Clear.halt _
theorem Clear.asIntOf (v : Value) : Clear (asIntOf v) := by
  unfold Go.asIntOf
  split
  · exact Clear.pure _
  · exact Clear.halt _
  · exact Clear.halt _
theorem Clear.asBool (v : Value) : Clear (asBool v) := by
  unfold Go.asBool
  split
  · exact Clear.pure _
  · exact Clear.halt _
theorem Clear.mapM {γ δ : Type} (f : γ → Sem δ) (hf : ∀ a, Clear (f a)) : ∀ (l : List γ), Clear (l.mapM f)
  | [] => by rw [List.mapM_nil]; exact Clear.pure _
  | a :: l => by
    rw [List.mapM_cons]
    exact Clear.bind (hf a) fun _ => Clear.bind (Clear.mapM f hf l) fun _ => Clear.pure _
theorem Clear.arrayMapM {γ δ : Type} (f : γ → Sem δ) (hf : ∀ a, Clear (f a)) (xs : Array γ) : Clear (xs.mapM f) := by
  obtain ⟨l⟩ := xs
  rw [List.mapM_toArray]
  have h := Clear.mapM f hf l
  intro P w v w' hr
  rw [Sem.run_map] at hr
  cases hl : (l.mapM f).run P w with
  | halt x w1 => rw [hl] at hr; simp [Result.andThen] at hr
  | ok a w1 =>
    rw [hl] at hr
    simp only [Result.andThen] at hr
    obtain ⟨rfl, h1⟩ := h P w a w1 hl
    injection hr with e1 e2
    exact ⟨e2.symm, fun u => by rw [Sem.run_map, h1 u]; simp only [Result.andThen]; rw [e1]⟩
theorem Clear.indexAt (t : TypeId) (x i : Value) : Clear (Instr.indexAt t x i) := by
  unfold Instr.indexAt
  refine Clear.bind (Clear.asIntOf i) fun ki => ?_
  obtain ⟨k, i⟩ := ki
  refine Clear.bind (Clear.underlying t) fun d => ?_
  extract_lets jp
  have hj : ∀ q, Clear (jp q) := by
    rintro ⟨base, len, elem⟩
    refine Clear.bind (Clear.underlying t) fun d2 => ?_
    extract_lets tiny
    split
    · split
      · exact Clear.bind (Clear.sizeOf _) fun _ => Clear.pure _
      · split
        · exact Clear.halt _
        · exact Clear.bounds _ _ _ _
    · exact Clear.bounds _ _ _ _
  split
  · exact Clear.bind (Clear.sureAddr _) fun _ => Clear.bind (Clear.pure _) hj
  · exact Clear.bind (Clear.pure _) hj
  · exact Clear.bind (Clear.halt _) hj
theorem Clear.build (t : TypeId) (parts : Array (Nat × Value)) : Clear (Instr.build t parts) := by
  unfold Instr.build
  refine Clear.bind (Clear.zeroValue t) fun z => ?_
  refine Clear.bind (Clear.underlying t) fun d => ?_
  split
  · refine Clear.bind (Clear.arrayMapM _ (fun f => Clear.bind (Clear.sizeOf _) fun _ => Clear.pure _) _) fun ps => ?_
    split
    · exact Clear.pure _
    · exact Clear.halt _
  · refine Clear.bind (Clear.sizeOf _) fun s => ?_
    split
    · exact Clear.pure _
    · exact Clear.halt _
  · exact Clear.halt _
theorem Clear.extract (v : Value) (i : Nat) : Clear (Instr.extract v i) := by
  unfold Instr.extract
  split
  · split
    · exact Clear.pure _
    · exact Clear.halt _
  · exact Clear.halt _
end

theorem Clear.isAgg (t : TypeId) : Clear (Go.isAgg t) := Clear.bind (Clear.underlying t) fun _ => by
  split
  · exact Clear.pure _
  · exact Clear.pure _
  · exact Clear.pure _
theorem Clear.part (t : TypeId) (cs : Array Value) (i : Nat) : Clear (Go.part t cs i) := by
  unfold Go.part
  refine Clear.bind (Clear.isAgg _) fun b => ?_
  split
  · exact Clear.bind (Clear.sizeOf _) fun _ => Clear.pure _
  · split
    · exact Clear.pure _
    · exact Clear.halt _
theorem Clear.followBlind : ∀ (l : List FieldStep) (t : TypeId) (x : Option Value), Clear (Go.followBlind l t x)
  | [], t, x => Clear.pure _
  | s :: rest, t, x => by
    unfold Go.followBlind
    refine Clear.bind (Clear.underlying _) fun d => ?_
    split
    · split
      · split
        · exact Clear.pure _
        · exact Clear.followBlind rest _ _
        · exact Clear.halt _
        · exact Clear.pure _
        · exact Clear.bind (Clear.part _ _ _) fun _ => Clear.followBlind rest _ _
        · exact Clear.halt _
        · exact Clear.followBlind rest _ _
      · exact Clear.halt _
    · exact Clear.halt _
theorem Clear.nilAhead : ∀ (n : Nat) (t : TypeId) (v : Value) (name : String), Clear (Go.nilAhead n t v name)
  | 0, _, _, _ => Clear.pure _
  | n + 1, t, v, name => by
    unfold Go.nilAhead
    refine Clear.bind (Clear.typeInfo _) fun i => ?_
    split
    · refine Clear.bind (Clear.followBlind _ _ _) fun r => ?_
      split
      · exact Clear.pure _
      · split
        · exact Clear.nilAhead n _ _ _
        · exact Clear.pure _
        · exact Clear.halt _
        · exact Clear.pure _
        · exact Clear.pure _
        · refine Clear.bind (Clear.underlying _) fun d => ?_
          split <;> exact Clear.pure _
    · exact Clear.halt _

/-- The kinds of operations that yield the same in every world. -/
def worldless (P : Program) : Op → Bool
  | .move _ | .assign _ | .pick .. | .build .. | .indexAddr .. | .extract .. | .makeFunc .. | .nilCheck _ => true
  | .fieldAddr s _ f => match P.underlying s with
    | some (.struct fs) => match fs[f]? with
      | some g => match P.info? g.type with
        | some i => i.size != 0
        | none => false
      | none => false
    | _ => false
  | _ => false

/-- Where such an operation yields, it yields the same in every world. -/
theorem worldless_spec {P : Program} {ρ : Operand → Value} {o : Oper} (h : worldless P o.op = true) {w w' : World} {n : Next} (hr : (execOp ρ o).run P w = .ok n w') :
    ∀ u, (execOp ρ o).run P u = .ok n u := by
  have lift : ∀ (s : Sem Value), Clear s → (do pure (.value (← s)) : Sem Next).run P w = .ok n w' → ∀ u, (do pure (.value (← s)) : Sem Next).run P u = .ok n u :=
    fun s hs h u => (Clear.bind hs (fun _ => Clear.pure _) P w n w' h).2 u
  cases ho : o.op <;> rw [ho] at h <;> simp [worldless] at h
  case move x =>
    have e : execOp ρ o = Pure.pure (.value (ρ x)) := by unfold execOp; rw [ho]
    rw [e] at hr ⊢
    exact (Clear.pure _ P w n w' hr).2
  case assign x =>
    have e : execOp ρ o = Pure.pure (.value (ρ x)) := by unfold execOp; rw [ho]
    rw [e] at hr ⊢
    exact (Clear.pure _ P w n w' hr).2
  case nilCheck x =>
    have c : Clear (execOp ρ o) := by
      unfold execOp
      rw [ho]
      dsimp only
      split
      · exact Clear.nilDeref
      · exact Clear.nilDeref
      · exact Clear.nilDeref
      · split
        · exact Clear.nilDeref
        · refine Clear.bind Clear.program fun p => ?_
          refine Clear.bind (Clear.nilAhead _ _ _ _) fun r => ?_
          split
          · exact Clear.bind (Clear.halt _) fun _ => Clear.pure _
          · exact Clear.pure _
        · exact Clear.pure _
      · exact Clear.pure _
    exact (c P w n w' hr).2
  case pick c a b =>
    have e : execOp ρ o = (do Pure.pure (.value (if ← asBool (ρ c) then ρ a else ρ b))) := by unfold execOp; rw [ho]
    rw [e] at hr ⊢
    exact (Clear.bind (Clear.asBool _) (fun _ => Clear.pure _) P w n w' hr).2
  case build t ps =>
    have e : execOp ρ o = (do Pure.pure (.value (← Instr.build t (ps.map fun (i, x) => (i, ρ x))))) := by unfold execOp; rw [ho]
    rw [e] at hr ⊢
    exact lift _ (Clear.build _ _) hr
  case makeFunc fn a b =>
    have e : execOp ρ o = (do Pure.pure (.value (← Instr.makeFunc fn (a.map ρ) (b.map ρ)))) := by unfold execOp; rw [ho]
    rw [e] at hr ⊢
    exact lift _ (Clear.pure _) hr
  case indexAddr t x i =>
    have e : execOp ρ o = (do Pure.pure (.value (← Instr.indexAt t (ρ x) (ρ i)))) := by unfold execOp; rw [ho]
    rw [e] at hr ⊢
    exact lift _ (Clear.indexAt _ _ _) hr
  case extract t i =>
    have e : execOp ρ o = (do Pure.pure (.value (← Instr.extract (ρ t) i))) := by unfold execOp; rw [ho]
    rw [e] at hr ⊢
    exact lift _ (Clear.extract _ _) hr
  case fieldAddr s x f =>
    have e : execOp ρ o = (do Pure.pure (.value (← Instr.fieldAt s (ρ x) f))) := by unfold execOp; rw [ho]
    rw [e] at hr ⊢
    split at h
    case h_2 => cases h
    case h_1 fs hu =>
      split at h
      case h_2 => cases h
      case h_1 g hg =>
        split at h
        case h_2 => cases h
        case h_1 i hi =>
          have hsz : i.size ≠ 0 := by simpa using h
          have key : ∀ u, (Instr.fieldAt s (ρ x) f).run P u = (Instr.sureAddr (ρ x) >>= fun a => Pure.pure (Value.pointer (some (a.add g.offset)))).run P u := fun u => by
            unfold Instr.fieldAt
            rw [Sem.run_bind]
            have h1 : (Go.underlying s).run P u = .ok (.struct fs) u := by simp [Go.underlying, Go.program, Sem.run, hu]
            rw [h1]
            simp only [Result.andThen, hg]
            rw [Sem.run_bind, Sem.run_bind]
            congr 1
            funext a u'
            have h2 : (Go.fieldPlace a g).run P u' = .ok (a.add g.offset) u' := by
              unfold Go.fieldPlace
              simp [Go.sizeOf, Go.typeInfo, Go.program, Sem.run, hi, hsz]
            rw [Sem.run_bind, h2]
            rfl
          have c : Clear (Instr.sureAddr (ρ x) >>= fun a => (Pure.pure (Value.pointer (some (a.add g.offset))) : Sem Value)) := Clear.bind (Clear.sureAddr _) fun _ => Clear.pure _
          have both : ∀ u, (do Pure.pure (.value (← Instr.fieldAt s (ρ x) f)) : Sem Next).run P u = (do Pure.pure (.value (← (Instr.sureAddr (ρ x) >>= fun a => (Pure.pure (Value.pointer (some (a.add g.offset))) : Sem Value)))) : Sem Next).run P u := fun u => by
            rw [Sem.run_bind, Sem.run_bind, key u]
          intro u
          exact (both u).trans (lift _ c ((both w).symm.trans hr) u)

/-- w' is w with more blocks. -/
def Ext (w w' : World) : Prop := w.heap.size ≤ w'.heap.size ∧ ∀ b, b < w.heap.size → w'.heap[b]? = w.heap[b]?
theorem Ext.refl (w : World) : Ext w w := ⟨Nat.le_refl _, fun _ _ => rfl⟩
theorem Ext.trans {a b c : World} (h : Ext a b) (h' : Ext b c) : Ext a c := ⟨Nat.le_trans h.1 h'.1, fun k hk => (h'.2 k (Nat.lt_of_lt_of_le hk h.1)).trans (h.2 k hk)⟩

/-- Where it yields, it leaves the world as it is, and yields the same in every world with more blocks. -/
def Stb {α : Type} (e : Sem α) : Prop := ∀ (P : Program) w v w', e.run P w = .ok v w' → w' = w ∧ ∀ u, Ext w u → e.run P u = .ok v u
theorem Clear.stb {α : Type} {e : Sem α} (h : Clear e) : Stb e := fun P w v w' hr => ⟨(h P w v w' hr).1, fun u _ => (h P w v w' hr).2 u⟩
theorem Stb.bind {α β : Type} {e : Sem α} {f : α → Sem β} (he : Stb e) (hf : ∀ a, Stb (f a)) : Stb (e >>= f) := fun P w v w' h => by
  rw [Sem.run_bind] at h
  cases hr : e.run P w with
  | halt x w1 => rw [hr] at h; simp [Result.andThen] at h
  | ok a w1 =>
    rw [hr] at h
    obtain ⟨rfl, h1⟩ := he P w a w1 hr
    simp only [Result.andThen] at h
    obtain ⟨rfl, h2⟩ := hf a P _ v w' h
    exact ⟨rfl, fun u hu => by rw [Sem.run_bind, h1 u hu]; simp only [Result.andThen]; exact h2 u hu⟩

theorem seen_some {P : Program} {w : World} {at_ : Addr} {t : TypeId} {k : Addr} {b : Bool} {r} (h : w.seen P at_ t k b = .ok r) : ∃ c e f, w.heap[at_.block]? = some (.cells c e f) := by
  cases hh : w.heap[at_.block]? with
  | none =>
    exfalso
    unfold World.seen at h
    rw [hh] at h
    simp only [bind, Except.bind] at h
    repeat' split at h
    all_goals first | cases h | (rename_i hx; cases hx)
  | some o =>
    cases o with
    | cells c e f => exact ⟨c, e, f, rfl⟩
    | _ =>
      exfalso
      unfold World.seen at h
      rw [hh] at h
      simp only [bind, Except.bind] at h
      repeat' split at h
      all_goals first | cases h | (rename_i hx; cases hx)
theorem seen_congr {P : Program} {w u : World} {at_ : Addr} {t : TypeId} {k : Addr} {b : Bool} (h : u.heap[at_.block]? = w.heap[at_.block]?) : u.seen P at_ t k b = w.seen P at_ t k b := by
  unfold World.seen
  rw [h]
theorem lt_of_some {w : World} {b : Nat} {o : Obj} (h : w.heap[b]? = some o) : b < w.heap.size := (Array.getElem?_eq_some_iff.1 h).1

theorem Stb.load (a : Addr) : Stb (Go.load a) := fun P w v w' h => by
  unfold Go.load at h ⊢
  simp only [Sem.run] at h ⊢
  cases hc : w.cell? a with
  | some x =>
    rw [hc] at h
    simp only [Result.ok.injEq] at h
    obtain ⟨rfl, rfl⟩ := h
    refine ⟨rfl, fun u hu => ?_⟩
    have hb : a.block < w.heap.size := World.block_lt_of_cell? w a hc
    rw [World.cell?_of_block (w := w) (hu.2 _ hb), hc]
  | none =>
    rw [hc] at h
    dsimp only at h
    unfold World.farLoad at h ⊢
    cases hh : w.heap[a.block]? with
    | none => rw [hh] at h; simp at h
    | some o =>
      have hb := lt_of_some hh
      have hcu : ∀ u, Ext w u → u.cell? a = none := fun u hu => by rw [World.cell?_of_block (w := w) (hu.2 _ hb), hc]
      rw [hh] at h
      cases o with
      | view at_ t =>
        dsimp only at h
        cases hv : w.viewLoad P at_ t a (Mode.plain == Mode.atomic) with
        | error e => rw [hv] at h; simp at h
        | ok r =>
          rw [hv] at h
          dsimp only at h
          simp only [Result.ok.injEq] at h
          obtain ⟨rfl, rfl⟩ := h
          refine ⟨rfl, fun u hu => ?_⟩
          rw [hcu u hu]
          dsimp only
          rw [hu.2 _ hb, hh]
          dsimp only
          have hs : ∃ r, w.seen P at_ t a (Mode.plain == Mode.atomic) = .ok r := by
            cases hsn : w.seen P at_ t a (Mode.plain == Mode.atomic) with
            | error e => unfold World.viewLoad at hv; rw [hsn] at hv; cases hv
            | ok r => exact ⟨r, rfl⟩
          obtain ⟨r2, hs⟩ := hs
          obtain ⟨c, e, f, hcc⟩ := seen_some hs
          have hvu : u.viewLoad P at_ t a (Mode.plain == Mode.atomic) = w.viewLoad P at_ t a (Mode.plain == Mode.atomic) := by
            unfold World.viewLoad
            rw [seen_congr (hu.2 _ (lt_of_some hcc))]
          rw [hvu, hv]
      | _ => simp at h

theorem Stb.loadCellsFrom (a : Addr) : ∀ (n i : Nat) (acc : Array Value), Stb (Go.loadCellsFrom a i n acc)
  | 0, i, acc => by unfold Go.loadCellsFrom; exact (Clear.pure _).stb
  | n + 1, i, acc => by unfold Go.loadCellsFrom; exact Stb.bind (Stb.load _) fun v => Stb.loadCellsFrom a n (i + 1) _
theorem Stb.loadAt (t : TypeId) (v : Value) : Stb (Instr.loadAt t v) := by
  unfold Instr.loadAt
  refine Stb.bind (Clear.sureAddr v).stb fun a => ?_
  unfold Go.loadVar
  refine Stb.bind (Clear.isAgg t).stb fun b => ?_
  split
  · exact Stb.bind (Clear.sizeOf t).stb fun n => Stb.bind (by unfold Go.loadCells; exact Stb.loadCellsFrom a n 0 _) fun _ => (Clear.pure _).stb
  · exact Stb.load a

/-- Where it yields, it has only made blocks. -/
def Grow {α : Type} (e : Sem α) : Prop := ∀ (P : Program) w v w', e.run P w = .ok v w' → Ext w w'
theorem Clear.grow {α : Type} {e : Sem α} (h : Clear e) : Grow e := fun P w v w' hr => by rw [(h P w v w' hr).1]; exact Ext.refl _
theorem Grow.bind {α β : Type} {e : Sem α} {f : α → Sem β} (he : Grow e) (hf : ∀ a, Grow (f a)) : Grow (e >>= f) := fun P w v w' h => by
  rw [Sem.run_bind] at h
  cases hr : e.run P w with
  | halt x w1 => rw [hr] at h; simp [Result.andThen] at h
  | ok a w1 =>
    rw [hr] at h
    simp only [Result.andThen] at h
    exact (he P w a w1 hr).trans (hf a P _ v w' h)
theorem Grow.newObj (o : Obj) : Grow (Go.newObj o) := fun P w v w' h => by
  unfold Go.newObj at h
  simp only [Sem.run, Result.ok.injEq] at h
  obtain ⟨_, rfl⟩ := h
  refine ⟨by simp, fun b hb => ?_⟩
  show (w.heap.push o)[b]? = _
  rw [Array.getElem?_push, if_neg (by omega)]
theorem Grow.newVar (t : TypeId) (v : Value) : Grow (Go.newVar t v) := by
  unfold Go.newVar Go.newRow
  exact Grow.bind (Grow.newObj _) fun _ => (Clear.pure _).grow

/-- The kinds of operations that make a block and do nothing else. -/
def allocOp : Op → Bool
  | .alloc _ | .box .. | .buildSlice .. => true
  | _ => false
theorem allocOp_spec {P : Program} {ρ : Operand → Value} {o : Oper} (h : allocOp o.op = true) {w w' : World} {n : Next} (hr : (execOp ρ o).run P w = .ok n w') : Ext w w' ∧ ∃ v, n = .value v := by
  have lift : ∀ (s : Sem Value), Grow s → (do Pure.pure (.value (← s)) : Sem Next).run P w = .ok n w' → Ext w w' ∧ ∃ v, n = .value v := fun s hs hr => by
    refine ⟨Grow.bind hs (fun _ => (Clear.pure _).grow) P w n w' hr, ?_⟩
    rw [Sem.run_bind] at hr
    cases h1 : s.run P w with
    | halt x w1 => rw [h1] at hr; simp [Result.andThen] at hr
    | ok a w1 => rw [h1] at hr; simp [Result.andThen] at hr; exact ⟨a, hr.1.symm⟩
  cases ho : o.op <;> rw [ho] at h <;> simp [allocOp] at h
  case alloc t =>
    have e : execOp ρ o = (do Pure.pure (.value (← Instr.alloc t true (.tuple #[])))) := by unfold execOp; rw [ho]
    rw [e] at hr
    refine lift _ ?_ hr
    unfold Instr.alloc
    refine Grow.bind (Clear.zeroValue t).grow fun z => ?_
    exact Grow.bind (Grow.newVar _ _) fun _ => (Clear.pure _).grow
  case box t x =>
    have e : execOp ρ o = (do Pure.pure (.value (← Instr.box t (ρ x)))) := by unfold execOp; rw [ho]
    rw [e] at hr
    refine lift _ ?_ hr
    unfold Instr.box
    exact Grow.bind (Grow.newVar _ _) fun _ => (Clear.pure _).grow
  case buildSlice t k ps =>
    have e : execOp ρ o = (do Pure.pure (.value (← Instr.buildSlice t k (ps.map fun (i, x) => (i, ρ x))))) := by unfold execOp; rw [ho]
    rw [e] at hr
    refine lift _ ?_ hr
    unfold Instr.buildSlice
    refine Grow.bind (Clear.underlying t).grow fun d => ?_
    split
    · refine Grow.bind (Clear.sizeOf _).grow fun sz => ?_
      extract_lets jp jp2
      have hj : ∀ z, Grow (jp z) := by
        intro z
        dsimp only [jp]
        split
        · exact Grow.bind (by unfold Go.newRow; exact Grow.bind (Grow.newObj _) fun _ => (Clear.pure _).grow) fun _ => (Clear.pure _).grow
        · exact (Clear.halt _).grow
      have hj2 : ∀ u, Grow (jp2 u) := by
        intro u
        dsimp only [jp2]
        split
        · exact Grow.bind (Clear.pure _).grow hj
        · exact Grow.bind (Clear.zeroValue _).grow fun _ => Grow.bind (Clear.pure _).grow hj
      split
      · exact Grow.bind (Clear.halt _).grow hj2
      · exact hj2 ()
    · exact (Clear.halt _).grow

/-- The kinds of operations that, where they do not halt, hand on a value. -/
def valueOp : Op → Bool
  | .move _ | .assign _ | .pick .. | .build .. | .load .. | .binOp .. | .unOp .. | .convert .. | .slice .. | .fieldAddr .. | .field .. | .indexAddr .. | .index .. | .extract .. | .makeFunc .. => true
  | .call { callee := .builtin b, .. } => match b with | .len | .cap | .min | .max => true | _ => false
  | .nilCheck _ => true
  | _ => false

/-- Where it yields, it yields a value. -/
def Val (s : Sem Next) : Prop := ∀ (P : Program) w n w', s.run P w = .ok n w' → ∃ v, n = .value v
theorem Val.pure (u : Value) : Val (Pure.pure (.value u)) := fun P w n w' h => by
  simp at h
  exact ⟨u, h.1.symm⟩
theorem Val.halt (x : Halt) : Val (Sem.halt x) := fun P w n w' h => by simp [Sem.run] at h
theorem Val.bind {α : Type} {e : Sem α} {f : α → Sem Next} (hf : ∀ a, Val (f a)) : Val (e >>= f) := fun P w n w' h => by
  rw [Sem.run_bind] at h
  cases hr : e.run P w with
  | halt x w1 => rw [hr] at h; simp [Result.andThen] at h
  | ok a w1 =>
    rw [hr] at h
    exact hf a P _ _ _ h
theorem Val.panic (x : RuntimeError) : Val (runtimePanic x) := by
  unfold runtimePanic
  refine Val.bind fun p => ?_
  cases x <;> first | exact Val.halt _ | exact Val.bind fun _ => Val.bind fun _ => Val.halt _

theorem valueOp_spec {P : Program} {ρ : Operand → Value} {o : Oper} (h : valueOp o.op = true) {w w' : World} {n : Next} (hr : (execOp ρ o).run P w = .ok n w') : ∃ v, n = .value v := by
  suffices hv : Val (execOp ρ o) from hv P w n w' hr
  clear hr
  unfold execOp
  cases ho : o.op <;> rw [ho] at h <;> simp [valueOp] at h
  case call c =>
    obtain ⟨callee, args, ats⟩ := c
    cases callee with
    | value f => simp at h
    | invoke r m => simp at h
    | builtin b =>
      intro P w n w' hr
      rw [Sem.run_bind] at hr
      simp only [resolve, Sem.run_pure, Result.andThen_ok, invoke, builtin] at hr
      cases b <;> simp at h <;> exact (Val.bind fun _ => Val.pure _) P _ _ _ hr
  case nilCheck x =>
    dsimp only
    split
    · exact Val.panic _
    · exact Val.panic _
    · exact Val.panic _
    · split
      · exact Val.panic _
      · refine Val.bind fun p => Val.bind fun b => ?_
        extract_lets
        split
        · exact Val.bind fun _ => Val.pure _
        · exact Val.pure _
      · exact Val.pure _
    · exact Val.pure _
  all_goals first
    | exact Val.pure _
    | exact Val.bind fun _ => Val.pure _

section
variable {P : Program} {ops : Array Oper} {Q : Exit → Act → World → Prop} {md : Region.Mode}

/-- Does operation j wait for operation i, straight or through others? -/
def waitsT (md : Region.Mode) (ops : Array Oper) : Nat → Nat → Nat → Bool
  | 0, _, _ => false
  | f + 1, j, i => match ops[j]? with
    | some oj => oj.after.any fun e => Region.binds md e && (e.on == i || waitsT md ops f e.on i)
    | none => false

/-- Whatever is listed, all that it waits for is listed. -/
def Closed (md : Region.Mode) (ops : Array Oper) (listed : Array Bool) : Prop :=
  ∀ (j : Nat) oj, ops[j]? = some oj → listed.getD j false = true → ∀ e ∈ oj.after, Region.binds md e = true → listed.getD e.on false = true

theorem Closed.start (md : Region.Mode) (ops : Array Oper) (n : Nat) : Closed md ops (Array.replicate n false) := fun j oj _ h => by
  rw [getD_replicate_false] at h
  cases h
theorem Closed.set_ {listed : Array Bool} {i : Nat} (h : Closed md ops listed) (hi : i ∈ Region.ready md ops listed) : Closed md ops (listed.setIfInBounds i true) := by
  obtain ⟨_, oi, hoi, hall⟩ := mem_ready.1 hi
  intro j oj hj hl e he hb
  by_cases hij : i = j
  · subst hij
    have : oj = oi := Option.some.inj (hj.symm.trans hoi)
    subst this
    exact getD_set_true (hall e he hb)
  · rw [getD_set_ne false hij] at hl
    exact getD_set_true (h j oj hj hl e he hb)
theorem Closed.waits {listed : Array Bool} (h : Closed md ops listed) : ∀ (f j i : Nat), waitsT md ops f j i = true → listed.getD j false = true → listed.getD i false = true
  | 0, _, _, hw, _ => by cases hw
  | f + 1, j, i, hw, hl => by
    unfold waitsT at hw
    split at hw
    · rename_i oj hoj
      obtain ⟨e, he, hb⟩ := Array.any_eq_true'.1 hw
      simp only [Bool.and_eq_true, Bool.or_eq_true, beq_iff_eq] at hb
      have h1 := h j oj hoj hl e he hb.1
      rcases hb.2 with h2 | h2
      · rw [← h2]; exact h1
      · exact Closed.waits h f _ _ h2 h1
    · cases hw
theorem Closed.ready {listed : Array Bool} (h : Closed md ops listed) {f j i : Nat} (hw : waitsT md ops f j i = true) (hj : j ∈ Region.ready md ops listed) : listed.getD i false = true := by
  obtain ⟨_, oj, hoj, hall⟩ := mem_ready.1 hj
  cases f with
  | zero => cases hw
  | succ f =>
    unfold waitsT at hw
    rw [hoj] at hw
    obtain ⟨e, he, hb⟩ := Array.any_eq_true'.1 hw
    simp only [Bool.and_eq_true, Bool.or_eq_true, beq_iff_eq] at hb
    have h1 := hall e he hb.1
    rcases hb.2 with h2 | h2
    · rw [← h2]; exact h1
    · exact h.waits f _ _ h2 h1

/-- Whatever order is picked from here on; an operation of class 0 leaves the world as it is, one of class 1 only makes blocks. -/
def wpAnyP (P : Program) (md : Region.Mode) (ops : Array Oper) (Q : Exit → Act → World → Prop) (cls : Nat → Nat) : Nat → Array Bool → Act → World → Prop
  | 0, listed, a, w => Region.ready md ops listed = [] ∧ Q .normal a w
  | fuel + 1, listed, a, w =>
    (Region.ready md ops listed = [] → Q .normal a w) ∧
    ∀ i ∈ Region.ready md ops listed, wpOp P ops Q i (fun a' w' => ((cls i = 0 → w' = w) ∧ (cls i = 1 → Ext w w')) ∧ wpAnyP P md ops Q cls fuel (listed.setIfInBounds i true) a' w') a w

theorem wpAny_of_P {cls : Nat → Nat} : ∀ (fuel : Nat) (listed : Array Bool) (a : Act) (w : World), wpAnyP P md ops Q cls fuel listed a w → wpAny P md ops Q fuel listed a w
  | 0, _, _, _, h => h
  | fuel + 1, _, _, _, h => ⟨h.1, fun i hi => wpOp_mono (fun a' w' h' => wpAny_of_P fuel _ a' w' h'.2) (h.2 i hi)⟩

/-- An operation that yields in every world that meets S may be taken first, if what comes up ahead of it keeps S. -/
theorem wpAnyP_first {cls : Nat → Nat} {S : World → Prop} {i : Nat} {oi : Oper} {v : Value} (hi : ops[i]? = some oi) (hsel : ∀ (j : Nat) (o : Oper) cs b, ops[j]? = some o → o.op ≠ .select cs b)
    (hQ : ∀ c a w, Q (.panic c) (a.put oi.dst v) w → Q (.panic c) a w)
    (hkeep : ∀ (listed : Array Bool) (j : Nat), Closed md ops listed → j ∈ Region.ready md ops listed → listed.getD i false = false → ∀ w w', S w → (cls j = 0 → w' = w) ∧ (cls j = 1 → Ext w w') → S w') :
    ∀ (fuel : Nat) (listed : Array Bool) (a : Act) (w : World), Closed md ops listed →
      (∀ j oj, ops[j]? = some oj → j ≠ i → listed.getD j true = false → (∀ e ∈ oj.after, Region.binds md e = true → e.on ≠ i) → oi.apart ops oj = true) →
      i ∈ Region.ready md ops listed → YieldsIf P ops S oi v a → S w →
      wpAnyP P md ops Q cls fuel (listed.setIfInBounds i true) (a.put oi.dst v) w → wpAnyP P md ops Q cls (fuel + 1) listed a w := by
  intro fuel
  induction fuel with
  | zero =>
    intro listed a w _ _ hr hy hS H
    refine ⟨fun h => (by rw [h] at hr; cases hr), fun j hj => ?_⟩
    by_cases hji : j = i
    · subst hji; exact hy.wpOp hi hS ⟨⟨fun _ => rfl, fun _ => Ext.refl _⟩, H⟩
    · have := ready_mono hj hji
      rw [H.1] at this
      cases this
  | succ fuel ih =>
    intro listed a w hcl hfree hr hy hS H
    refine ⟨fun h => (by rw [h] at hr; cases hr), fun j hj => ?_⟩
    by_cases hji : j = i
    · subst hji; exact hy.wpOp hi hS ⟨⟨fun _ => rfl, fun _ => Ext.refl _⟩, H⟩
    · have h1 := H.2 j (ready_mono hj hji)
      obtain ⟨hjun, oj, hoj, hall⟩ := mem_ready.1 hj
      have hiun : listed.getD i false = false := getD_both (mem_ready.1 hr).1
      have hnot : ∀ e ∈ oj.after, Region.binds md e = true → e.on ≠ i := fun e he hb heq => by
        have h1 := hall e he hb
        rw [heq, hiun] at h1
        cases h1
      have h2 := wpOp_putIf hoj (hfree j oj hoj hji hjun hnot) (fun cs b => hsel i oi cs b hi) (fun cs b => hsel j oj cs b hoj) hQ hy h1
      have hfree' : ∀ k ok, ops[k]? = some ok → k ≠ i → (listed.setIfInBounds j true).getD k true = false →
          (∀ e ∈ ok.after, Region.binds md e = true → e.on ≠ i) → oi.apart ops ok = true := fun k ok hk hki hun hno => by
        refine hfree k ok hk hki ?_ hno
        by_cases hjk : j = k
        · subst hjk; exact hjun
        · rw [getD_set_ne true hjk] at hun; exact hun
      refine wpOp_mono (fun a' w' h3 => ?_) h2
      obtain ⟨hy', hc, hP⟩ := h3
      refine ⟨hc, ih (listed.setIfInBounds j true) a' w' (hcl.set_ hj) hfree' (ready_mono hr (Ne.symm hji)) hy' (hkeep listed j hcl hj hiun w w' hS hc) ?_⟩
      rw [Array.setIfInBounds_comm _ _ hji]
      exact hP

/-- Nothing that asks for room. -/
def NoMark {α : Type} (e : Sem α) : Prop := ∀ (P : Program) w es, noRoomEvent ∈ (e.runT P w es).2 → noRoomEvent ∈ es
theorem NoMark.pure {α : Type} (a : α) : NoMark (Pure.pure a : Sem α) := fun P w es h => by
  have : (Pure.pure a : Sem α) = Sem.pure a := rfl
  rw [this] at h
  simpa only [Sem.runT] using h
theorem NoMark.halt {α : Type} (x : Halt) : NoMark (Sem.halt x : Sem α) := fun P w es h => by simpa only [Sem.runT] using h
theorem NoMark.program : NoMark Go.program := fun P w es h => by
  unfold Go.program at h
  simpa only [Sem.runT] using h
theorem NoMark.bind {α β : Type} {e : Sem α} {f : α → Sem β} (he : NoMark e) (hf : ∀ a, NoMark (f a)) : NoMark (e >>= f) := fun P w es h => by
  have : (e >>= f) = e.bind f := rfl
  rw [this, Sem.runT_bind'] at h
  have h1 := he P w es
  generalize e.runT P w es = r at h h1
  obtain ⟨r, es'⟩ := r
  cases r with
  | ok a w' => exact h1 (hf a P w' es' h)
  | halt x w' => exact h1 h
theorem NoMark.underlying (t : TypeId) : NoMark (Go.underlying t) := NoMark.bind NoMark.program fun p => by
  split
  · exact NoMark.pure _
  · exact NoMark.halt _

/-- The kinds of operations that neither look at the world nor may panic. -/
def calmOp : Op → Bool
  | .move _ | .assign _ | .pick .. | .extract .. => true
  | _ => false

theorem calm_worldless {P : Program} {o : Op} (h : calmOp o = true) : worldless P o = true := by
  cases o <;> simp_all [calmOp, worldless]
theorem calm_value {o : Op} (h : calmOp o = true) : valueOp o = true := by
  cases o <;> simp_all [calmOp, valueOp]

/-- They never panic, and ask for no room. -/
theorem calm_spec {P : Program} {ρ : Operand → Value} {o : Oper} (h : calmOp o.op = true) : (∀ w x w', (execOp ρ o).run P w ≠ .halt (.panic x) w') ∧ ∀ w, noRoomEvent ∉ ((execOp ρ o).runT P w #[]).2 := by
  have no : ∀ {e : Sem Next}, NoMark e → ∀ w, noRoomEvent ∉ (e.runT P w #[]).2 := fun h w hh => by have := h P w #[] hh; simp at this
  cases ho : o.op <;> rw [ho] at h <;> simp [calmOp] at h
  case move x =>
    have e : execOp ρ o = Pure.pure (.value (ρ x)) := by unfold execOp; rw [ho]
    rw [e]
    exact ⟨fun w x w' => by simp, no (NoMark.pure _)⟩
  case assign x =>
    have e : execOp ρ o = Pure.pure (.value (ρ x)) := by unfold execOp; rw [ho]
    rw [e]
    exact ⟨fun w x w' => by simp, no (NoMark.pure _)⟩
  case pick c a b =>
    have e : execOp ρ o = (do Pure.pure (.value (if ← asBool (ρ c) then ρ a else ρ b))) := by unfold execOp; rw [ho]
    rw [e]
    have hb : NoMark (asBool (ρ c)) := by
      unfold asBool
      split
      · exact NoMark.pure _
      · exact NoMark.halt _
    refine ⟨fun w x w' => ?_, no (NoMark.bind hb fun _ => NoMark.pure _)⟩
    rw [Sem.run_bind]
    unfold asBool
    split <;> simp [stuck, Result.andThen]
  case extract t i =>
    have e : execOp ρ o = (do Pure.pure (.value (← Instr.extract (ρ t) i))) := by unfold execOp; rw [ho]
    rw [e]
    have hb : NoMark (Instr.extract (ρ t) i) := by
      unfold Instr.extract
      split
      · split
        · exact NoMark.pure _
        · exact NoMark.halt _
      · exact NoMark.halt _
    refine ⟨fun w x w' => ?_, no (NoMark.bind hb fun _ => NoMark.pure _)⟩
    rw [Sem.run_bind]
    unfold Instr.extract
    split
    · split <;> simp [stuck, Result.andThen]
    · simp [stuck, Result.andThen]

/-- What the walk shows of a calm operation. -/
theorem yields_of_calm {t : Nat} {o : Oper} {a : Act} {w : World} {K : Act → World → Prop} (ho : ops[t]? = some o) (hc : calmOp o.op = true) (h : wpOp P ops Q t K a w) :
    ∃ v, YieldsIf P ops (fun _ => True) o v a ∧ K (a.put o.dst v) w := by
  unfold wpOp at h
  rw [ho] at h
  dsimp only at h
  by_cases hw : Region.wanted o (yielded ops a.tmps) = true
  · rw [if_pos hw] at h
    obtain ⟨hp, hm⟩ := calm_spec (P := P) (ρ := a.eval) hc
    rcases h with h | ⟨⟨h, _⟩, _⟩
    · unfold Oper.wp at h
      generalize hr : (execOp a.eval o).run P w = r at h
      cases r with
      | halt x w' => cases x <;> simp only [Oper.upon] at h; exact absurd hr (hp w _ w')
      | ok n w' =>
        obtain ⟨v, rfl⟩ := valueOp_spec (calm_value hc) hr
        have hall := worldless_spec (calm_worldless (P := P) hc) hr
        have hww : w' = w := by have := (hall w).symm.trans hr; injection this with _ e; exact e.symm
        subst hww
        exact ⟨v, .inl ⟨hw, fun u _ => hall u⟩, h⟩
    · exact absurd h (hm w)
  · rw [if_neg hw] at h
    exact ⟨undef, .inr ⟨by simpa using hw, rfl⟩, h⟩

/-- An operation that only makes a block: told beside what the walk shows. -/
theorem wpOp_alloc {t : Nat} {o : Oper} {a : Act} {w : World} {K : Act → World → Prop} (ho : ops[t]? = some o) (hc : allocOp o.op = true) (h : wpOp P ops Q t K a w) : wpOp P ops Q t (fun a' w' => Ext w w' ∧ K a' w') a w := by
  unfold wpOp at *
  rw [ho] at h ⊢
  dsimp only at *
  by_cases hw : Region.wanted o (yielded ops a.tmps) = true
  · rw [if_pos hw] at h ⊢
    refine h.imp (fun h => ?_) id
    unfold Oper.wp at *
    generalize hr : (execOp a.eval o).run P w = r at *
    cases r with
    | halt x w' => cases x <;> simp only [Oper.upon] at h ⊢ <;> exact h
    | ok n w' =>
      obtain ⟨he, v, rfl⟩ := allocOp_spec hc hr
      exact ⟨he, h⟩
  · rw [if_neg hw] at h ⊢
    exact ⟨Ext.refl _, h⟩

def classOf (ops : Array Oper) (ts : List Nat) (j : Nat) : Nat :=
  if ts.contains j then (match ops[j]? with | some o => if allocOp o.op then 1 else 2 | none => 2) else 0

def tailB (md : Region.Mode) (ops : Array Oper) : List Nat → Array Bool → Bool
  | [], listed => (Region.ready md ops listed).isEmpty
  | t :: ts, listed => (Region.ready md ops listed == [t] ||
      ((Region.ready md ops listed).contains t && Region.free md ops listed t && (match ops[t]? with | some o => calmOp o.op | none => false))) && tailB md ops ts (listed.setIfInBounds t true)

theorem wpAnyP_tail {us : List Nat} (hQ : ∀ c a (d : Option Tmp) v w, Q (.panic c) (a.put d v) w → Q (.panic c) a w) (hs : Region.noSelect ops = true) : ∀ (ts : List Nat) (listed : Array Bool) (a : Act) (w : World), Closed md ops listed → (∀ t ∈ ts, us.contains t = true) → tailB md ops ts listed = true →
    wpOps P ops Q ts a w → wpAnyP P md ops Q (classOf ops us) ts.length listed a w
  | [], _, _, _, _, _, hB, h => ⟨by simpa [tailB] using hB, h⟩
  | t :: ts, listed, a, w, hcl, hf, hB, h => by
    simp only [tailB, Bool.and_eq_true, Bool.or_eq_true, beq_iff_eq] at hB
    rw [wpOps_cons] at h
    have hc0 : classOf ops us t ≠ 0 := by
      unfold classOf
      rw [if_pos (hf t (by simp))]
      split
      · split <;> simp
      · simp
    have h1 : wpOp P ops Q t (fun a' w' => (classOf ops us t = 1 → Ext w w') ∧ wpOps P ops Q ts a' w') a w := by
      cases ho : ops[t]? with
      | none => unfold wpOp at *; rw [ho] at h ⊢; exact ⟨fun _ => Ext.refl _, h⟩
      | some o =>
        by_cases hal : allocOp o.op = true
        · exact wpOp_mono (fun a' w' h => ⟨fun _ => h.1, h.2⟩) (wpOp_alloc ho hal h)
        · refine wpOp_mono (fun a' w' h => ⟨fun h1 => ?_, h⟩) h
          unfold classOf at h1
          rw [if_pos (hf t (by simp)), ho] at h1
          simp [hal] at h1
    rcases hB.1 with hB1 | ⟨⟨hr, hfr⟩, hc⟩
    · refine ⟨fun h0 => (by rw [hB1] at h0; cases h0), fun i hi => ?_⟩
      have hi' := hi
      rw [hB1] at hi
      have : i = t := by simpa using hi
      subst this
      exact wpOp_mono (fun a' w' h' => ⟨⟨fun h0 => absurd h0 hc0, h'.1⟩, wpAnyP_tail hQ hs ts _ a' w' (hcl.set_ hi') (fun t ht => hf t (by simp [ht])) hB.2 h'.2⟩) h1
    · have hr' : t ∈ Region.ready md ops listed := by simpa using hr
      cases ho : ops[t]? with
      | none => rw [ho] at hc; cases hc
      | some o =>
        rw [ho] at hc
        obtain ⟨v, hy, hK⟩ := yields_of_calm ho hc h
        exact wpAnyP_first (S := fun _ => True) ho (Region.noSelect_spec hs) (fun c a w => hQ c a _ _ w) (fun _ _ _ _ _ _ _ _ _ => trivial) _ listed a w hcl (Region.free_spec ho hfr) hr' hy trivial
          (wpAnyP_tail hQ hs ts _ _ w (hcl.set_ hr') (fun t ht => hf t (by simp [ht])) hB.2 hK)

def loadOp : Op → Bool
  | .load .. => true
  | _ => false

def earlyB (P : Program) (md : Region.Mode) (ops : Array Oper) (ts : List Nat) : List Nat → Array Bool → Bool
  | [], listed => tailB md ops ts listed
  | i :: es, listed => (Region.ready md ops listed).contains i && Region.free md ops listed i && !ts.contains i &&
      (match ops[i]? with
        | some o => valueOp o.op && (worldless P o.op || (ts.all fun j => waitsT md ops ops.size j i || (loadOp o.op && (match ops[j]? with | some oj => allocOp oj.op | none => false))))
        | none => false) &&
      earlyB P md ops ts es (listed.setIfInBounds i true)

/-- What the walk of the early operations shows of one of them. -/
theorem yieldsIf_of_still {o : Oper} {a : Act} {K : Act → Prop} {w : World} (hv : valueOp o.op = true)
    (h : if Region.wanted o (yielded ops a.tmps) then o.still P a w K else K (a.put o.dst undef)) :
    ∃ v, YieldsIf P ops (fun u => u = w) o v a ∧ (worldless P o.op = true → YieldsIf P ops (fun _ => True) o v a) ∧ (loadOp o.op = true → YieldsIf P ops (fun u => Ext w u) o v a) ∧ K (a.put o.dst v) := by
  by_cases hw : Region.wanted o (yielded ops a.tmps) = true
  · rw [if_pos hw] at h
    unfold Oper.still at h
    generalize hr : (execOp a.eval o).run P w = r at h
    cases r with
    | halt x w' => simp only [Oper.stillUpon] at h
    | ok n w' =>
      obtain ⟨v, rfl⟩ := valueOp_spec hv hr
      simp only [Oper.stillUpon] at h
      obtain ⟨rfl, hK⟩ := h
      refine ⟨v, .inl ⟨hw, fun u hu => by rw [hu]; exact hr⟩, fun hl => .inl ⟨hw, fun u _ => worldless_spec hl hr u⟩, fun hl => .inl ⟨hw, fun u hu => ?_⟩, hK⟩
      cases ho : o.op <;> rw [ho] at hl <;> simp [loadOp] at hl
      case load t x =>
        have e : execOp a.eval o = (do Pure.pure (.value (← Instr.loadAt t (a.eval x)))) := by unfold execOp; rw [ho]
        rw [e] at hr ⊢
        exact (Stb.bind (Stb.loadAt _ _) (fun _ => (Clear.pure _).stb) P _ _ _ hr).2 u hu
  · rw [if_neg hw] at h
    exact ⟨undef, .inr ⟨by simpa using hw, rfl⟩, fun _ => .inr ⟨by simpa using hw, rfl⟩, fun _ => .inr ⟨by simpa using hw, rfl⟩, h⟩

theorem wpAnyP_early {w : World} (hQ : ∀ c a (d : Option Tmp) v w, Q (.panic c) (a.put d v) w → Q (.panic c) a w) (hs : Region.noSelect ops = true) (ts : List Nat) : ∀ (es : List Nat) (listed : Array Bool) (a : Act), Closed md ops listed →
    earlyB P md ops ts es listed = true → wpStill P ops w (fun a' => wpOps P ops Q ts a' w) (es.filterMap (ops[·]?)) a → wpAnyP P md ops Q (classOf ops ts) (es.length + ts.length) listed a w
  | [], listed, a, hcl, hB, h => by
    simp only [List.length_nil, Nat.zero_add]
    exact wpAnyP_tail hQ hs ts listed a w hcl (fun t ht => by simpa using ht) hB h
  | i :: es, listed, a, hcl, hB, h => by
    simp only [earlyB, Bool.and_eq_true] at hB
    obtain ⟨⟨⟨⟨hr, hf⟩, hnt⟩, hk⟩, hrest⟩ := hB
    have hr' : i ∈ Region.ready md ops listed := by simpa using hr
    cases ho : ops[i]? with
    | none => rw [ho] at hk; cases hk
    | some o =>
      rw [ho] at hk
      simp only [Bool.and_eq_true, Bool.or_eq_true] at hk
      rw [List.filterMap_cons_some ho] at h
      obtain ⟨v, hy, hy0, hyl, hK⟩ := yieldsIf_of_still (K := wpStill P ops w (fun a' => wpOps P ops Q ts a' w) (es.filterMap (ops[·]?))) hk.1 h
      have IH := wpAnyP_early hQ hs ts es (listed.setIfInBounds i true) _ (hcl.set_ hr') hrest hK
      rw [List.length_cons, show es.length + 1 + ts.length = (es.length + ts.length) + 1 by omega]
      rcases hk.2 with hl | hl
      · exact wpAnyP_first (S := fun _ => True) ho (Region.noSelect_spec hs) (fun c a w => hQ c a _ _ w) (fun _ _ _ _ _ _ _ _ _ => trivial) _ listed a w hcl (Region.free_spec ho hf) hr' (hy0 hl) trivial IH
      · by_cases hld : loadOp o.op = true
        · refine wpAnyP_first (S := fun u => Ext w u) ho (Region.noSelect_spec hs) (fun c a w => hQ c a _ _ w) (fun listed' j hcl' hj hun u u' hu hc => ?_) _ listed a w hcl (Region.free_spec ho hf) hr' (hyl hld) (Ext.refl _) IH
          cases hfj : ts.contains j with
          | false =>
            have : classOf ops ts j = 0 := by unfold classOf; rw [if_neg (by rw [hfj]; simp)]
            rw [hc.1 this]
            exact hu
          | true =>
            have hwj := List.all_eq_true.1 hl j (by simpa using hfj)
            simp only [Bool.or_eq_true, Bool.and_eq_true] at hwj
            rcases hwj with hwj | ⟨_, hwj⟩
            · rw [hcl'.ready hwj hj] at hun
              cases hun
            · cases hoj : ops[j]? with
              | none => rw [hoj] at hwj; cases hwj
              | some oj =>
                rw [hoj] at hwj
                have : classOf ops ts j = 1 := by unfold classOf; rw [if_pos hfj, hoj]; simp [hwj]
                exact hu.trans (hc.2 this)
        · refine wpAnyP_first (S := fun u => u = w) ho (Region.noSelect_spec hs) (fun c a w => hQ c a _ _ w) (fun listed' j hcl' hj hun u u' hu hc => ?_) _ listed a w hcl (Region.free_spec ho hf) hr' hy rfl IH
          cases hfj : ts.contains j with
          | false =>
            have : classOf ops ts j = 0 := by unfold classOf; rw [if_neg (by rw [hfj]; simp)]
            rw [hc.1 this]
            exact hu
          | true =>
            have hwj := List.all_eq_true.1 hl j (by simpa using hfj)
            simp only [Bool.or_eq_true, Bool.and_eq_true] at hwj
            rcases hwj with hwj | ⟨h2, _⟩
            · rw [hcl'.ready hwj hj] at hun
              cases hun
            · exact absurd h2 hld

/-- The whole check of a plan. -/
def planB (P : Program) (ops : Array Oper) (es ts : List Nat) : Bool :=
  Region.noSelect ops && (es.length + ts.length == ops.size) && earlyB P .any ops ts es (Array.replicate ops.size false)

theorem wpOps_of_list (ts : List Nat) : ∀ (a : Act) (w : World), wpList P ops Q (ts.filterMap (ops[·]?)) a w → wpOps P ops Q ts a w := by
  induction ts with
  | nil => intro a w h; exact h
  | cons t ts ih =>
    intro a w h
    rw [wpOps_cons]
    unfold wpOp
    cases ho : ops[t]? with
    | none =>
      rw [List.filterMap_cons_none ho] at h
      exact ih a w h
    | some o =>
      rw [List.filterMap_cons_some ho] at h
      unfold wpList at h
      dsimp only
      split at h
      · rename_i hw
        rw [if_pos hw]
        exact h.imp (Oper.wp_mono fun a w => ih a w) id
      · rename_i hw
        rw [if_neg hw]
        exact ih _ _ h

theorem wpStill_mono {w : World} {K K' : Act → Prop} (hk : ∀ a, K a → K' a) : ∀ (os : List Oper) (a : Act), wpStill P ops w K os a → wpStill P ops w K' os a
  | [], a, h => hk a h
  | o :: os, a, h => by
    unfold wpStill at h ⊢
    by_cases hw : Region.wanted o (yielded ops a.tmps) = true
    · rw [if_pos hw] at h ⊢; exact Oper.still_mono (fun a h => wpStill_mono hk os a h) h
    · rw [if_neg hw] at h ⊢; exact wpStill_mono hk os _ h

/-- A REGION THAT DRAWS ITS ORDER, BY A PLAN: the operations es are walked first (they only look), then the row ts. -/
theorem wp_region_plan {id : Nat} {a : Act} {w : World} {l : List Oper} (es ts : List Nat) (hm : P.follows .mixedOrders = true) (hB : planB P l.toArray es ts = true)
    (hQ : ∀ c a (d : Option Tmp) v w, Q (.panic c) (a.put d v) w → Q (.panic c) a w)
    (h : wpStill P l.toArray w.drew (fun a' => wpList P l.toArray Q (ts.filterMap (l[·]?)) a' w.drew) (es.filterMap (l[·]?)) a) : (Code.region id l.toArray true).wp P Q a w := by
  simp only [planB, Bool.and_eq_true, beq_iff_eq] at hB
  obtain ⟨⟨hs, hn⟩, hE⟩ := hB
  refine wp_region_any hm (wpAny_of_P (cls := classOf l.toArray ts) _ _ _ _ ?_)
  rw [← hn]
  refine wpAnyP_early (w := w.drew) hQ hs ts es _ a (Closed.start _ _ _) (by rw [hn]; exact hE) ?_
  have e1 : (fun (i : Nat) => l.toArray[i]?) = fun (i : Nat) => l[i]? := by funext i; simp
  rw [e1]
  refine wpStill_mono (fun a' h => wpOps_of_list ts a' _ ?_) _ _ h
  rw [e1]
  exact h
end
end Go.Inq

namespace Go.Proofs.Ytfhnamomiaekdaa
open Go.RowKit Go.Inq
set_option maxHeartbeats 1000000
attribute [local go_sem ↓] Go.wp_at_zero Go.wp_at_succ

theorem index_int (A : Option Addr) (c : Nat) (l : List Int) (x : Int) (K : Nat → Prop) (w : World) (h : IntS w K (.slice A l.length c) l) (hn : l.length ≤ maxLen) :
    Calls Try.prog 24 #[.slice A l.length c, .int .i64 x] w fun e w' => e = .returned (.int .i64 (idxI l x)) ∧ w = w' := by
  unfold maxLen at hn
  have hhit := hide (fun k => idxI_hit (l := l) (x := x) (k := k))
  have hnone := hide (idxI_none (l := l) (x := x))
  go_enter Try.func24, Try.ntmps24
  go_wp2_with fail
  go_loop [5, 8] (fun s5 s8 => ∃ k : Nat, k ≤ l.length ∧ s8 = .int .i64 k ∧ Hid (∀ j (hj : j < l.length), j < k → l[j] ≠ x)) (fun _ s8 => l.length - (intOf s8).toNat)
  case atStart => exact ⟨0, Nat.zero_le _, by go_num, fun j hj h => absurd h (by omega)⟩
  case round =>
    obtain ⟨k, hk, rfl, hall⟩ := hrel
    by_cases hlt : k < l.length
    · have hi2 : (k : Int) < (l.length : Int) := by omega
      obtain ⟨b, off, rfl, _, hc⟩ := h.at_ hlt
      have hh := hide (fun g => hhit.out k hlt g hall.out)
      have hst : Hid (l[k] ≠ x → ∀ j (hj : j < l.length), j < k + 1 → l[j] ≠ x) := fun g j hj hjk => by
        by_cases e : j = k
        · subst e; exact g
        · exact hall.out j hj (by omega)
      clear hall
      by_cases he : x = l[k]
      · have hb : (x == l[k]) = true := by simpa using he
        have hr := hide (hh.out he.symm)
        clear he hh hst
        go_wp2
        go_ret
        exact ⟨ret_int hr.out.symm, rfl⟩
      · have hb : (x == l[k]) = false := by simpa using he
        have hn2 := hide (hst.out (fun e => he e.symm))
        clear he hh hst
        go_wp2
        go_round
        case rel => exact ⟨k + 1, by omega, by go_num, hn2⟩
        case measure => simp [intOf]; omega
    · have hr := hide (hnone.out fun j hj => hall.out j hj (by omega))
      go_wp2
      go_ret
      exact ⟨ret_int hr.out.symm, rfl⟩
theorem contains_int (A : Option Addr) (c : Nat) (l : List Int) (x : Int) (K : Nat → Prop) (w : World) (h : IntS w K (.slice A l.length c) l) (hn : l.length ≤ maxLen) :
    Calls Try.prog 37 #[.slice A l.length c, .int .i64 x] w fun e w' => e = .returned (.bool (l.contains x)) ∧ w = w' := by
  have hd := hide (idxI_contains l x)
  go_enter Try.func37, Try.ntmps37
  go_wp2_with fail
  refine (index_int A c l x K _ h hn).mono ?_
  rintro e w1 ⟨rfl, rfl⟩
  go_wp2
  go_ret
  exact ⟨by rw [← hd.out]; rfl, rfl⟩
end Go.Proofs.Ytfhnamomiaekdaa
