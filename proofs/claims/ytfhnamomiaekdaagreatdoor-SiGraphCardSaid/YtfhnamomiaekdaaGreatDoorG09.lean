/-
  Plain words of layer 21: the order of each key's writes; rows, their choices, and the graph that they make; no program in sight.
-/
import Derived.Test.YtfhnamomiaekdaaGreatDoorG08
import Derived.Test.YtfhnamomiaekdaaGreatDoorG07
import Derived.Test.YtfhnamomiaekdaaGreatDoorG02
set_option linter.unusedVariables false
set_option linter.unusedSimpArgs false
namespace Go.Proofs.YtfhnamomiaekdaaGreatDoor
open Go.RowKit Go.Inq

/-- A key, and who writes it, in order. -/
structure SRow where
  key : Int
  l : List Int
deriving DecidableEq
def natI (l : List Nat) : List Int := l.map fun (x : Nat) => (x : Int)
def sortI (l : List Int) : List Int := l.mergeSort fun x y => decide (x ≤ y)
/-- The rows that an order makes. -/
def rowS (H : List Txn) (π : List Int) (k : Int) : SRow := ⟨k, π.filter fun t => (txnAt H t.toNat).writes.contains k⟩
def rowsL (H : List Txn) (π : List Int) : List SRow := if rightH H = true ∧ permB π H.length = true then (keysL H).map (rowS H π) else []
/-- May rows be? -/
def rightS (H : List Txn) (R : List SRow) : Bool := rightH H && decide (R.map (·.key) = keysL H) && R.all fun r => decide (sortI r.l = natI (wrsL H r.key))
/-- The choices that rows make. -/
def choR (H : List Txn) (r : SRow) : List Cho := (pairsK r.key (wrsL H r.key)).map (ofC r.l)
def choS (H : List Txn) (R : List SRow) : List Cho := if rightS H R then (R.map (choR H)).flatten else []

theorem sortI_rise (l : List Int) : (sortI l).Pairwise (· ≤ ·) := by
  unfold sortI
  refine (List.pairwise_mergeSort (le := fun x y => decide (x ≤ y)) (fun a b c h1 h2 => ?_) (fun a b => ?_) l).imp fun h => by simpa using h
  · rw [decide_eq_true_eq] at h1 h2 ⊢; omega
  · rw [Bool.or_eq_true, decide_eq_true_eq, decide_eq_true_eq]; omega
theorem sortI_perm (l : List Int) : (sortI l).Perm l := List.mergeSort_perm l _
theorem rise_perm : ∀ {a b : List Int}, a.Pairwise (· ≤ ·) → b.Pairwise (· ≤ ·) → a.Perm b → a = b
  | [], b, _, _, h => by rw [h.nil_eq]
  | x :: a, [], _, _, h => by have := h.length_eq; simp at this
  | x :: a, y :: b, ha, hb, h => by
    rw [List.pairwise_cons] at ha hb
    have hx : x ∈ y :: b := h.mem_iff.1 (by simp)
    have hy : y ∈ x :: a := h.mem_iff.2 (by simp)
    have hxy : x = y := by
      rw [List.mem_cons] at hx hy
      rcases hx with rfl | hx
      · rfl
      · rcases hy with rfl | hy
        · rfl
        · have h1 := hb.1 x hx; have h2 := ha.1 y hy; omega
    subst hxy
    rw [rise_perm ha.2 hb.2 ((List.perm_cons x).1 h)]
theorem natI_rise {l : List Nat} (h : l.Pairwise (· < ·)) : (natI l).Pairwise (· ≤ ·) := by
  unfold natI
  rw [List.pairwise_map]
  exact h.imp fun hab => by omega
theorem natI_mem {l : List Nat} {x : Int} : x ∈ natI l ↔ ∃ n ∈ l, x = (n : Int) := by
  unfold natI; rw [List.mem_map]; exact ⟨fun ⟨n, h, e⟩ => ⟨n, h, e.symm⟩, fun ⟨n, h, e⟩ => ⟨n, h, e.symm⟩⟩
theorem natI_nodup {l : List Nat} (h : l.Pairwise (· < ·)) : (natI l).Nodup := by
  unfold natI
  rw [List.nodup_iff_pairwise_ne, List.pairwise_map]
  exact h.imp fun hab => by omega
theorem sort_iff {H : List Txn} {r : SRow} : sortI r.l = natI (wrsL H r.key) ↔ r.l.Perm (natI (wrsL H r.key)) := by
  constructor
  · intro h; rw [← h]; exact (sortI_perm r.l).symm
  · intro h; exact rise_perm (sortI_rise _) (natI_rise (wrsL_rise H r.key)) ((sortI_perm r.l).trans h)

/-- What is right of rows that may be. -/
structure OkS (H : List Txn) (R : List SRow) : Prop where
  right : rightH H = true
  keys : R.map (·.key) = keysL H
  perm : ∀ r ∈ R, r.l.Perm (natI (wrsL H r.key))
theorem okS_iff (H : List Txn) (R : List SRow) : rightS H R = true ↔ OkS H R := by
  unfold rightS
  rw [Bool.and_eq_true, Bool.and_eq_true, decide_eq_true_eq, List.all_eq_true]
  constructor
  · rintro ⟨⟨h1, h2⟩, h3⟩
    exact ⟨h1, h2, fun r hr => sort_iff.1 (of_decide_eq_true (h3 r hr))⟩
  · rintro ⟨h1, h2, h3⟩
    exact ⟨⟨h1, h2⟩, fun r hr => decide_eq_true (sort_iff.2 (h3 r hr))⟩
theorem OkS.nodup {H : List Txn} {R : List SRow} (h : OkS H R) {r : SRow} (hr : r ∈ R) : r.l.Nodup := (h.perm r hr).nodup_iff.2 (natI_nodup (wrsL_rise H r.key))
theorem OkS.mem {H : List Txn} {R : List SRow} (h : OkS H R) {r : SRow} (hr : r ∈ R) {x : Int} : x ∈ r.l ↔ ∃ n : Nat, x = n ∧ n < H.length ∧ r.key ∈ (txnAt H n).writes := by
  rw [(h.perm r hr).mem_iff, natI_mem]
  constructor
  · rintro ⟨n, hn, e⟩; obtain ⟨h1, h2⟩ := wrsL_mem.1 hn; exact ⟨n, e, h1, h2⟩
  · rintro ⟨n, e, h1, h2⟩; exact ⟨n, wrsL_mem.2 ⟨h1, h2⟩, e⟩
theorem OkS.nat {H : List Txn} {R : List SRow} (h : OkS H R) {r : SRow} (hr : r ∈ R) {n : Nat} (hn : n < H.length) : ((n : Nat) : Int) ∈ r.l ↔ r.key ∈ (txnAt H n).writes := by
  rw [h.mem hr]
  constructor
  · rintro ⟨m, e, h1, h2⟩; obtain rfl : n = m := by omega
    exact h2
  · intro h2; exact ⟨n, rfl, hn, h2⟩
theorem OkS.has {H : List Txn} {R : List SRow} (h : OkS H R) {k : Int} {n : Nat} (hn : n < H.length) (hk : k ∈ (txnAt H n).writes) : ∃ r ∈ R, r.key = k := by
  have : k ∈ keysL H := by rw [txnAt_of hn] at hk; exact keysL_mem.2 ⟨_, List.getElem_mem hn, hk⟩
  rw [← h.keys] at this
  obtain ⟨r, hr, e⟩ := List.mem_map.1 this
  exact ⟨r, hr, e⟩
theorem OkS.one {H : List Txn} {R : List SRow} (h : OkS H R) {r r' : SRow} (hr : r ∈ R) (hr' : r' ∈ R) (e : r.key = r'.key) : r = r' := by
  have hp := keysL_rise H
  rw [← h.keys, List.pairwise_map] at hp
  obtain ⟨i, hi, rfl⟩ := List.getElem_of_mem hr
  obtain ⟨j, hj, rfl⟩ := List.getElem_of_mem hr'
  rw [List.pairwise_iff_getElem] at hp
  rcases Nat.lt_trichotomy i j with g | g | g
  · have := hp i j hi hj g; omega
  · subst g; rfl
  · have := hp j i hj hi g; omega
theorem OkS.key {H : List Txn} {R : List SRow} (h : OkS H R) {r : SRow} (hr : r ∈ R) : 0 ≤ r.key ∧ r.key < 16 := by
  have : r.key ∈ keysL H := by rw [← h.keys]; exact List.mem_map_of_mem hr
  obtain ⟨t, ht, hk⟩ := keysL_mem.1 this
  obtain ⟨i, hi, rfl⟩ := List.getElem_of_mem ht
  exact (((rightH_iff H).1 h.right).2 i hi).wkey _ hk

/-- A number's place in a row. -/
theorem idxI_idxOf {l : List Int} {x : Int} (h : x ∈ l) : idxI l x = (l.idxOf x : Int) := by
  have hi := List.idxOf_lt_length_of_mem h
  refine idxI_hit hi (List.getElem_idxOf _) fun j hj hlt e => ?_
  have : l.idxOf x ≤ j := by
    rw [← e]
    refine Nat.le_of_not_lt fun hgt => ?_
    have := List.not_of_lt_findIdx (p := (· == l[j])) (xs := l) (i := j) (by simpa [List.idxOf] using hgt)
    simp at this
  omega
/-- The place of a transaction's write of a key, from 1 on; 0: nowhere. -/
def placeS (R : List SRow) (k : Int) (t : Int) : Int := match R.find? fun r => decide (r.key = k) with
  | some r => if r.l.contains t then (r.l.idxOf t : Int) + 1 else 0
  | none => 0
def aheadB (R : List SRow) (k a b : Int) : Bool := decide (0 < placeS R k b) && (decide (a < 0) || (decide (0 < placeS R k a) && decide (placeS R k a < placeS R k b)))
def dirS (H : List Txn) (R : List SRow) (x y : Nat) : Bool := soE H x y || redE H x y || (txnAt H x).writes.any fun k => aheadB R k (x : Int) (y : Int)
def ovrS (H : List Txn) (R : List SRow) (x y : Nat) : Bool := decide (x ≠ y) && (txnAt H x).reads.any fun r => aheadB R r.a r.b (y : Int)
/-- All to which an edge leads. -/
def nextY (H : List Txn) (R : List SRow) (x y : Nat) : List Nat := if dirS H R x y then y :: (List.range H.length).filter (ovrS H R y) else []
def nextL (H : List Txn) (R : List SRow) (x : Nat) : List Nat := ((List.range H.length).map (nextY H R x)).flatten
def nextE (H : List Txn) (R : List SRow) : Edges := fun x y => (nextL H R x).contains y
def checkS (H : List Txn) (R : List SRow) : Bool := rightS H R && !cycB H.length (nextE H R)

theorem placeS_at {H : List Txn} {R : List SRow} (h : OkS H R) {r : SRow} (hr : r ∈ R) (t : Int) : placeS R r.key t = if r.l.contains t then (r.l.idxOf t : Int) + 1 else 0 := by
  unfold placeS
  cases hf : R.find? fun x => decide (x.key = r.key) with
  | none => have := List.find?_eq_none.1 hf r hr; simp at this
  | some x =>
    have h1 := List.find?_some hf
    have h2 := List.mem_of_find?_eq_some hf
    rw [decide_eq_true_eq] at h1
    rw [h.one h2 hr h1]
theorem placeS_pos {H : List Txn} {R : List SRow} (h : OkS H R) {k : Int} {n : Nat} (hn : n < H.length) : 0 < placeS R k (n : Int) ↔ k ∈ (txnAt H n).writes := by
  constructor
  · intro hp
    unfold placeS at hp
    cases hf : R.find? fun x => decide (x.key = k) with
    | none => rw [hf] at hp; exact absurd hp (Int.lt_irrefl 0)
    | some r =>
      rw [hf] at hp
      have h1 := List.find?_some hf
      rw [decide_eq_true_eq] at h1
      subst h1
      have h2 := List.mem_of_find?_eq_some hf
      refine (h.nat h2 hn).1 ?_
      by_cases hc : r.l.contains (n : Int) = true
      · exact List.contains_iff_mem.1 hc
      · rw [Bool.not_eq_true] at hc
        simp only [hc] at hp
        exact absurd hp (Int.lt_irrefl 0)
  · intro hk
    obtain ⟨r, hr, rfl⟩ := h.has hn hk
    rw [placeS_at h hr, if_pos (List.contains_iff_mem.2 ((h.nat hr hn).2 hk))]
    omega
theorem choS_mem {H : List Txn} {R : List SRow} (h : OkS H R) {c : Cho} : c ∈ choS H R ↔ ∃ r ∈ R, ∃ p ∈ pairsK r.key (wrsL H r.key), c = ofC r.l p := by
  unfold choS
  rw [if_pos ((okS_iff H R).2 h), List.mem_flatten]
  constructor
  · rintro ⟨l, hl, hc⟩
    obtain ⟨r, hr, rfl⟩ := List.mem_map.1 hl
    obtain ⟨p, hp, e⟩ := List.mem_map.1 hc
    exact ⟨r, hr, p, hp, e.symm⟩
  · rintro ⟨r, hr, p, hp, rfl⟩
    exact ⟨_, List.mem_map_of_mem hr, List.mem_map_of_mem hp⟩
/-- A choice of rows: whose place is ahead. -/
theorem choS_iff {H : List Txn} {R : List SRow} (h : OkS H R) {k : Int} {a b : Nat} (ha : a < H.length) (hb : b < H.length) :
    (⟨k, a, b⟩ : Cho) ∈ choS H R ↔ k ∈ (txnAt H a).writes ∧ k ∈ (txnAt H b).writes ∧ placeS R k a < placeS R k b := by
  rw [choS_mem h]
  have hpl : ∀ {r : SRow}, r ∈ R → ∀ {n : Nat}, n < H.length → r.key ∈ (txnAt H n).writes → placeS R r.key (n : Int) = (r.l.idxOf (n : Int) : Int) + 1 ∧ idxI r.l (n : Int) = (r.l.idxOf (n : Int) : Int) := fun {r} hr {n} hn hk => by
    have hm := (h.nat hr hn).2 hk
    exact ⟨by rw [placeS_at h hr, if_pos (List.contains_iff_mem.2 hm)], idxI_idxOf hm⟩
  have hne : ∀ {r : SRow}, r ∈ R → ∀ {m n : Nat}, m < H.length → n < H.length → r.key ∈ (txnAt H m).writes → r.key ∈ (txnAt H n).writes → m ≠ n → r.l.idxOf (m : Int) ≠ r.l.idxOf (n : Int) := fun {r} hr {m n} hm hn hkm hkn hmn e => by
    have h1 := (h.nat hr hm).2 hkm
    have h2 := (h.nat hr hn).2 hkn
    have e1 := List.getElem_idxOf (List.idxOf_lt_length_of_mem h1)
    have e2 := List.getElem_idxOf (List.idxOf_lt_length_of_mem h2)
    have : r.l[r.l.idxOf (m : Int)]'(List.idxOf_lt_length_of_mem h1) = r.l[r.l.idxOf (n : Int)]'(List.idxOf_lt_length_of_mem h2) := by simp only [e]
    omega
  constructor
  · rintro ⟨r, hr, p, hp, e⟩
    obtain ⟨hpk, x, y, hx, hy, hxm, hym⟩ := pairsK_mem hp
    have hlt := pairsK_lt (wrsL_rise H r.key) hp
    obtain ⟨hx1, hx2⟩ := wrsL_mem.1 hxm
    obtain ⟨hy1, hy2⟩ := wrsL_mem.1 hym
    obtain ⟨px, ix⟩ := hpl hr hx1 hx2
    obtain ⟨py, iy⟩ := hpl hr hy1 hy2
    have hnd := hne hr hx1 hy1 hx2 hy2 (by omega)
    unfold ofC at e
    rw [hx, hy, ix, iy] at e
    split at e
    · next hgt =>
      injection e with e1 e2 e3
      obtain rfl : a = y := by omega
      obtain rfl : b = x := by omega
      rw [hpk] at e1
      subst e1
      exact ⟨hy2, hx2, by omega⟩
    · next hgt =>
      subst e
      obtain rfl : a = x := by have : (a : Int) = x := hx; omega
      obtain rfl : b = y := by have : (b : Int) = y := hy; omega
      have hk : k = r.key := hpk
      subst hk
      exact ⟨hx2, hy2, by omega⟩
  · rintro ⟨hka, hkb, hlt⟩
    obtain ⟨r, hr, rfl⟩ := h.has ha hka
    obtain ⟨pa, ia⟩ := hpl hr ha hka
    obtain ⟨pb, ib⟩ := hpl hr hb hkb
    have hab : a ≠ b := by rintro rfl; omega
    rcases Nat.lt_or_gt_of_ne hab with g | g
    · refine ⟨r, hr, _, pairsK_have (wrsL_rise H r.key) (wrsL_mem.2 ⟨ha, hka⟩) (wrsL_mem.2 ⟨hb, hkb⟩) g, ?_⟩
      unfold ofC
      rw [if_neg]
      show ¬ (idxI r.l (a : Int) > idxI r.l (b : Int))
      omega
    · refine ⟨r, hr, _, pairsK_have (wrsL_rise H r.key) (wrsL_mem.2 ⟨hb, hkb⟩) (wrsL_mem.2 ⟨ha, hka⟩) g, ?_⟩
      unfold ofC
      rw [if_pos]
      show idxI r.l (b : Int) > idxI r.l (a : Int)
      omega
theorem choS_nat {H : List Txn} {R : List SRow} (h : OkS H R) {c : Cho} (hc : c ∈ choS H R) : ∃ a b : Nat, c.a = a ∧ c.b = b ∧ a < H.length ∧ b < H.length := by
  obtain ⟨r, hr, p, hp, rfl⟩ := (choS_mem h).1 hc
  obtain ⟨hpk, x, y, hx, hy, hxm, hym⟩ := pairsK_mem hp
  obtain ⟨hx1, -⟩ := wrsL_mem.1 hxm
  obtain ⟨hy1, -⟩ := wrsL_mem.1 hym
  unfold ofC
  split
  · exact ⟨y, x, hy, hx, hy1, hx1⟩
  · exact ⟨x, y, hx, hy, hx1, hy1⟩
/-- The row's graph is the graph of its choices. -/
theorem dirS_eq {H : List Txn} {R : List SRow} (h : OkS H R) {x y : Nat} (hx : x < H.length) (hy : y < H.length) : dirS H R x y = orE (pastE H) (wwE (choS H R)) x y := by
  have hr := (rightH_iff H).1 h.right
  rw [Bool.eq_iff_iff]
  unfold dirS pastE orE
  rw [Bool.or_eq_true, Bool.or_eq_true, Bool.or_eq_true, Bool.or_eq_true]
  refine or_congr (or_congr Iff.rfl ?_) ?_
  · unfold redE wrE
    rw [Bool.and_eq_true, decide_eq_true_eq]
    refine ⟨fun hm => ⟨?_, hm⟩, And.right⟩
    rintro rfl
    rw [List.any_eq_true] at hm
    obtain ⟨r, hr1, hr2⟩ := hm
    have hr2 := of_decide_eq_true hr2
    rw [txnAt_of hx] at hr1
    have ht := (hr.2 x hx).there r hr1
    rcases (thereB_iff H x r).1 ht with e | ⟨k, hk, e, hne, -⟩
    · omega
    · omega
  · unfold wwE
    rw [List.any_eq_true, List.any_eq_true]
    constructor
    · rintro ⟨k, hk, ha⟩
      unfold aheadB at ha
      rw [Bool.and_eq_true, Bool.or_eq_true, Bool.and_eq_true] at ha
      simp only [decide_eq_true_eq] at ha
      obtain ⟨h1, h2⟩ := ha
      have h3 : placeS R k (x : Int) < placeS R k (y : Int) := by rcases h2 with h2 | h2 <;> omega
      exact ⟨⟨k, x, y⟩, (choS_iff h hx hy).2 ⟨hk, (placeS_pos h hy).1 h1, h3⟩, by simp⟩
    · rintro ⟨⟨k, a, b⟩, hc, hab⟩
      rw [Bool.and_eq_true, decide_eq_true_eq, decide_eq_true_eq] at hab
      obtain ⟨rfl, rfl⟩ := hab
      obtain ⟨h1, h2, h3⟩ := (choS_iff h hx hy).1 hc
      have h4 := (placeS_pos h hx).2 h1
      have h5 := (placeS_pos h hy).2 h2
      refine ⟨k, h1, ?_⟩
      unfold aheadB
      rw [Bool.and_eq_true, Bool.or_eq_true, Bool.and_eq_true]
      simp only [decide_eq_true_eq]
      exact ⟨h5, .inr ⟨h4, h3⟩⟩
theorem ovrS_eq {H : List Txn} {R : List SRow} (h : OkS H R) {x y : Nat} (hx : x < H.length) (hy : y < H.length) : ovrS H R x y = rwE H (choS H R) x y := by
  have hr := (rightH_iff H).1 h.right
  rw [Bool.eq_iff_iff]
  unfold ovrS rwE initE
  rw [Bool.and_eq_true, Bool.or_eq_true, Bool.and_eq_true, List.any_eq_true, List.any_eq_true, List.any_eq_true, decide_eq_true_eq]
  have hthere : ∀ r ∈ (txnAt H x).reads, r.b = -1 ∨ ∃ k, ∃ hk : k < H.length, r.b = (k : Int) ∧ k ≠ x ∧ r.a ∈ H[k].writes := fun r hr1 => by
    rw [txnAt_of hx] at hr1
    exact (thereB_iff H x r).1 ((hr.2 x hx).there r hr1)
  constructor
  · rintro ⟨hne, r, hr1, ha⟩
    unfold aheadB at ha
    rw [Bool.and_eq_true, Bool.or_eq_true, Bool.and_eq_true] at ha
    simp only [decide_eq_true_eq] at ha
    obtain ⟨h1, h2⟩ := ha
    have hky := (placeS_pos h hy).1 h1
    rcases hthere r hr1 with e | ⟨k, hk, e, hkx, hkw⟩
    · refine .inl ⟨hne, r, hr1, ?_⟩
      rw [Bool.and_eq_true, decide_eq_true_eq, List.contains_iff_mem]
      exact ⟨e, hky⟩
    · have h3 : 0 < placeS R r.a r.b ∧ placeS R r.a r.b < placeS R r.a (y : Int) := by
        rcases h2 with h2 | h2
        · omega
        · exact h2
      rw [e] at h3
      refine .inr ⟨⟨r.a, k, y⟩, (choS_iff h hk hy).2 ⟨(placeS_pos h hk).1 h3.1, hky, h3.2⟩, ?_⟩
      rw [Bool.and_eq_true, Bool.and_eq_true, List.any_eq_true]
      simp only [decide_eq_true_eq]
      refine ⟨⟨trivial, hne⟩, r, hr1, ?_⟩
      rw [Bool.and_eq_true, decide_eq_true_eq, decide_eq_true_eq]
      exact ⟨rfl, e⟩
  · rintro (⟨hne, r, hr1, h2⟩ | ⟨c, hc, h2⟩)
    · rw [Bool.and_eq_true, decide_eq_true_eq, List.contains_iff_mem] at h2
      refine ⟨hne, r, hr1, ?_⟩
      unfold aheadB
      rw [Bool.and_eq_true, Bool.or_eq_true]
      simp only [decide_eq_true_eq]
      exact ⟨(placeS_pos h hy).2 h2.2, .inl (by omega)⟩
    · rw [Bool.and_eq_true, Bool.and_eq_true, List.any_eq_true] at h2
      simp only [decide_eq_true_eq] at h2
      obtain ⟨⟨hb, hne⟩, r, hr1, h3⟩ := h2
      rw [Bool.and_eq_true, decide_eq_true_eq, decide_eq_true_eq] at h3
      obtain ⟨a, b, e1, e2, ha, hb'⟩ := choS_nat h hc
      obtain ⟨k, ca, cb⟩ := c
      simp only at hb h3 e1 e2
      subst e1; subst e2
      obtain rfl : b = y := by omega
      obtain ⟨g1, g2, g3⟩ := (choS_iff h ha hb').1 hc
      refine ⟨hne, r, hr1, ?_⟩
      unfold aheadB
      rw [h3.1, h3.2, Bool.and_eq_true, Bool.or_eq_true, Bool.and_eq_true]
      simp only [decide_eq_true_eq]
      exact ⟨(placeS_pos h hb').2 g2, .inr ⟨(placeS_pos h ha).2 g1, g3⟩⟩
theorem nextE_iff {H : List Txn} {R : List SRow} {x z : Nat} : nextE H R x z = true ↔ z < H.length ∧ (dirS H R x z = true ∨ ∃ y, y < H.length ∧ dirS H R x y = true ∧ ovrS H R y z = true) := by
  unfold nextE nextL
  rw [List.contains_iff_mem, List.mem_flatten]
  constructor
  · rintro ⟨l, hl, hz⟩
    obtain ⟨y, hy, rfl⟩ := List.mem_map.1 hl
    have hy := List.mem_range.1 hy
    unfold nextY at hz
    split at hz
    · next hd =>
      rw [List.mem_cons] at hz
      rcases hz with rfl | hz
      · exact ⟨hy, .inl hd⟩
      · obtain ⟨h1, h2⟩ := List.mem_filter.1 hz
        exact ⟨List.mem_range.1 h1, .inr ⟨y, hy, hd, h2⟩⟩
    · cases hz
  · rintro ⟨hz, hd | ⟨y, hy, hd, ho⟩⟩
    · refine ⟨_, List.mem_map.2 ⟨z, List.mem_range.2 hz, rfl⟩, ?_⟩
      unfold nextY
      rw [if_pos hd]; simp
    · refine ⟨_, List.mem_map.2 ⟨y, List.mem_range.2 hy, rfl⟩, ?_⟩
      unfold nextY
      rw [if_pos hd, List.mem_cons]
      exact .inr (List.mem_filter.2 ⟨List.mem_range.2 hz, ho⟩)
theorem nextE_eq {H : List Txn} {R : List SRow} (h : OkS H R) {x z : Nat} (hx : x < H.length) (hz : z < H.length) : nextE H R x z = fullE H 1 (choS H R) x z := by
  have hf : fullE H 1 (choS H R) x z = (orE (pastE H) (wwE (choS H R)) x z || thenE H.length (orE (pastE H) (wwE (choS H R))) (rwE H (choS H R)) x z) := rfl
  rw [Bool.eq_iff_iff, nextE_iff, hf, Bool.or_eq_true, ← dirS_eq h hx hz]
  unfold thenE
  rw [List.any_eq_true]
  constructor
  · rintro ⟨_, hd | ⟨y, hy, hd, ho⟩⟩
    · exact .inl hd
    · exact .inr ⟨y, List.mem_range.2 hy, by rw [Bool.and_eq_true, ← dirS_eq h hx hy, ← ovrS_eq h hy hz]; exact ⟨hd, ho⟩⟩
  · rintro (hd | ⟨y, hy, hd⟩)
    · exact ⟨hz, .inl hd⟩
    · have hy := List.mem_range.1 hy
      rw [Bool.and_eq_true, ← dirS_eq h hx hy, ← ovrS_eq h hy hz] at hd
      exact ⟨hz, .inr ⟨y, hy, hd.1, hd.2⟩⟩
theorem wayB_congr {n : Nat} {E F : Edges} (h : ∀ x y, x < n → y < n → E x y = F x y) : ∀ (l : List Nat) (x y : Nat), x < n → y < n → (∀ a ∈ l, a < n) → wayB E x l y = wayB F x l y
  | [], x, y, hx, hy, _ => h x y hx hy
  | a :: l, x, y, hx, hy, hl => by
    show (E x a && wayB E a l y) = (F x a && wayB F a l y)
    rw [h x a hx (hl a (by simp)), wayB_congr h l a y (hl a (by simp)) hy fun b hb => hl b (by simp [hb])]
theorem cyc_sub {n : Nat} {E F : Edges} (h : ∀ x y, x < n → y < n → E x y = F x y) (hc : cycB n E = true) : cycB n F = true := by
  unfold cycB at hc ⊢
  rw [List.any_eq_true] at hc ⊢
  obtain ⟨x, hx, hc⟩ := hc
  have hxn := List.mem_range.1 hx
  obtain ⟨l, hl, hw⟩ := cloTo_way n x x hc
  rw [wayB_congr h l x x hxn hxn hl] at hw
  exact ⟨x, hx, way_cloTo n l.length l x x (Nat.le_refl _) hl hw⟩
theorem cyc_congr {n : Nat} {E F : Edges} (h : ∀ x y, x < n → y < n → E x y = F x y) : cycB n E = cycB n F := by
  rw [Bool.eq_iff_iff]
  exact ⟨cyc_sub h, cyc_sub fun x y hx hy => (h x y hx hy).symm⟩
/-- Rows show snapshots just if nothing leads back in the graph of their choices. -/
theorem checkS_good (H : List Txn) (R : List SRow) : checkS H R = (rightS H R && goodB H 1 (choS H R)) := by
  unfold checkS goodB
  cases hr : rightS H R with
  | false => rfl
  | true => rw [Bool.true_and, Bool.true_and, cyc_congr fun x y hx hy => nextE_eq ((okS_iff H R).1 hr) hx hy]
end Go.Proofs.YtfhnamomiaekdaaGreatDoor

namespace Go.Proofs.YtfhnamomiaekdaaGreatDoor
open Go.RowKit Go.Inq
set_option maxHeartbeats 4000000
attribute [local go_sem ↓] Go.wp_at_zero Go.wp_at_succ

set_option maxRecDepth 100000 in
theorem writersS_any (A : Option Addr) (c : Nat) (H : List Txn) (key : Int) (w : World) (h : TxnS w (Old w) (.slice A H.length c) H) (hn : SmallH H) :
    Calls Tryz.prog 92 #[.agg #[.slice A H.length c], .int .i64 key] w (OutI w (intsN (wrsL H key))) := by
  obtain ⟨ii, hii, hi1, hi2, hi3⟩ := info_parts infoI10
  obtain ⟨W0, hW0⟩ : ∃ W0, w.alloc (.cells #[.slice A H.length c] 24) = W0 := ⟨_, rfl⟩
  have hB := below_allocEq (Below.refl w.heap.size w) hW0 (Nat.le_refl _)
  have k0 := Blk.newEq hW0
  have h0 := hide (h.below hB)
  have hlen := hn.1
  have hwl := hide (fun i (hi : i < H.length) => (hn.2 _ (List.getElem_mem hi)).1)
  replace hn := hide hn
  replace h := hide h
  have c0 := k0.cell 0
  simp only [List.getElem?_toArray, List.getElem?_cons_zero, List.getElem?_cons_succ] at c0
  go_enter Tryz.func92, Tryz.ntmps92
  go_wp2_with fail
  clear hW0 c0 k0 h0
  have hb := hB
  clear hB
  go_loopw [5, 11] (fun s5 s11 wr => ∃ k : Nat, k ≤ H.length ∧ s11 = .int .i64 k ∧ OwnI wr w.heap.size s5 (intsN (wrsTo H key k)) ∧ Below w.heap.size w wr) (fun _ s11 _ => H.length - (intOf s11).toNat)
  case atStart => exact ⟨0, Nat.zero_le _, by go_num, OwnI.nil _ _, hb⟩
  case round =>
    clear hb
    obtain ⟨k, hk, rfl, hown, hb⟩ := hrel
    have hi1' : (0 : Int) ≤ (k : Int) := Int.natCast_nonneg _
    by_cases hlt : k < H.length
    · have hi2' : (k : Int) < (H.length : Int) := by omega
      obtain ⟨b, off, Aw, cw, Ar, cr, rfl, _, d0, d1, d2, hws, _⟩ := TxnS.at_ (h.out.below hb) hlt
      have hwk := hwl.out k hlt
      have hst := hide (wrsTo_step H key k)
      rw [txnAt_of hlt] at hst
      have hcnt : (wrsTo H key k).length ≤ k := Nat.le_trans (List.length_filter_le _ _) (by simp)
      have hszb := hb.size
      obtain ⟨Av, cv, rfl⟩ := hown.form
      generalize H[k] = t at *
      obtain ⟨ts, ws, rs⟩ := t
      dsimp only at *
      have hws2 := hide (hws.keep (w' := wr.alloc (.cells #[.int .i64 ts, .slice Aw ws.length cw, .slice Ar rs.length cr] 109)) (Agree.alloc (fun b hb => hb) _) (fun b h => h))
      have hb2 := hb.alloc hszb (.cells #[.int .i64 ts, .slice Aw ws.length cw, .slice Ar rs.length cr] 109)
      have hown2 := hown.alloc (.cells #[.int .i64 ts, .slice Aw ws.length cw, .slice Ar rs.length cr] 109)
      clear hws
      replace hown2 := hide hown2
      have hlq := hide (intsN_len (wrsTo H key k))
      have hsn := hide (intsN_snoc (wrsTo H key k) k)
      go_wp2_with fail
      clear d0 d1 d2
      refine (contains_int Aw cw ws key _ _ hws2.out (by unfold maxLen; omega)).mono ?_
      rintro e w3 ⟨rfl, rfl⟩
      have hsz2 := hb2.size
      cases hc : ws.contains key with
      | true =>
        have hst2 : Hid (wrsTo H key (k + 1) = wrsTo H key k ++ [k]) := hide (by rw [hst.out, hc]; rfl)
        clear hc hst
        generalize wr.alloc (.cells #[.int .i64 ts, .slice Aw ws.length cw, .slice Ar rs.length cr] 109) = Wx at *
        go_wp2_with (at_builtin; refine wpList_push (enc := Go.Inq.encI) rfl (.tmp 20) (.tmp 22) 33 rfl w.heap.size 3 ii _ 1 8 Tryz.underlying33 hii hi1 hi2 hi3 rfl (by decide) (.slice Av (intsN (wrsTo H key k)).length cv) (intsN (wrsTo H key k)) rfl hown2.out (fun _ => rfl) (k : Int) _ rfl rfl Go.Inq.encI_one (by rw [hlq.out]; simp [maxLen]; omega) (by rw [hlq.out]; omega) hsz2 w w.heap.size (Nat.le_refl _) hb2 ?_; intro v1 w6 hown1 hg1 hb1 hat1)
        go_roundw
        case rel => exact ⟨k + 1, by omega, by go_num, by unfold OwnI; rw [hst2.out, hsn.out]; exact hown1, hb1⟩
        case measure => simp [intOf]; omega
      | false =>
        have hst2 : Hid (wrsTo H key (k + 1) = wrsTo H key k) := hide (by rw [hst.out, hc]; simp)
        clear hc hst
        go_wp2
        go_roundw
        case rel => exact ⟨k + 1, by omega, by go_num, by unfold OwnI; rw [hst2.out]; exact hown2.out, hb2⟩
        case measure => simp [intOf]; omega
    · obtain rfl : k = H.length := by omega
      go_wp2
      go_ret
      exact ⟨_, rfl, hown, hb⟩
/-- A key, and who writes it, in memory. -/
def SRowR (w : World) (K : Nat → Prop) (cs : List Value) (r : SRow) : Prop := ∃ A c, cs = [.int .i64 r.key, .slice A r.l.length c] ∧ IntS w K (.slice A r.l.length c) r.l
theorem SRowR.stab : Stab SRowR := fun _ _ _ _ _ _ h ha hk => by
  obtain ⟨A, c, h1, h2⟩ := h
  exact ⟨A, c, h1, IntS.keep h2 ha hk⟩
def RowS (w : World) (K : Nat → Prop) (v : Value) (l : List SRow) : Prop := SlR 2 SRowR w K v l
section
variable {w w' : World} {K K' : Nat → Prop} {v : Value} {l : List SRow}
theorem RowS.keep (h : RowS w K v l) (ha : Agree K w w') (hk : ∀ b, K b → K' b) : RowS w' K' v l := SlR.keep SRowR.stab h ha hk
theorem RowS.below (h : RowS w (Old w) v l) (hb : Below w.heap.size w w') : RowS w' (Old w') v l := SlR.below SRowR.stab h hb
theorem RowS.fit (h : RowS w K v l) (hk : ∀ b, K b → K' b) : RowS w K' v l := SlR.fit SRowR.stab h hk
theorem RowS.nil (w : World) (K : Nat → Prop) (A : Option Addr) (c : Nat) : RowS w K (.slice A 0 c) [] := SlR.nil _ _ _ _ _ _
theorem RowS.cap {A : Option Addr} {n c : Nat} (h : RowS w K (.slice A n c) l) : l.length ≤ c := by
  obtain ⟨_, _, e, h1⟩ := SlR.len h
  simp only [Value.slice.injEq] at e
  omega
theorem RowS.at_ {A : Option Addr} {n c : Nat} (h : RowS w K (.slice A n c) l) {i : Nat} (hi : i < l.length) : ∃ b off Ay cy, A = some ⟨b, off, none⟩ ∧ K b ∧ w.cell? ⟨b, off + i * 2, none⟩ = some (.int .i64 l[i].key) ∧ w.cell? ⟨b, off + i * 2 + 1, none⟩ = some (.slice Ay l[i].l.length cy) ∧ IntS w K (.slice Ay l[i].l.length cy) l[i].l := by
  obtain ⟨b, off, cs, hA, hK, -, ⟨Ay, cy, rfl, hy⟩, hc⟩ := SlR.at_ h hi
  exact ⟨b, off, Ay, cy, hA, hK, hc 0 _ rfl, hc 1 _ rfl, hy⟩
end
/-- Sizes of rows that a walk can count. -/
def FitS (R : List SRow) : Prop := R.length ≤ 1000000 ∧ ∀ r ∈ R, r.l.length ≤ 1000000
end Go.Proofs.YtfhnamomiaekdaaGreatDoor

namespace Go.Proofs.YtfhnamomiaekdaaGreatDoor
open Go.Joins Go.ChangeShapes Go.WideShapes Go.ChangeAt Go.RowKit Go.Deep Go.Inq
section
variable {H : Type} {enc : TypeId × Value → H} {w : World} {base : Nat} {spare : Nat → Bool} {held : Bool}

theorem open_srow {n : Nat} {cs : List Value} {x : DataW H × List MemPlace} (hC : Tryz.prog.cellsOf 72 = 2) (h : DataW.trod enc Tryz.prog w base spare held n 72 cs = some x) : ∃ r : SRow, SRowR w (Old w) cs r ∧ r.l.length ≤ maxLen := by
  obtain ⟨y0, y1, n', _, hl, h0, h1⟩ := trod_struct2 Tryz.underlying72 h
  rw [hC] at hl
  have e1 : Tryz.prog.cellsOf 3 = 1 := by kernel_rfl
  have e3 : Tryz.prog.cellsOf 33 = 1 := by kernel_rfl
  simp only [e1, e3] at h0 h1
  match cs, hl with
  | [a, b], _ =>
    obtain ⟨k0, g0, _⟩ := DataW.trod_int Tryz.underlying3 h0
    simp at g0
    have h1' : DataW.trod enc Tryz.prog w base spare held n' 33 [b] = some y1 := by simpa using h1
    obtain ⟨A, c', l, hv, hev, hle⟩ := open_nums h1'
    exact ⟨⟨k0, l⟩, ⟨A, c', by rw [g0, hv], hev⟩, hle⟩
theorem open_srows {n : Nat} {v : Value} {x : DataW H × List MemPlace} (h : DataW.trod enc Tryz.prog w base spare held n 69 [v] = some x) :
    ∃ (A : Option Addr) (c : Nat) (l : List SRow), v = .slice A l.length c ∧ RowS w (Old w) (.slice A l.length c) l ∧ l.length ≤ maxLen ∧ ∀ r ∈ l, r.l.length ≤ maxLen :=
  open_rows (R := SRowR) (size := 2) (fun r => r.l.length ≤ maxLen) ⟨0, []⟩ Tryz.underlying69 (by kernel_rfl) (by decide) (fun n cs x h => open_srow (by kernel_rfl) h) h
end
end Go.Proofs.YtfhnamomiaekdaaGreatDoor
