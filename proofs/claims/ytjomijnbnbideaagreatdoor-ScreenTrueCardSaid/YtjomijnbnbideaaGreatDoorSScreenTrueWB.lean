/-
  Plain words of layer 20: an order shows a history to be serializable; some does just if some way to choose all pairs is good at Ser; no program in sight.
-/
import Derived.Test.YtjomijnbnbideaaGreatDoorS33
import Derived.Test.YtjomijnbnbideaaGreatDoorS32
import Derived.Test.YtjomijnbnbideaaGreatDoorS15
import Derived.Test.YtjomijnbnbideaaGreatDoorS04
import Derived.Test.YtjomijnbnbideaaGreatDoorSScreenTrueWA
set_option linter.unusedVariables false
set_option linter.unusedSimpArgs false
namespace Go.Proofs.YtjomijnbnbideaaGreatDoor
open Go.RowKit Go.Inq

/-- Who writes a key, at a place of an order. -/
def wrA (H : List Txn) (π : List Int) (key : Int) (i : Nat) : Bool := (txnAt H (π.getD i 0).toNat).writes.contains key
/-- From whom the transaction at a place reads a key. -/
def fromB (H : List Txn) (π : List Int) (key : Int) : Nat → Int
  | 0 => -1
  | k + 1 => if wrA H π key k then π.getD k 0 else fromB H π key k
theorem from_spec (H : List Txn) (π : List Int) (key : Int) : ∀ k, (fromB H π key k = -1 ∧ ∀ i, i < k → wrA H π key i = false) ∨ ∃ i, i < k ∧ fromB H π key k = π.getD i 0 ∧ wrA H π key i = true ∧ ∀ j, i < j → j < k → wrA H π key j = false
  | 0 => .inl ⟨rfl, fun i hi => absurd hi (by omega)⟩
  | k + 1 => by
    unfold fromB
    cases h : wrA H π key k with
    | true =>
      rw [if_pos rfl]
      exact .inr ⟨k, by omega, rfl, h, fun j h1 h2 => absurd h1 (by omega)⟩
    | false =>
      rw [if_neg (by decide)]
      rcases from_spec H π key k with ⟨h1, h2⟩ | ⟨i, h1, h2, h3, h4⟩
      · refine .inl ⟨h1, fun i hi => ?_⟩
        by_cases e : i = k
        · subst e; exact h
        · exact h2 i (by omega)
      · refine .inr ⟨i, by omega, h2, h3, fun j hj1 hj2 => ?_⟩
        by_cases e : j = k
        · subst e; exact h
        · exact h4 j hj1 (by omega)
/-- What each transaction reads, one by one. -/
def playL (H : List Txn) (π : List Int) (t : Nat) : List It := (txnAt H t).reads.map fun r => ⟨r.a, fromB H π r.a (π.idxOf (t : Int))⟩
def sessB (H : List Txn) (π : List Int) : Bool := (List.range π.length).all fun i => (List.range i).all fun k => !(decide (π.getD k 0 > π.getD i 0) && decide ((txnAt H (π.getD k 0).toNat).sess = (txnAt H (π.getD i 0).toNat).sess))
def readsB (H : List Txn) (π : List Int) : Bool := (List.range H.length).all fun t => decide ((txnAt H t).reads = playL H π t)
/-- Does an order show that a history is what its transactions do, one by one? -/
def checkB (H : List Txn) (π : List Int) : Bool := permB π H.length && readsB H π && sessB H π
/-- All orders that begin so. -/
def nextB (H : List Txn) : Nat → List Int → Bool
  | 0, l => checkB H l
  | d + 1, l => (List.range H.length).any fun t => !l.contains (t : Int) && nextB H d (l ++ [(t : Int)])
def serB (H : List Txn) : Bool := nextB H H.length []

theorem nextB_some {H : List Txn} : ∀ d l, nextB H d l = true → ∃ q, checkB H (l ++ q) = true
  | 0, l, h => ⟨[], by rw [List.append_nil]; exact h⟩
  | d + 1, l, h => by
    unfold nextB at h
    rw [List.any_eq_true] at h
    obtain ⟨t, _, h2⟩ := h
    rw [Bool.and_eq_true] at h2
    obtain ⟨q, hq⟩ := nextB_some d _ h2.2
    exact ⟨(t : Int) :: q, by rw [List.append_assoc] at hq; exact hq⟩
theorem nextB_of {H : List Txn} : ∀ d l q, q.length = d → checkB H (l ++ q) = true → nextB H d l = true
  | 0, l, q, hq, h => by
    obtain rfl := List.eq_nil_of_length_eq_zero hq
    rw [List.append_nil] at h
    exact h
  | d + 1, l, [], hq, h => by simp at hq
  | d + 1, l, x :: q, hq, h => by
    have hp : permB (l ++ x :: q) H.length = true := by
      unfold checkB at h
      simp only [Bool.and_eq_true] at h
      exact h.1.1
    have hb := perm_bd hp (j := l.length) (by simp)
    rw [List.getElem_append_right (Nat.le_refl _)] at hb
    simp only [Nat.sub_self, List.getElem_cons_zero] at hb
    obtain ⟨t, rfl⟩ : ∃ t : Nat, x = (t : Int) := ⟨x.toNat, by omega⟩
    unfold nextB
    rw [List.any_eq_true]
    refine ⟨t, List.mem_range.2 (by omega), ?_⟩
    have hnd := perm_nodup hp
    rw [List.nodup_append] at hnd
    have hc : l.contains (t : Int) = false := by
      rw [Bool.eq_false_iff]
      intro hc
      exact hnd.2.2 _ (List.contains_iff_mem.1 hc) _ (by simp) rfl
    rw [hc, nextB_of d (l ++ [(t : Int)]) q (by simpa using hq) (by rw [List.append_assoc]; exact h)]
    rfl
theorem serB_iff {H : List Txn} : serB H = true ↔ ∃ π, checkB H π = true := by
  unfold serB
  constructor
  · intro h
    obtain ⟨q, hq⟩ := nextB_some _ _ h
    exact ⟨q, by simpa using hq⟩
  · rintro ⟨π, h⟩
    have hp : permB π H.length = true := by
      unfold checkB at h
      simp only [Bool.and_eq_true] at h
      exact h.1.1
    exact nextB_of _ [] π (perm_len hp) (by simpa using h)

/-- Two that write one key are a pair. -/
theorem pairsK_have {key : Int} {a b : Nat} : ∀ {l : List Nat}, l.Pairwise (· < ·) → a ∈ l → b ∈ l → a < b → (⟨key, a, b⟩ : Cho) ∈ pairsK key l
  | [], _, h, _, _ => by cases h
  | x :: r, hp, ha, hb, hab => by
    rw [List.pairwise_cons] at hp
    unfold pairsK
    rw [List.mem_append]
    rw [List.mem_cons] at ha hb
    rcases ha with rfl | ha
    · rcases hb with rfl | hb
      · omega
      · exact .inl (List.mem_map.2 ⟨b, hb, rfl⟩)
    · rcases hb with rfl | hb
      · have := hp.1 a ha; omega
      · exact .inr (pairsK_have hp.2 ha hb hab)
theorem pairsL_have {H : List Txn} {key : Int} {a b : Nat} (hab : a < b) (hb : b < H.length) (ha1 : key ∈ (txnAt H a).writes) (hb1 : key ∈ (txnAt H b).writes) : (⟨key, a, b⟩ : Cho) ∈ pairsL H := by
  unfold pairsL
  refine List.mem_flatten.2 ⟨_, List.mem_map.2 ⟨key, ?_, rfl⟩, pairsK_have (wrsL_rise H key) (wrsL_mem.2 ⟨by omega, ha1⟩) (wrsL_mem.2 ⟨hb, hb1⟩) hab⟩
  rw [txnAt_of hb] at hb1
  exact keysL_mem.2 ⟨_, List.getElem_mem hb, hb1⟩

/-- A place in an order. -/
theorem perm_at {π : List Int} {n x : Nat} (h : permB π n = true) (hx : x < n) : ∃ hi : π.idxOf (x : Int) < π.length, π[π.idxOf (x : Int)] = (x : Int) := ⟨List.idxOf_lt_length_of_mem (perm_has h hx), List.getElem_idxOf _⟩
theorem perm_inj {π : List Int} {n x y : Nat} (h : permB π n = true) (hx : x < n) (hy : y < n) (he : π.idxOf (x : Int) = π.idxOf (y : Int)) : x = y := by
  obtain ⟨h1, e1⟩ := perm_at h hx
  obtain ⟨h2, e2⟩ := perm_at h hy
  have : π[π.idxOf (x : Int)] = π[π.idxOf (y : Int)] := by simp only [he]
  omega
theorem perm_idx {π : List Int} {n i : Nat} (h : permB π n = true) (hi : i < π.length) : π.idxOf π[i] = i := by
  have h1 : π.idxOf π[i] < π.length := List.idxOf_lt_length_of_mem (List.getElem_mem hi)
  have h2 : π[π.idxOf π[i]] = π[i] := List.getElem_idxOf _
  rcases Nat.lt_trichotomy (π.idxOf π[i]) i with g | g | g
  · exact absurd h2 (perm_ne h g hi)
  · exact g
  · exact absurd h2.symm (perm_ne h g h1)
theorem getD_at {π : List Int} {i : Nat} (hi : i < π.length) : π.getD i 0 = π[i] := by rw [List.getD_eq_getElem?_getD, List.getElem?_eq_getElem hi, Option.getD_some]
/-- The order's own choices: the first stands ahead. -/
theorem of_ahead {H : List Txn} {π : List Int} (h : permB π H.length = true) {c : Cho} (hc : c ∈ decW H π) : ∃ a b : Nat, c.a = a ∧ c.b = b ∧ a < H.length ∧ b < H.length ∧ c.key ∈ (txnAt H a).writes ∧ c.key ∈ (txnAt H b).writes ∧ π.idxOf (a : Int) < π.idxOf (b : Int) := by
  rw [← ofL_dec h] at hc
  unfold ofL at hc
  obtain ⟨p, hp, rfl⟩ := List.mem_map.1 hc
  obtain ⟨a, b, ha, hb, hab, hbn, h1, h2⟩ := pairsL_mem hp
  have hI : ∀ x, x < H.length → idxI π (x : Int) = π.idxOf (x : Int) := fun x hx => by
    obtain ⟨hi, he⟩ := perm_at h hx
    refine idxI_hit hi he fun j hj hlt e => ?_
    exact perm_ne h hlt hi (by rw [he]; exact e)
  have hne : π.idxOf (a : Int) ≠ π.idxOf (b : Int) := fun e => by
    have := perm_inj h (by omega) hbn e
    omega
  have e1 := hI a (by omega)
  have e2 := hI b hbn
  unfold ofC
  rw [ha, hb, e1, e2]
  split
  · exact ⟨b, a, rfl, rfl, hbn, by omega, h2, h1, by omega⟩
  · exact ⟨a, b, ha, hb, by omega, hbn, h1, h2, by omega⟩
theorem ser_good {H : List Txn} {π : List Int} (h : checkB H π = true) : goodB H 0 (decW H π) = true := by
  unfold checkB at h
  simp only [Bool.and_eq_true] at h
  obtain ⟨⟨hp, hr⟩, hs⟩ := h
  have hR : ∀ t, t < H.length → ∀ r ∈ (txnAt H t).reads, r.b = fromB H π r.a (π.idxOf (t : Int)) := fun t ht r hr2 => by
    unfold readsB at hr
    rw [List.all_eq_true] at hr
    have h1 := of_decide_eq_true (hr t (List.mem_range.2 ht))
    unfold playL at h1
    obtain ⟨i, hi, rfl⟩ := List.getElem_of_mem hr2
    have h2 := congrArg (fun l => l[i]?) h1
    simp only [List.getElem?_map, List.getElem?_eq_getElem hi, Option.map_some, Option.some.injEq] at h2
    have h3 := congrArg It.b h2
    exact h3
  have hwA : ∀ x, x < H.length → ∀ key, key ∈ (txnAt H x).writes → wrA H π key (π.idxOf (x : Int)) = true := fun x hx key hk => by
    obtain ⟨hi, he⟩ := perm_at hp hx
    unfold wrA
    rw [getD_at hi, he, Int.toNat_natCast]
    exact List.contains_iff_mem.2 hk
  have hso : ∀ a b, a < H.length → b < H.length → soE H a b = true → π.idxOf (a : Int) < π.idxOf (b : Int) := fun a b ha hb he => by
    unfold soE at he
    rw [Bool.and_eq_true] at he
    have hab := of_decide_eq_true he.1
    refine Classical.byContradiction fun hno => ?_
    have hne : π.idxOf (a : Int) ≠ π.idxOf (b : Int) := fun e => by have := perm_inj hp ha hb e; omega
    obtain ⟨i1, e1⟩ := perm_at hp ha
    obtain ⟨i2, e2⟩ := perm_at hp hb
    unfold sessB at hs
    rw [List.all_eq_true] at hs
    have h1 := hs _ (List.mem_range.2 i1)
    rw [List.all_eq_true] at h1
    have h2 := h1 (π.idxOf (b : Int)) (List.mem_range.2 (by omega))
    rw [getD_at i1, getD_at i2, e1, e2, Int.toNat_natCast, Int.toNat_natCast, decide_eq_true (show ((b : Nat) : Int) > (a : Int) by omega), decide_eq_true (of_decide_eq_true he.2).symm] at h2
    cases h2
  have hwr : ∀ a b, a < H.length → b < H.length → wrE H a b = true → π.idxOf (a : Int) < π.idxOf (b : Int) := fun a b ha hb he => by
    unfold wrE at he
    rw [Bool.and_eq_true, List.any_eq_true] at he
    obtain ⟨_, r, hr2, hra⟩ := he
    have hra := of_decide_eq_true hra
    have h1 := hR b hb r hr2
    rcases from_spec H π r.a (π.idxOf (b : Int)) with ⟨g, _⟩ | ⟨i, g1, g2, _, _⟩
    · omega
    · obtain ⟨i2, e2⟩ := perm_at hp hb
      have hil : i < π.length := by omega
      rw [getD_at hil] at g2
      have : π[i] = (a : Int) := by omega
      have hx := perm_idx hp hil
      rw [this] at hx
      omega
  have hin : ∀ a b, a < H.length → b < H.length → initE H a b = true → π.idxOf (a : Int) < π.idxOf (b : Int) := fun a b ha hb he => by
    unfold initE at he
    rw [Bool.and_eq_true, List.any_eq_true] at he
    obtain ⟨hne, r, hr2, hra⟩ := he
    rw [Bool.and_eq_true, List.contains_iff_mem] at hra
    have hne := of_decide_eq_true hne
    have hr1 := of_decide_eq_true hra.1
    have h1 := hR a ha r hr2
    obtain ⟨i2, e2⟩ := perm_at hp ha
    rcases from_spec H π r.a (π.idxOf (a : Int)) with ⟨_, g⟩ | ⟨i, g1, g2, _, _⟩
    · refine Classical.byContradiction fun hno => ?_
      have hne2 : π.idxOf (a : Int) ≠ π.idxOf (b : Int) := fun e => hne (perm_inj hp ha hb e)
      have := g _ (show π.idxOf (b : Int) < _ by omega)
      rw [hwA b hb r.a hra.2] at this
      cases this
    · have hil : i < π.length := by omega
      rw [getD_at hil] at g2
      have := perm_bd hp hil
      omega
  unfold goodB
  rw [Bool.not_eq_true']
  refine cyc_rank (fun x => π.idxOf (x : Int)) fun x y hx hy he => ?_
  unfold fullE at he
  rw [if_neg (by decide)] at he
  have he : ((pastE H x y || wwE (decW H π) x y) || rwE H (decW H π) x y) = true := he
  rw [Bool.or_eq_true, Bool.or_eq_true] at he
  rcases he with (he | he) | he
  · unfold pastE orE at he
    rw [Bool.or_eq_true] at he
    exact he.elim (hso x y hx hy) (hwr x y hx hy)
  · unfold wwE at he
    rw [List.any_eq_true] at he
    obtain ⟨c, hc, h2⟩ := he
    rw [Bool.and_eq_true] at h2
    obtain ⟨a, b, e1, e2, _, _, _, _, hlt⟩ := of_ahead hp hc
    have h3 := of_decide_eq_true h2.1
    have h4 := of_decide_eq_true h2.2
    obtain rfl : a = x := by omega
    obtain rfl : b = y := by omega
    exact hlt
  · unfold rwE at he
    rw [Bool.or_eq_true] at he
    rcases he with he | he
    · exact hin x y hx hy he
    · rw [List.any_eq_true] at he
      obtain ⟨c, hc, h2⟩ := he
      simp only [Bool.and_eq_true, List.any_eq_true] at h2
      obtain ⟨⟨h3, h4⟩, r, hr2, h5, h6⟩ := h2
      have h3 := of_decide_eq_true h3
      have h4 := of_decide_eq_true h4
      have h5 := of_decide_eq_true h5
      have h6 := of_decide_eq_true h6
      obtain ⟨a, b, e1, e2, ha, hb, hwa, hwb, hlt⟩ := of_ahead hp hc
      obtain rfl : b = y := by omega
      refine Classical.byContradiction fun hno => ?_
      have hne2 : π.idxOf (x : Int) ≠ π.idxOf (b : Int) := fun e => h4 (perm_inj hp hx hb e)
      have h1 := hR x hx r hr2
      obtain ⟨i2, e2'⟩ := perm_at hp hx
      rcases from_spec H π r.a (π.idxOf (x : Int)) with ⟨g, _⟩ | ⟨i, g1, g2, _, g4⟩
      · omega
      · have hil : i < π.length := by omega
        rw [getD_at hil] at g2
        have hia : π[i] = (a : Int) := by omega
        have hx2 := perm_idx hp hil
        rw [hia] at hx2
        have := g4 (π.idxOf (b : Int)) (by omega) (by omega)
        rw [h5, hwA b hb _ hwb] at this
        cases this
theorem good_ser {H : List Txn} {m : List Cho} (hr : rightH H = true) (hm : allW (pairsL H) m) (hg : goodB H 0 m = true) : ∃ π, checkB H π = true := by
  obtain ⟨o, ht⟩ := good_topo hg
  have hp := ht.perm
  have hfull : ∀ x y, ((pastE H x y || wwE m x y) || rwE H m x y) = true → fullE H 0 m x y = true := fun x y h => by
    unfold fullE
    rw [if_neg (by decide)]
    exact h
  generalize hπ : (o.map fun (x : Nat) => (x : Int)) = π at hp
  have hpos : ∀ x, x < H.length → π.idxOf (x : Int) = o.idxOf x := fun x hx => by
    obtain ⟨hi, he⟩ := ht.at_ hx
    have hi2 : o.idxOf x < π.length := by rw [← hπ, List.length_map]; exact hi
    have : π[o.idxOf x] = (x : Int) := by subst hπ; rw [List.getElem_map, he]
    rw [← this]
    exact perm_idx hp hi2
  have hup : ∀ x y, x < H.length → y < H.length → ((pastE H x y || wwE m x y) || rwE H m x y) = true → π.idxOf (x : Int) < π.idxOf (y : Int) := fun x y hx hy h => by
    rw [hpos x hx, hpos y hy]
    exact ht.up hx hy (hfull x y h)
  have hbd : ∀ i (hi : i < π.length), ∃ u : Nat, u < H.length ∧ π[i] = (u : Int) ∧ π.idxOf (u : Int) = i := fun i hi => by
    have h1 := perm_bd hp hi
    refine ⟨π[i].toNat, by omega, by omega, ?_⟩
    rw [show ((π[i].toNat : Nat) : Int) = π[i] by omega]
    exact perm_idx hp hi
  refine ⟨π, ?_⟩
  unfold checkB
  rw [hp, Bool.true_and, Bool.and_eq_true]
  constructor
  · unfold readsB
    rw [List.all_eq_true]
    intro t ht2
    have ht2 := List.mem_range.1 ht2
    refine decide_eq_true ?_
    unfold playL
    refine List.ext_getElem (by simp) fun i h1 h2 => ?_
    rw [List.getElem_map]
    generalize hrr : (txnAt H t).reads[i] = r
    have hmem : r ∈ (txnAt H t).reads := by rw [← hrr]; exact List.getElem_mem h1
    suffices hs : r.b = fromB H π r.a (π.idxOf (t : Int)) by rw [← hs]
    obtain ⟨it, et⟩ := perm_at hp ht2
    have hth := (((rightH_iff H).1 hr).2 t ht2).there r (by rw [← txnAt_of ht2]; exact hmem)
    rcases from_spec H π r.a (π.idxOf (t : Int)) with ⟨g1, g2⟩ | ⟨j, g1, g2, g3, g4⟩
    · rcases (thereB_iff H t r).1 hth with e | ⟨k, hk, e1, e2, e3⟩
      · rw [e, g1]
      · exfalso
        have hlt := hup k t hk ht2 (by
          have : pastE H k t = true := by
            unfold pastE orE wrE
            rw [Bool.or_eq_true]
            right
            rw [Bool.and_eq_true, List.any_eq_true]
            exact ⟨decide_eq_true e2, r, hmem, decide_eq_true e1⟩
          rw [this]; rfl)
        have := g2 _ hlt
        obtain ⟨ik, ek⟩ := perm_at hp hk
        unfold wrA at this
        rw [getD_at ik, ek, Int.toNat_natCast, txnAt_of hk, List.contains_iff_mem.2 e3] at this
        cases this
    · have hjl : j < π.length := by omega
      obtain ⟨u, hu, eu, iu⟩ := hbd j hjl
      have hut : u ≠ t := fun e => by subst e; omega
      unfold wrA at g3
      rw [getD_at hjl, eu, Int.toNat_natCast, List.contains_iff_mem] at g3
      rw [getD_at hjl, eu] at g2
      rcases (thereB_iff H t r).1 hth with e | ⟨k, hk, e1, e2, e3⟩
      · exfalso
        have hlt := hup t u ht2 hu (by
          have : initE H t u = true := by
            unfold initE
            rw [Bool.and_eq_true, List.any_eq_true]
            exact ⟨decide_eq_true hut.symm, r, hmem, by rw [Bool.and_eq_true, List.contains_iff_mem]; exact ⟨decide_eq_true e, g3⟩⟩
          unfold rwE
          rw [this]; simp)
        omega
      · by_cases huk : u = k
        · subst huk; rw [e1, g2]
        · exfalso
          have hlt := hup k t hk ht2 (by
            have : pastE H k t = true := by
              unfold pastE orE wrE
              rw [Bool.or_eq_true]
              right
              rw [Bool.and_eq_true, List.any_eq_true]
              exact ⟨decide_eq_true e2, r, hmem, decide_eq_true e1⟩
            rw [this]; rfl)
          obtain ⟨ik, ek⟩ := perm_at hp hk
          have hkw : r.a ∈ (txnAt H k).writes := by rw [txnAt_of hk]; exact e3
          have hku : π.idxOf (k : Int) < π.idxOf (u : Int) := by
            have hne : π.idxOf (k : Int) ≠ π.idxOf (u : Int) := fun e => huk (perm_inj hp hk hu e).symm
            refine Classical.byContradiction fun hno => ?_
            have := g4 (π.idxOf (k : Int)) (by omega) hlt
            unfold wrA at this
            rw [getD_at ik, ek, Int.toNat_natCast, List.contains_iff_mem.2 hkw] at this
            cases this
          have hch : (⟨r.a, k, u⟩ : Cho) ∈ m ∨ (⟨r.a, u, k⟩ : Cho) ∈ m := by
            rcases Nat.lt_or_ge u k with g | g
            · have := allW_has hm _ (pairsL_have g hk g3 hkw)
              exact this.symm.imp id id
            · exact allW_has hm _ (pairsL_have (show k < u by omega) hu hkw g3)
          rcases hch with hch | hch
          · have := hup t u ht2 hu (by
              have : rwE H m t u = true := by
                unfold rwE
                rw [Bool.or_eq_true]
                right
                rw [List.any_eq_true]
                refine ⟨_, hch, ?_⟩
                simp only [Bool.and_eq_true, List.any_eq_true]
                exact ⟨⟨by simp, decide_eq_true hut.symm⟩, r, hmem, by simp, decide_eq_true e1⟩
              rw [this]; simp)
            omega
          · have := hup u k hu hk (by
              have : wwE m u k = true := by
                unfold wwE
                rw [List.any_eq_true]
                exact ⟨_, hch, by simp⟩
              rw [this]; simp)
            omega
  · unfold sessB
    rw [List.all_eq_true]
    intro i hi
    have hi := List.mem_range.1 hi
    rw [List.all_eq_true]
    intro k hk
    have hk := List.mem_range.1 hk
    obtain ⟨u, hu, eu, iu⟩ := hbd i hi
    obtain ⟨v, hv, ev, iv⟩ := hbd k (by omega)
    rw [getD_at hi, getD_at (show k < π.length by omega), eu, ev, Int.toNat_natCast, Int.toNat_natCast, Bool.not_eq_true', Bool.and_eq_false_iff]
    refine Classical.byContradiction fun hno => ?_
    simp only [decide_eq_false_iff_not, not_or, Classical.not_not] at hno
    have := hup u v hu hv (by
      have : soE H u v = true := by
        unfold soE
        rw [Bool.and_eq_true]
        exact ⟨decide_eq_true (by omega), decide_eq_true hno.2.symm⟩
      unfold pastE orE
      rw [this]; rfl)
    omega
/-- Some order shows it just if some way to choose all pairs is good. -/
theorem ser_has {H : List Txn} (hr : rightH H = true) : serB H = hasB H 0 := by
  rw [Bool.eq_iff_iff, serB_iff]
  constructor
  · rintro ⟨π, h⟩
    have hp : permB π H.length = true := by
      unfold checkB at h
      simp only [Bool.and_eq_true] at h
      exact h.1.1
    exact has_of_dec hp (ser_good h)
  · intro h
    obtain ⟨m, hm, hg⟩ := hasB_iff.1 h
    exact good_ser hr hm hg
end Go.Proofs.YtjomijnbnbideaaGreatDoor

namespace Go.Proofs.YtjomijnbnbideaaGreatDoor
open Go.RowKit Go.Inq
set_option maxHeartbeats 8000000
attribute [local go_sem ↓] Go.wp_at_zero Go.wp_at_succ

set_option maxRecDepth 100000 in
theorem rfrom20_any (A : Option Addr) (c : Nat) (H : List Txn) (Ap : Option Addr) (cp : Nat) (π : List Int) (k : Nat) (key : Int) (w : World) (h : TxnS w (Old w) (.slice A H.length c) H) (hP : IntS w (Old w) (.slice Ap π.length cp) π) (hn : SmallH H) (hb : ∀ i (hi : i < π.length), 0 ≤ π[i] ∧ π[i] < (H.length : Int)) (hk : k ≤ π.length) (hpl : π.length ≤ 1000000) :
    Calls Tryz.prog 216 #[.agg #[.slice A H.length c], .slice Ap π.length cp, .int .i64 (k : Int), .int .i64 key] w fun e w' => e = .returned (.int .i64 (fromB H π key k)) ∧ Below w.heap.size w w' := by
  obtain ⟨W0, hW0⟩ : ∃ W0, w.alloc (.cells #[.slice A H.length c] 24) = W0 := ⟨_, rfl⟩
  have hB := below_allocEq (Below.refl w.heap.size w) hW0 (Nat.le_refl _)
  have k0 := Blk.newEq hW0
  have hT := hide (h.below hB)
  have hI := hide (hP.below hB)
  have hstep := hide (fun (q : Nat) (g : wrA H π key q = false) => (by show (if _ then _ else _) = _; rw [g, if_neg (by decide)] : fromB H π key (q + 1) = fromB H π key q))
  have hyes := hide (fun (q : Nat) (g : wrA H π key q = true) => (by show (if _ then _ else _) = _; rw [g, if_pos rfl] : fromB H π key (q + 1) = π.getD q 0))
  have hno : Hid (fromB H π key 0 = -1) := hide rfl
  have hwa := hide (fun (q : Nat) (g : q < π.length) => (by unfold wrA; rw [getD_at g] : wrA H π key q = (txnAt H (π[q]).toNat).writes.contains key))
  obtain ⟨r, hr⟩ : ∃ r, fromB H π key k = r := ⟨_, rfl⟩
  rw [hr]
  replace hr := hide hr
  replace hb := hide hb
  clear h hP
  go_enter Tryz.func216, Tryz.ntmps216
  go_upto_region 1 with fail
  clear hW0
  go_wp2_with fail
  go_loopw [9] (fun s9 wr => ∃ j : Int, -1 ≤ j ∧ j < (k : Int) ∧ s9 = .int .i64 j ∧ Hid (fromB H π key (j + 1).toNat = r) ∧ Below W0.heap.size W0 wr) (fun s9 _ => (intOf s9 + 1).toNat)
  case atStart => exact ⟨(k : Int) - 1, by omega, by omega, rfl, hide (by rw [show ((k : Int) - 1 + 1).toNat = k by omega]; exact hr.out), Below.refl _ _⟩
  case round =>
    obtain ⟨j, hj1, hj2, rfl, hrr, hbr⟩ := hrel
    by_cases hj0 : 0 ≤ j
    · obtain ⟨q, rfl⟩ : ∃ q : Nat, j = (q : Int) := ⟨j.toNat, by omega⟩
      have hq : q < k := by omega
      have hqp : q < π.length := by omega
      have hq2 : (q : Int) < (π.length : Int) := by omega
      obtain ⟨bp, op, rfl, -, x0⟩ := (hI.out.below hbr).at_ hqp
      have hbq := hb.out q hqp
      have hrr2 : Hid (fromB H π key (q + 1) = r) := hide (by have := hrr.out; rwa [show ((q : Int) + 1).toNat = q + 1 by omega] at this)
      have hst := hide (hstep.out q)
      have hys := hide (hyes.out q)
      have hwq := hwa.out q hqp
      have hgd := getD_at hqp
      obtain ⟨m, hpm⟩ : ∃ m : Nat, π[q] = (m : Int) := ⟨π[q].toNat, by omega⟩
      rw [hpm] at hbq x0
      rw [hpm] at hwq hgd
      replace hpm := hide hpm
      replace hgd := hide hgd
      have hm : m < H.length := by omega
      have hm2 : (m : Int) < (H.length : Int) := by omega
      obtain ⟨bt, ot, Aw, cw, Ar, cr, rfl, _, d0, d1, d2, hws, _⟩ := TxnS.at_ (hT.out.below hbr) hm
      have k1 := k0.below hbr k0.lt
      have c0 := k1.cell 0
      simp only [List.getElem?_toArray, List.getElem?_cons_zero, List.getElem?_cons_succ] at c0
      have hwl : H[m].writes.length ≤ maxLen := by have := (hn.2 _ (List.getElem_mem hm)).1; unfold maxLen; omega
      have hwm : Hid (wrA H π key q = H[m].writes.contains key) := hide (by rw [hwq, Int.toNat_natCast, txnAt_of hm])
      have hcw := hide (writes08_any H[m].sess Aw cw H[m].writes (.slice Ar H[m].reads.length cr) key (Old wr) wr.drew (hws.keep (Agree.drew _ _) (fun b h => h)) (fun b h => h) hwl)
      generalize H[m].writes = L at *
      generalize H[m].sess = sy at *
      generalize H[m].reads = Ry at *
      generalize L.contains key = cb at *
      clear hws hwq
      go_wp2_with fail
      refine wp_region_still_tail 9 (by kernel_rfl) (by kernel_rfl) ?_
      simp only [List.take_succ_cons, List.take_zero, List.drop_succ_cons, List.drop_zero]
      repeat still_step
      refine wpStill_nil ?_
      go_wp2_with fail
      refine hcw.out.mono ?_
      rintro e w3 ⟨rfl, hb3⟩
      have hb4 := (below_drew hbr).trans (hb3.mono hbr.size)
      clear hcw c0 d0 d1 d2 x0
      obtain ⟨bp', op', e', -, x0⟩ := (hI.out.below hb4).at_ hqp
      injection e' with e'
      injection e' with e1 e2
      subst e1 e2
      rw [hpm.out] at x0
      cases cb with
      | true =>
        have hre : r = (m : Int) := by rw [← hrr2.out, hys.out hwm.out, hgd.out]
        subst hre
        clear hrr hrr2 hst hys hwm hr
        go_wp2
        go_ret
        exact ⟨rfl, hB.trans (hb4.mono hB.size)⟩
      | false =>
        have hre : Hid (fromB H π key q = r) := hide (by rw [← hrr2.out, hst.out hwm.out])
        clear hrr hrr2 hst hys hwm hr
        go_wp2
        go_roundw
        case rel => exact ⟨(q : Int) - 1, by omega, by omega, rfl, hide (by rw [show ((q : Int) - 1 + 1).toNat = q by omega]; exact hre.out), hb4⟩
        case measure => simp [intOf]
    · obtain rfl : j = -1 := by omega
      have hr0 : r = -1 := by rw [← hrr.out, ← hno.out]; rfl
      subst hr0
      clear hstep hyes hwa hr
      go_wp2
      go_ret
      exact ⟨rfl, hB.trans (hbr.mono hB.size)⟩
theorem rtakes20_any (A A' : Option Addr) (c c' : Nat) (l l' : List It) (w : World) (h : ItS w (Old w) (.slice A l.length c) l) (h' : ItS w (Old w) (.slice A' l'.length c') l') (hn : l.length ≤ 1000000) (hn' : l'.length ≤ 1000000) :
    Calls Tryz.prog 177 #[.slice A l.length c, .slice A' l'.length c'] w fun e w' => e = .returned (.bool (decide (l = l'))) ∧ Below w.heap.size w w' := by
  rcases Nat.decEq l.length l'.length with hlen | hlen
  rotate_left
  · rw [← hlen] at h' ⊢
    have hlen2 := hide hlen
    clear hn' hlen
    go_enter Tryz.func177, Tryz.ntmps177
    go_wp2
    go_loopw [5] (fun s5 wr => ∃ i : Nat, i ≤ l.length ∧ s5 = .int .i64 i ∧ Hid (∀ j (hj : j < l.length) (hj' : j < l'.length), j < i → l[j] = l'[j]) ∧ Below w.heap.size w wr) (fun s5 _ => l.length - (intOf s5).toNat)
    case atStart => exact ⟨0, Nat.zero_le _, by go_num, fun j _ _ h => absurd h (by omega), Below.refl _ _⟩
    case round =>
      obtain ⟨i, hi, rfl, hall, hb⟩ := hrel
      by_cases hlt : i < l.length
      · have hlt' : i < l'.length := by have := hlen2.out; omega
        have hw := ItS.below h hb
        have hw' := ItS.below h' hb
        obtain ⟨b, off, rfl, hbK, c0, c1⟩ := ItS.at_ hw hlt
        obtain ⟨b', off', rfl, hbK', d0, d1⟩ := ItS.at_ hw' hlt'
        have hi1 : (0 : Int) ≤ (i : Int) := Int.natCast_nonneg _
        have hi2 : (i : Int) < (l.length : Int) := by omega
        by_cases he : l[i] = l'[i]
        · have hstep : Hid (∀ j (hj : j < l.length) (hj' : j < l'.length), j < i + 1 → l[j] = l'[j]) := fun j hj hj' hji => by
            by_cases hje : j = i
            · subst hje; exact he
            · exact hall.out j hj hj' (by omega)
          rw [← he] at d0 d1
          clear he
          generalize l[i] = x at *
          go_wp2
          go_quiet (fail)
          go_wp2
          go_roundw
          case rel => exact ⟨i + 1, by omega, by go_num, hstep, ⟨hb.os, hb.tape, hb.output, hb.size, hb.block⟩⟩
          case measure => simp [intOf]; omega
        · have hf : l ≠ l' := fun e => he (by subst e; rfl)
          replace hf := hide hf
          generalize l[i] = x at *
          generalize l'[i] = x' at *
          have hways : (x.a == x'.a) = false ∨ ((x.a == x'.a) = true ∧ (x.b == x'.b) = false) := by
            obtain ⟨a0, a1⟩ := x
            obtain ⟨b0, b1⟩ := x'
            simp only [It.mk.injEq] at he
            simp only [beq_iff_eq, beq_eq_false_iff_ne]
            omega
          clear he
          rcases hways with q1 | ⟨q1, q2⟩
          all_goals (
            go_wp2
            go_quiet (fail)
            go_wp2
            go_ret
            exact ⟨by simp [hf.out], ⟨hb.os, hb.tape, hb.output, hb.size, hb.block⟩⟩)
      · have he : l = l' := List.ext_getElem hlen2.out (fun j h1 h2 => hall.out j h1 h2 (by omega))
        have : i = l.length := by omega
        subst this
        go_wp2
        go_ret
        exact ⟨by simp [he], hb⟩
  · have hf : l ≠ l' := fun e => hlen (by rw [e])
    go_enter Tryz.func177, Tryz.ntmps177
    go_wp2
    go_ret
    exact ⟨by simp [hf], Below.refl _ _⟩

/-- Do two stand the wrong way round? -/
def backT (H : List Txn) (π : List Int) (i k : Nat) : Bool := decide (π.getD k 0 > π.getD i 0) && decide ((txnAt H (π.getD k 0).toNat).sess = (txnAt H (π.getD i 0).toNat).sess)
theorem sessB_no {H : List Txn} {π : List Int} {i k : Nat} (hi : i < π.length) (hk : k < i) (h : backT H π i k = true) : sessB H π = false := by
  unfold sessB
  rw [List.all_eq_false]
  refine ⟨i, List.mem_range.2 hi, ?_⟩
  rw [Bool.not_eq_true, List.all_eq_false]
  refine ⟨k, List.mem_range.2 hk, ?_⟩
  unfold backT at h
  rw [h]
  decide
theorem sessB_yes {H : List Txn} {π : List Int} (h : ∀ i, i < π.length → ∀ k, k < i → backT H π i k = false) : sessB H π = true := by
  unfold sessB
  rw [List.all_eq_true]
  intro i hi
  rw [List.all_eq_true]
  intro k hk
  have := h i (List.mem_range.1 hi) k (List.mem_range.1 hk)
  unfold backT at this
  rw [this]
  rfl
set_option maxRecDepth 100000 in
theorem rsess20_any (A : Option Addr) (c : Nat) (H : List Txn) (Ap : Option Addr) (cp : Nat) (π : List Int) (w : World) (h : TxnS w (Old w) (.slice A H.length c) H) (hP : IntS w (Old w) (.slice Ap π.length cp) π) (hb : ∀ i (hi : i < π.length), 0 ≤ π[i] ∧ π[i] < (H.length : Int)) (hpl : π.length ≤ 1000000) :
    Calls Tryz.prog 178 #[.agg #[.slice A H.length c], .slice Ap π.length cp] w fun e w' => e = .returned (.bool (sessB H π)) ∧ Below w.heap.size w w' := by
  obtain ⟨W0, hW0⟩ : ∃ W0, w.alloc (.cells #[.slice A H.length c] 24) = W0 := ⟨_, rfl⟩
  have hB := below_allocEq (Below.refl w.heap.size w) hW0 (Nat.le_refl _)
  have k0 := Blk.newEq hW0
  have hT := hide (h.below hB)
  have hI := hide (hP.below hB)
  have hyes := hide (sessB_yes (H := H) (π := π))
  have hno := hide (fun (i k : Nat) (hi : i < π.length) (hk : k < i) => sessB_no (H := H) hi hk)
  generalize sessB H π = r at *
  replace hb := hide hb
  clear h hP
  go_enter Tryz.func178, Tryz.ntmps178
  go_upto_region 1 with fail
  clear hW0
  go_wp2_with fail
  go_loopw [5] (fun s5 wr => ∃ i : Nat, i ≤ π.length ∧ s5 = .int .i64 i ∧ Hid (∀ i', i' < i → ∀ k, k < i' → backT H π i' k = false) ∧ Below W0.heap.size W0 wr) (fun s5 _ => π.length - (intOf s5).toNat)
  case atStart => exact ⟨0, Nat.zero_le _, by go_num, hide (fun i' hi => absurd hi (by omega)), Below.refl _ _⟩
  case round =>
    obtain ⟨Wo, rfl⟩ : ∃ Wo, Wo = wr := ⟨_, rfl⟩
    obtain ⟨i, hi, rfl, hall, hbi⟩ := hrel
    have hi1 : (0 : Int) ≤ (i : Int) := Int.natCast_nonneg _
    by_cases hlt : i < π.length
    · have hi2 : (i : Int) < (π.length : Int) := by omega
      go_wp2_with fail
      go_loopw [6] (fun s6 wq => ∃ k : Nat, k ≤ i ∧ s6 = .int .i64 k ∧ Hid (∀ k', k' < k → backT H π i k' = false) ∧ Below W0.heap.size W0 wq) (fun s6 _ => i - (intOf s6).toNat)
      case atStart => exact ⟨0, Nat.zero_le _, by go_num, hide (fun k' hk => absurd hk (by omega)), hbi⟩
      case round =>
        obtain ⟨Wp, rfl⟩ : ∃ Wp, Wp = wr := ⟨_, rfl⟩
        obtain ⟨k, hk, rfl, hall2, hbk⟩ := hrel
        have hk1 : (0 : Int) ≤ (k : Int) := Int.natCast_nonneg _
        by_cases hlk : k < i
        · have hk2 : (k : Int) < (i : Int) := by omega
          have hkp : k < π.length := by omega
          have hk3 : (k : Int) < (π.length : Int) := by omega
          have hII := hI.out.below hbk
          obtain ⟨bp, op, rfl, -, x0⟩ := hII.at_ hkp
          have x1 := (hII.cells hlt).2
          have hbk1 := hb.out k hkp
          have hbk2 := hb.out i hlt
          have hbt : backT H π i k = (decide (π[k] > π[i]) && decide ((txnAt H (π[k]).toNat).sess = (txnAt H (π[i]).toNat).sess)) := by unfold backT; rw [getD_at hkp, getD_at hlt]
          obtain ⟨m, hm⟩ : ∃ m : Nat, π[k] = (m : Int) := ⟨π[k].toNat, by omega⟩
          obtain ⟨n, hn⟩ : ∃ n : Nat, π[i] = (n : Int) := ⟨π[i].toNat, by omega⟩
          rw [hm] at hbk1 x0 hbt
          rw [hn] at hbk2 x1 hbt
          have hmH : m < H.length := by omega
          have hnH : n < H.length := by omega
          have hm2 : (m : Int) < (H.length : Int) := by omega
          have hn2 : (n : Int) < (H.length : Int) := by omega
          rw [Int.toNat_natCast, Int.toNat_natCast, txnAt_of hmH, txnAt_of hnH] at hbt
          have hTT := hT.out.below hbk
          obtain ⟨bt, ot, Aw, cw, Ar, cr, rfl, -, d0, -, -, -, -⟩ := TxnS.at_ hTT hmH
          obtain ⟨bt', ot', Aw', cw', Ar', cr', e', -, d1, -, -, -, -⟩ := TxnS.at_ hTT hnH
          injection e' with e'
          injection e' with e1 e2
          subst e1 e2
          have k1 := k0.below hbk k0.lt
          have c0 := k1.cell 0
          simp only [List.getElem?_toArray, List.getElem?_cons_zero, List.getElem?_cons_succ] at c0
          replace hm := hide hm
          replace hn := hide hn
          replace hbt := hide hbt
          have hnx := hide (fun (g : backT H π i k = false) => (fun k' (hk' : k' < k + 1) => (by
            by_cases e : k' = k
            · subst e; exact g
            · exact hall2.out k' (by omega) : backT H π i k' = false)))
          have hbd := hide (hno.out i k hlt hlk)
          have hbz := hide (fun (nq : Nat) => (hbk.trans ⟨rfl, rfl, rfl, Nat.le_refl _, fun _ _ => rfl⟩ : Below W0.heap.size W0 (Wp.drewN nq)))
          generalize H[m].sess = sm at *
          generalize H[n].sess = sn at *
          by_cases hgt : n < m
          · have hg1 : decide (n < m) = true := by simpa using hgt
            by_cases hse : sm = sn
            · subst hse
              have hr := hbd.out (by rw [hbt.out]; simp; omega)
              subst hr
              clear hbt hnx hbd
              go_wp2
              go_quiet (fail)
              go_wp2
              go_ret
              exact ⟨rfl, hB.trans ((hbz.out _).mono hB.size)⟩
            · have hs1 : (sm == sn) = false := by simpa using hse
              have hnx2 := hide (hnx.out (by rw [hbt.out]; simp [hse]))
              clear hse hbt hnx hbd
              go_wp2
              go_quiet (fail)
              go_wp2
              go_roundw
              case rel => exact ⟨k + 1, by omega, by go_num, hnx2, hbz.out _⟩
              case measure => simp [intOf]; omega
          · have hg1 : decide (n < m) = false := by simpa using hgt
            have hnx2 := hide (hnx.out (by rw [hbt.out, decide_eq_false (by omega)]; rfl))
            clear hbt hnx hbd hgt
            go_wp2
            go_quiet (fail)
            go_wp2
            go_roundw
            case rel => exact ⟨k + 1, by omega, by go_num, hnx2, hbz.out _⟩
            case measure => simp [intOf]; omega
        · obtain rfl : k = i := by omega
          have hnx2 : Hid (∀ i', i' < k + 1 → ∀ k', k' < i' → backT H π i' k' = false) := hide (fun i' hi' k' hk' => by
            by_cases e : i' = k
            · subst e; exact hall2.out k' hk'
            · exact hall.out i' (by omega) k' hk')
          clear hall hall2
          go_wp2
          go_roundw
          case rel => exact ⟨k + 1, by omega, by go_num, hnx2, hbk⟩
          case measure => simp [intOf]; omega
    · obtain rfl : i = π.length := by omega
      have hr := hyes.out hall.out
      subst hr
      clear hall
      go_wp2
      go_ret
      exact ⟨rfl, hB.trans (hbi.mono hB.size)⟩
end Go.Proofs.YtjomijnbnbideaaGreatDoor

namespace Go.Proofs.YtjomijnbnbideaaGreatDoor
open Go.RowKit Go.Inq
set_option maxHeartbeats 8000000
attribute [local go_sem ↓] Go.wp_at_zero Go.wp_at_succ

theorem it_one : ∀ (x : It), ∀ u ∈ It.enc x, u.oneCell' = true := by
  intro x u hu
  simp [It.enc] at hu
  rcases hu with rfl | rfl <;> rfl
theorem infoT20 : (Tryz.prog.info? 112).map (fun i => (i.zero, i.size, i.bytes)) = some (some (.agg #[.int .i64 0, .int .i64 0]), 2, 16) := by kernel_rfl
theorem infoTL20 : (Tryz.prog.info? 99).map (fun i => (i.zero, i.size, i.bytes)) = some (some (.slice none 0 0), 1, 24) := by kernel_rfl
/-- One row of takes, as an element. -/
def TakR (w : World) (K : Nat → Prop) (cs : List Value) (l : List It) : Prop := ∃ v, cs = [v] ∧ ItS w K v l
theorem TakR.stab : Stab TakR := fun _ _ _ _ _ _ h ha hk => by
  obtain ⟨v, h1, h2⟩ := h
  exact ⟨v, h1, h2.keep ha hk⟩
theorem TakR.one : ∀ (w : World) (K : Nat → Prop) (cs : List Value) (l : List It), TakR w K cs l → ∀ u ∈ cs, u.oneCell' = true := by
  rintro w K cs l ⟨v, rfl, h2⟩ u hu
  obtain ⟨A, c, rfl⟩ := SlR.form h2
  simp at hu
  subst hu
  rfl
abbrev OwnTk (w : World) (base : Nat) (v : Value) (l : List (List It)) : Prop := OwnR 1 TakR w (TyK base [112] w) base 99 v l
def playTo (H : List Txn) (π : List Int) (t : Nat) : List (List It) := (List.range t).map (playL H π)
theorem playTo_step (H : List Txn) (π : List Int) (t : Nat) : playTo H π (t + 1) = playTo H π t ++ [playL H π t] := by
  unfold playTo
  rw [List.range_succ, List.map_append]; rfl
theorem playTo_len (H : List Txn) (π : List Int) (t : Nat) : (playTo H π t).length = t := by unfold playTo; simp
theorem playL_step {H : List Txn} {π : List Int} {t i : Nat} (ht : t < H.length) (hi : i < H[t].reads.length) : (playL H π t).take (i + 1) = (playL H π t).take i ++ [⟨H[t].reads[i].a, fromB H π H[t].reads[i].a (π.idxOf (t : Int))⟩] := by
  have hl : (playL H π t).length = H[t].reads.length := by unfold playL; rw [List.length_map, txnAt_of ht]
  rw [List.take_succ_eq_append_getElem (by omega)]
  congr 2
  unfold playL
  rw [List.getElem_map]
  simp only [txnAt_of ht]
set_option maxRecDepth 100000 in
theorem rplay20_any (A : Option Addr) (c : Nat) (H : List Txn) (Ap : Option Addr) (cp : Nat) (π : List Int) (w : World) (h : TxnS w (Old w) (.slice A H.length c) H) (hr : rightH H = true) (hn : SmallH H) (hP : IntS w (Old w) (.slice Ap π.length cp) π) (hp : permB π H.length = true) :
    Calls Tryz.prog 176 #[.agg #[.slice A H.length c], .slice Ap π.length cp] w fun e w' => ∃ v, e = .returned v ∧ OwnTk w' w.heap.size v (playTo H π H.length) ∧ Below w.heap.size w w' := by
  obtain ⟨it, hit, hz1, hz2, hz3⟩ := info_parts infoT20
  obtain ⟨il, hil, hl1, hl2, hl3⟩ := info_parts infoTL20
  have h32 : H.length ≤ 32 := ((rightH_iff H).1 hr).1
  have hpl := hide (perm_len hp)
  obtain ⟨W0, hW0⟩ : ∃ W0, w.alloc (.cells #[.slice A H.length c] 24) = W0 := ⟨_, rfl⟩
  have hB := below_allocEq (Below.refl w.heap.size w) hW0 (Nat.le_refl _)
  have k0 := Blk.newEq hW0
  have hT := h.below hB
  have hI := hP.below hB
  have hrc := hide (right08_any A c H W0 hT hn)
  rw [hr] at hrc
  have c0 := k0.cell 0
  simp only [List.getElem?_toArray, List.getElem?_cons_zero, List.getElem?_cons_succ] at c0
  have hbd := hide (fun i (hi : i < π.length) => perm_bd hp hi)
  have hat := hide (fun t (ht : t < H.length) => perm_at hp ht)
  have hix := hide (fun i (hi : i < π.length) => perm_idx hp hi)
  have hpm : Hid (permB π H.length = true) := hide hp
  replace hr := hide hr
  clear h hP hp
  go_enter Tryz.func176, Tryz.ntmps176
  go_wp2_with fail
  clear hW0 c0
  refine hrc.out.mono ?_
  rintro e w1 ⟨rfl, hb1⟩
  have hT1 := hide (hT.below hb1)
  have hI1 := hide (hI.below hb1)
  have k1 := k0.below hb1 k0.lt
  have hB1 := hB.trans (hb1.mono hB.size)
  clear hrc hT hI k0 hb1 hB
  have c0 := k1.cell 0
  simp only [List.getElem?_toArray, List.getElem?_cons_zero, List.getElem?_cons_succ] at c0
  have hpc := hide (rperm18_any Ap cp π H.length (Old w1) w1 hI1.out (by have := hpl.out; omega))
  rw [hpm.out] at hpc
  go_wp2_with fail
  refine hpc.out.mono ?_
  rintro e w1' ⟨rfl, rfl⟩
  clear hpc c0
  go_wp2_with fail
  go_loopw [7, 8] (fun s7 s8 wr => ∃ t : Nat, t ≤ H.length ∧ s8 = .int .i64 t ∧ OwnTk wr w1.heap.size s7 (playTo H π t) ∧ Below w1.heap.size w1 wr) (fun _ s8 _ => H.length - (intOf s8).toNat)
  case atStart => exact ⟨0, Nat.zero_le _, by go_num, OwnR.nil _ _ _ _ _ _, Below.refl _ _⟩
  case round =>
    obtain ⟨Wo, rfl⟩ : ∃ Wo, Wo = wr := ⟨_, rfl⟩
    obtain ⟨t, ht, rfl, hown, hbt⟩ := hrel
    have ht1 : (0 : Int) ≤ (t : Int) := Int.natCast_nonneg _
    have k2 := k1.below hbt k1.lt
    have c0 := k2.cell 0
    simp only [List.getElem?_toArray, List.getElem?_cons_zero, List.getElem?_cons_succ] at c0
    obtain ⟨Av, cv, rfl⟩ := hown.form
    rw [playTo_len] at *
    replace hown := hide hown
    by_cases hlt : t < H.length
    · have ht2 : (t : Int) < (H.length : Int) := by omega
      obtain ⟨hq1, hq2⟩ := hat.out t hlt
      have hpst := hide (playTo_step H π t)
      have hLst := hide (fun i (hi : i < H[t].reads.length) => playL_step (π := π) hlt hi)
      have hLl : Hid ((playL H π t).length = H[t].reads.length) := hide (by unfold playL; rw [List.length_map, txnAt_of hlt])
      obtain ⟨ix, hixe⟩ : ∃ ix, π.idxOf (t : Int) = ix := ⟨_, rfl⟩
      simp only [hixe] at hq1 hq2 hLst
      have hix2 := hide (fun j (hj : j < π.length) (e : π[j] = (t : Int)) => (by have := hix.out j hj; rw [e, hixe] at this; exact this : ix = j))
      replace hq2 := hide hq2
      replace hixe := hide hixe
      go_wp2_with fail
      go_loop [9] (fun s9 => ∃ j : Nat, j ≤ ix ∧ s9 = .int .i64 j) (fun s9 => ix - (intOf s9).toNat)
      case atStart => exact ⟨0, Nat.zero_le _, by go_num⟩
      case round =>
        obtain ⟨j, hj, rfl⟩ := hrel
        have hj1 : (0 : Int) ≤ (j : Int) := Int.natCast_nonneg _
        have hjp : j < π.length := by omega
        have hj2 : (j : Int) < (π.length : Int) := by omega
        have hj32 : j < 32 := by have := hpl.out; omega
        obtain ⟨bp, op, rfl, -, x0⟩ := (hI1.out.below hbt).at_ hjp
        by_cases hje : j < ix
        · have hne : (π[j] != (t : Int)) = true := by
            rw [bne_iff_ne]
            intro e
            have := hix2.out j hjp e
            omega
          generalize π[j] = y at *
          have hje2 := hide hje
          clear c0
          go_wp2
          go_round
          case rel => exact ⟨j + 1, hje2.out, by go_num⟩
          case measure => have := hje2.out; simp [intOf]; omega
        · obtain rfl : j = ix := by omega
          have hne : (π[j] != (t : Int)) = false := by rw [hq2.out]; simp
          generalize π[j] = y at *
          clear hix2
          go_wp2_with fail
          clear x0 hne
          go_loopw [10, 11] (fun s10 s11 wq => ∃ i : Nat, i ≤ H[t].reads.length ∧ s11 = .int .i64 i ∧ wq.ownsRow Wo.heap.size 112 2 s10 ((playL H π t).take i).length (((playL H π t).take i).map It.enc).flatten ∧ Below Wo.heap.size Wo wq) (fun _ s11 _ => H[t].reads.length - (intOf s11).toNat)
          case atStart => exact ⟨0, Nat.zero_le _, by go_num, World.ownsRow_nil _ _ _ _, Below.refl _ _⟩
          case round =>
            obtain ⟨Wp, rfl⟩ : ∃ Wp, Wp = wr := ⟨_, rfl⟩
            obtain ⟨i, hi, rfl, hrow, hbi⟩ := hrel
            have hi1 : (0 : Int) ≤ (i : Int) := Int.natCast_nonneg _
            have k3 := k2.below hbi k2.lt
            have c0 := k3.cell 0
            simp only [List.getElem?_toArray, List.getElem?_cons_zero, List.getElem?_cons_succ] at c0
            have hbw := hbt.trans (hbi.mono hbt.size)
            obtain ⟨bt, ot, Aw, cw, Ar, cr, rfl, -, d0, d1, d2, -, hrd⟩ := TxnS.at_ (hT1.out.below hbw) hlt
            have hrl : H[t].reads.length ≤ 1000000 := (hn.2 _ (List.getElem_mem hlt)).2
            have hst := hide (hLst.out i)
            have hti : Hid (((playL H π t).take i).length = i) := hide (by rw [List.length_take, hLl.out]; omega)
            have hta : Hid ((playL H π t).take H[t].reads.length = playL H π t) := hide (by rw [← hLl.out, List.take_length])
            obtain ⟨Al, cl, rfl⟩ := own_slice hrow
            by_cases hir : i < H[t].reads.length
            · have hi2 : (i : Int) < (H[t].reads.length : Int) := by omega
              obtain ⟨br, orr, rfl, -, x0, x1⟩ := hrd.at_ hir
              have hst2 := hide (hst.out hir)
              generalize hD : (playL H π t).take i = D at *
              have hTi := hide ((hT1.out.below hbw))
              have hIi := hide (hI1.out.below hbw)
              have hfr := hide (rfrom20_any (some ⟨bt, ot, none⟩) c H (some ⟨bp, op, none⟩) cp π j H[t].reads[i].a Wp hTi.out hIi.out hn hbd.out (by omega) (by have := hpl.out; omega))
              have hsn := hide (flat_snoc It.enc D)
              replace hrow := hide hrow
              clear hrd hst
              go_wp2_with fail
              clear c0 d0 d1 d2 x0 x1
              refine hfr.out.mono ?_
              rintro e w4 ⟨rfl, hb4⟩
              have hb5 := hbi.trans (hb4.mono hbi.size)
              have hown4 := hide (own_below hrow.out hb4 (Nat.le_refl _))
              have hs5 := hb5.size
              clear hfr hrow hb4
              have hkl : D.length + 1 ≤ maxLen := by rw [hti.out]; unfold maxLen; omega
              have hkb : (D.length + 1) * 16 ≤ 140737488355328 := by rw [hti.out]; omega
              generalize H[t].reads[i].a = key at *
              generalize fromB H π key j = fr at *
              go_wp2_with (at_builtin; go_loud (refine wpList_push (enc := It.enc) rfl (.tmp 62) (.tmp 70) 99 rfl Wo.heap.size 112 it _ 2 16 Tryz.underlying99 hit hz1 hz2 hz3 rfl (by decide) (.slice Al D.length cl) D rfl hown4.out (fun _ => rfl) ⟨key, fr⟩ _ rfl rfl it_one hkl hkb hs5 Wo Wo.heap.size (Nat.le_refl _) hb5 ?_); intro v7 w7 hown7 hg7 hbw7 hat7)
              go_roundw
              case rel => exact ⟨i + 1, by omega, by go_num, by rw [hst2.out]; exact hown7, hbw7⟩
              case measure => simp [intOf]; omega
            · obtain rfl : i = H[t].reads.length := by omega
              have hownp := hide (hown.out.belowT TakR.stab hbi (Nat.le_refl _))
              have hsr := hbt.size
              have hsw := hbw.size
              have hrT : Hid (TakR Wp (TyK w1.heap.size [112] Wp) [.slice Al ((playL H π t).take H[t].reads.length).length cl] (playL H π t)) := hide ⟨_, rfl, by
                rw [hta.out] at hrow ⊢
                exact SlR.fit (Flat.stab _) (own_slT hrow (fun _ => rfl) (by simp)) (fun b g => ⟨Nat.le_trans hsr g.1, g.2⟩)⟩
              have h63 : (playTo H π t).length + 1 ≤ maxLen := by rw [playTo_len]; unfold maxLen; omega
              have hbb : ((playTo H π t).length + 1) * 24 ≤ 140737488355328 := by rw [playTo_len]; omega
              clear hrow hown hst hrd
              generalize ((playL H π t).take H[t].reads.length).length = q at *
              go_wp2_with (at_builtin; go_loud (refine wpList_pushR (R := TakR) TakR.stab TakR.one rfl (.tmp 72) (.tmp 74) 233 rfl w1.heap.size 99 il _ 1 24 Tryz.underlying233 hil hl1 hl2 hl3 rfl (by decide) [112] (by decide) (.slice Av t cv) (playTo H π t) rfl hownp.out _ (playL H π t) rfl hrT.out rfl h63 hbb hsw w1 w1.heap.size (Nat.le_refl _) hbw ?_); intro v7 w7 hown7 hA7 hbw7 hat7 hE7)
              go_roundw
              case rel => exact ⟨t + 1, by omega, by go_num, by rw [hpst.out]; exact hown7, hbw7⟩
              case measure => simp [intOf]; omega
    · obtain rfl : t = H.length := by omega
      have hs1 := hB1.size
      clear hat hix
      go_wp2
      go_ret
      exact ⟨_, rfl, OwnR.baseT TakR.stab hown.out hs1, hB1.trans (hbt.mono hB1.size)⟩
end Go.Proofs.YtjomijnbnbideaaGreatDoor

namespace Go.Proofs.YtjomijnbnbideaaGreatDoor
open Go.RowKit Go.Inq
set_option maxHeartbeats 8000000
attribute [local go_sem ↓] Go.wp_at_zero Go.wp_at_succ

theorem TakS.at_ {w : World} {K : Nat → Prop} {A : Option Addr} {n c : Nat} {l : List (List It)} (h : SlR 1 TakR w K (.slice A n c) l) {i : Nat} (hi : i < l.length) :
    ∃ b off A' c', A = some ⟨b, off, none⟩ ∧ K b ∧ w.cell? ⟨b, off + i, none⟩ = some (.slice A' l[i].length c') ∧ ItS w K (.slice A' l[i].length c') l[i] := by
  obtain ⟨b, off, cs, hA, hK, _, ⟨v, hcs, hv⟩, hc⟩ := SlR.at_ h hi
  obtain ⟨A', c', rfl⟩ := SlR.form hv
  subst hcs
  have := hc 0 _ rfl
  rw [Nat.mul_one, Nat.add_zero] at this
  exact ⟨b, off, A', c', hA, hK, this, hv⟩
theorem readsB_no {H : List Txn} {π : List Int} {t : Nat} (ht : t < H.length) (h : decide (H[t].reads = playL H π t) = false) : readsB H π = false := by
  unfold readsB
  rw [List.all_eq_false]
  exact ⟨t, List.mem_range.2 ht, by rw [txnAt_of ht, h]; decide⟩
theorem readsB_yes {H : List Txn} {π : List Int} (h : ∀ t (ht : t < H.length), decide (H[t].reads = playL H π t) = true) : readsB H π = true := by
  unfold readsB
  rw [List.all_eq_true]
  intro t ht
  have ht := List.mem_range.1 ht
  rw [txnAt_of ht]
  exact h t ht
set_option maxRecDepth 100000 in
theorem rcheck20_any (A : Option Addr) (c : Nat) (H : List Txn) (Ap : Option Addr) (cp : Nat) (π : List Int) (w : World) (h : TxnS w (Old w) (.slice A H.length c) H) (hr : rightH H = true) (hn : SmallH H) (hP : IntS w (Old w) (.slice Ap π.length cp) π) (hpl : π.length ≤ 1000000) :
    Calls Tryz.prog 119 #[.agg #[.slice A H.length c], .slice Ap π.length cp] w fun e w' => e = .returned (.bool (checkB H π)) ∧ Below w.heap.size w w' := by
  have h32 : H.length ≤ 32 := ((rightH_iff H).1 hr).1
  obtain ⟨W0, hW0⟩ : ∃ W0, w.alloc (.cells #[.slice A H.length c] 24) = W0 := ⟨_, rfl⟩
  have hB := below_allocEq (Below.refl w.heap.size w) hW0 (Nat.le_refl _)
  have k0 := Blk.newEq hW0
  have hT := h.below hB
  have hI := hP.below hB
  have hrc := hide (right08_any A c H W0 hT hn)
  rw [hr] at hrc
  have c0 := k0.cell 0
  simp only [List.getElem?_toArray, List.getElem?_cons_zero, List.getElem?_cons_succ] at c0
  have hck : Hid (checkB H π = (permB π H.length && readsB H π && sessB H π)) := hide rfl
  have hrno := hide (fun t (ht : t < H.length) => readsB_no (π := π) ht)
  have hryes := hide (readsB_yes (H := H) (π := π))
  have hpy := hide (fun (W : World) (hb : Below w.heap.size w W) (hp : permB π H.length = true) => rplay20_any A c H Ap cp π W (h.below hb) hr hn (hP.below hb) hp)
  have hsr := hide (fun (W : World) (hb : Below w.heap.size w W) (hp : permB π H.length = true) => rsess20_any A c H Ap cp π W (h.below hb) (hP.below hb) (fun i hi => perm_bd hp hi) hpl)
  have htl := hide (fun W (hb : Below w.heap.size w W) => h.below hb)
  have hpc := hide (fun (W : World) (hb : Below w.heap.size w W) => rperm18_any Ap cp π H.length (Old W) W (hP.below hb) (by omega))
  have hpn : Hid (permB π H.length = true → (playTo H π H.length).length = H.length) := hide (fun _ => playTo_len _ _ _)
  have hpa := hide (fun t (ht : t < H.length) (h1 : t < (playTo H π H.length).length) => (by simp [playTo] : (playTo H π H.length)[t] = playL H π t))
  generalize checkB H π = r at *
  replace hr := hide hr
  clear h hP hT hI
  replace hpl := hide hpl
  go_enter Tryz.func119, Tryz.ntmps119
  go_wp2_with fail
  clear hW0 c0
  refine hrc.out.mono ?_
  rintro e w1 ⟨rfl, hb1⟩
  have k1 := k0.below hb1 k0.lt
  have hB1 := hB.trans (hb1.mono hB.size)
  clear hrc k0 hb1 hB
  have c0 := k1.cell 0
  simp only [List.getElem?_toArray, List.getElem?_cons_zero, List.getElem?_cons_succ] at c0
  have hpc1 := hide (hpc.out w1 hB1)
  obtain ⟨q, hq⟩ : ∃ q, permB π H.length = q := ⟨_, rfl⟩
  rw [hq] at hpc1 hck hpy hsr hpn
  replace hq := hide hq
  go_wp2_with fail
  refine hpc1.out.mono ?_
  rintro e w1' ⟨rfl, rfl⟩
  clear hpc1 hpc
  cases q with
  | false =>
    have hr2 : r = false := by rw [hck.out]; rfl
    subst hr2
    clear hck hpy hsr hpn
    go_wp2
    go_ret
    exact ⟨rfl, hB1⟩
  | true =>
    have hpy1 := hide (hpy.out w1 hB1 (by simp))
    go_wp2_with fail
    clear c0
    refine hpy1.out.mono ?_
    rintro e w2 ⟨v, rfl, hO, hb2⟩
    have k2 := k1.below hb2 k1.lt
    have hB2 := hB1.trans (hb2.mono hB1.size)
    have hS := hide (OwnR.slOld TakR.stab hO)
    obtain ⟨Av, cv, rfl⟩ := hO.form
    rw [hpn.out (by simp)] at hS ⊢
    clear hpy hpy1 hO k1
    go_wp2_with fail
    go_loopw [8] (fun s8 wr => ∃ t : Nat, t ≤ H.length ∧ s8 = .int .i64 t ∧ Hid (∀ t', t' < t → ∀ (ht : t' < H.length), decide (H[t'].reads = playL H π t') = true) ∧ Below w2.heap.size w2 wr) (fun s8 _ => H.length - (intOf s8).toNat)
    case atStart => exact ⟨0, Nat.zero_le _, by go_num, hide (fun t' ht => absurd ht (by omega)), Below.refl _ _⟩
    case round =>
      obtain ⟨t, ht, rfl, hall, hbt⟩ := hrel
      have ht1 : (0 : Int) ≤ (t : Int) := Int.natCast_nonneg _
      have k3 := k2.below hbt k2.lt
      have c0 := k3.cell 0
      simp only [List.getElem?_toArray, List.getElem?_cons_zero, List.getElem?_cons_succ] at c0
      have hBt := hB2.trans (hbt.mono hB2.size)
      by_cases hlt : t < H.length
      · have ht2 : (t : Int) < (H.length : Int) := by omega
        have hpt : t < (playTo H π H.length).length := by rw [hpn.out (by simp)]; exact hlt
        have hSt := hide (SlR.keep TakR.stab hS.out (Agree.below hbt fun b h => h) (K' := Old wr) (fun b h => Nat.lt_of_lt_of_le h hbt.size))
        obtain ⟨bp, op, Ap', cp', rfl, -, x0, hIt⟩ := TakS.at_ hSt.out hpt
        rw [hpa.out t hlt hpt] at x0 hIt
        obtain ⟨bt, ot, Aw, cw, Ar, cr, rfl, -, d0, d1, d2, -, hrd⟩ := TxnS.at_ (htl.out wr hBt) hlt
        have hrl : H[t].reads.length ≤ 1000000 := (hn.2 _ (List.getElem_mem hlt)).2
        have hpll : (playL H π t).length ≤ 1000000 := by unfold playL; rw [List.length_map, txnAt_of hlt]; exact hrl
        have hno := hide (hrno.out t hlt)
        have hnx := hide (fun (g : decide (H[t].reads = playL H π t) = true) => (fun t' (ht' : t' < t + 1) (h2 : t' < H.length) => (by
          by_cases e : t' = t
          · subst e; exact g
          · exact hall.out t' (by omega) h2 : decide (H[t'].reads = playL H π t') = true)))
        have hct := hide (rtakes20_any Ar Ap' cr cp' H[t].reads (playL H π t) wr.drew hrd hIt hrl hpll)
        generalize decide (H[t].reads = playL H π t) = cb at *
        generalize playL H π t = L2 at *
        generalize H[t].reads = L1 at *
        clear hIt hrd hrl hpll
        go_wp2_with fail
        refine wp_region_still_tail 10 (by kernel_rfl) (by kernel_rfl) ?_
        simp only [List.take_succ_cons, List.take_zero, List.drop_succ_cons, List.drop_zero]
        repeat still_step
        refine wpStill_nil ?_
        go_wp2_with fail
        refine hct.out.mono ?_
        rintro e w3 ⟨rfl, hb3⟩
        have hb4 := (below_drew hbt).trans (hb3.mono hbt.size)
        clear hct c0 d0 d1 d2 x0
        cases cb with
        | true =>
          have hn2 := hide (hnx.out rfl)
          clear hnx hno
          go_wp2
          go_roundw
          case rel => exact ⟨t + 1, by omega, by go_num, hn2, hb4⟩
          case measure => simp [intOf]; omega
        | false =>
          have hr2 : r = false := by rw [hck.out, hno.out rfl]; rfl
          subst hr2
          clear hnx hno hck hrno hryes hpa
          go_wp2
          go_ret
          exact ⟨rfl, hB2.trans (hb4.mono hB2.size)⟩
      · obtain rfl : t = H.length := by omega
        have hr2 : Hid (r = sessB H π) := hide (by rw [hck.out, hryes.out (fun t ht => hall.out t ht ht)]; rfl)
        have hsr2 := hide (hsr.out wr hBt (by simp))
        rw [← hr2.out] at hsr2
        clear hall hryes hrno hck hr2 hpa
        go_wp2_with fail
        refine hsr2.out.mono ?_
        rintro e w3 ⟨rfl, hb3⟩
        go_wp2
        go_ret
        exact ⟨rfl, hBt.trans (hb3.mono hBt.size)⟩
end Go.Proofs.YtjomijnbnbideaaGreatDoor

namespace Go.Proofs.YtjomijnbnbideaaGreatDoor
open Go.RowKit Go.Inq
set_option maxHeartbeats 8000000
attribute [local go_sem ↓] Go.wp_at_zero Go.wp_at_succ

def tryB (H : List Txn) (d : Nat) (l : List Int) (t : Nat) : Bool := !l.contains (t : Int) && nextB H d (l ++ [(t : Int)])
theorem nextB_no {H : List Txn} {d : Nat} {l : List Int} (h : ∀ t, t < H.length → tryB H d l t = false) : nextB H (d + 1) l = false := by
  show (List.range H.length).any _ = false
  rw [List.any_eq_false]
  intro t ht
  have := h t (List.mem_range.1 ht)
  unfold tryB at this
  rw [this]; decide
theorem nextB_yes {H : List Txn} {d : Nat} {l : List Int} {t : Nat} (ht : t < H.length) (h : tryB H d l t = true) : nextB H (d + 1) l = true := by
  show (List.range H.length).any _ = true
  rw [List.any_eq_true]
  exact ⟨t, List.mem_range.2 ht, h⟩
theorem contains_snoc {l : List Int} {i : Nat} (hi : i < l.length) (t : Int) : (l.take (i + 1)).contains t = ((l.take i).contains t || l[i] == t) := by
  rw [take_snoc' hi, List.contains_append]
  congr 1
  rw [List.contains_cons, List.contains_nil, Bool.or_false, Bool.eq_iff_iff, beq_iff_eq, beq_iff_eq]
  exact eq_comm
set_option maxRecDepth 100000 in
theorem rnext20_any (A : Option Addr) (c : Nat) (H : List Txn) (hr : rightH H = true) (hn : SmallH H) : ∀ (d : Nat) (l : List Int) (Al : Option Addr) (cl : Nat) (w : World), TxnS w (Old w) (.slice A H.length c) H → IntS w (Old w) (.slice Al l.length cl) l → l.length + d = H.length →
    Calls Tryz.prog 63 #[.agg #[.slice A H.length c], .slice Al l.length cl] w fun e w' => e = .returned (.bool (nextB H d l)) ∧ Below w.heap.size w w' := by
  obtain ⟨ii, hii, hz1, hz2, hz3⟩ := info_parts infoI10
  have h32 : H.length ≤ 32 := ((rightH_iff H).1 hr).1
  intro d
  induction d with
  | zero => ?_
  | succ d ih => ?_
  all_goals
    intro l Al cl w h hP hlen
    obtain ⟨W0, hW0⟩ : ∃ W0, w.alloc (.cells #[.slice A H.length c] 24) = W0 := ⟨_, rfl⟩
    have hB := below_allocEq (Below.refl w.heap.size w) hW0 (Nat.le_refl _)
    have k0 := Blk.newEq hW0
    have hT := hide (h.below hB)
    have hI := hide (hP.below hB)
    have c0 := k0.cell 0
    simp only [List.getElem?_toArray, List.getElem?_cons_zero, List.getElem?_cons_succ] at c0
  · have hck := hide (rcheck20_any A c H Al cl l W0 hT.out hr hn hI.out (by omega))
    have hq : Hid (nextB H 0 l = checkB H l) := hide rfl
    rw [hq.out]
    generalize checkB H l = r at *
    have hle : ((l.length : Int) == (H.length : Int)) = true := by simp; omega
    clear h hP hT hI hlen hq
    go_enter Tryz.func63, Tryz.ntmps63
    go_wp2_with fail
    clear hW0 c0
    refine hck.out.mono ?_
    rintro e w1 ⟨rfl, hb1⟩
    go_wp2
    go_ret
    exact ⟨rfl, hB.trans (hb1.mono hB.size)⟩
  · have hno := hide (nextB_no (H := H) (d := d) (l := l))
    have hyes := hide (fun t (ht : t < H.length) => nextB_yes (d := d) (l := l) ht)
    generalize nextB H (d + 1) l = r at *
    have hle : ((l.length : Int) == (H.length : Int)) = false := by simp; omega
    have hll : l.length < 32 := by omega
    replace hlen := hide hlen
    replace ih := hide ih
    replace hr := hide hr
    clear h hP
    go_enter Tryz.func63, Tryz.ntmps63
    go_wp2_with fail
    clear hW0 c0 hle
    go_loopw [6] (fun s6 wr => ∃ t : Nat, t ≤ H.length ∧ s6 = .int .i64 t ∧ Hid (∀ t', t' < t → tryB H d l t' = false) ∧ Below W0.heap.size W0 wr) (fun s6 _ => H.length - (intOf s6).toNat)
    case atStart => exact ⟨0, Nat.zero_le _, by go_num, hide (fun t' ht => absurd ht (by omega)), Below.refl _ _⟩
    case round =>
      obtain ⟨Wo, rfl⟩ : ∃ Wo, Wo = wr := ⟨_, rfl⟩
      obtain ⟨t, ht, rfl, hall, hbt⟩ := hrel
      have ht1 : (0 : Int) ≤ (t : Int) := Int.natCast_nonneg _
      have k1 := k0.below hbt k0.lt
      have c0 := k1.cell 0
      simp only [List.getElem?_toArray, List.getElem?_cons_zero, List.getElem?_cons_succ] at c0
      by_cases hlt : t < H.length
      · have ht2 : (t : Int) < (H.length : Int) := by omega
        have hnx := hide (fun (g : tryB H d l t = false) => (fun t' (ht' : t' < t + 1) => (by
          by_cases e : t' = t
          · subst e; exact g
          · exact hall.out t' (by omega) : tryB H d l t' = false)))
        have hye := hide (hyes.out t hlt)
        have htr : Hid (tryB H d l t = (!l.contains (t : Int) && nextB H d (l ++ [(t : Int)]))) := hide rfl
        go_wp2_with fail
        clear c0
        go_loop [7, 8] (fun s7 s8 => ∃ i : Nat, i ≤ l.length ∧ s8 = .int .i64 i ∧ s7 = .bool ((l.take i).contains (t : Int))) (fun _ s8 => l.length - (intOf s8).toNat)
        case atStart => exact ⟨0, Nat.zero_le _, by go_num, rfl⟩
        case round =>
          obtain ⟨i, hi, rfl, rfl⟩ := hrel
          have hi1 : (0 : Int) ≤ (i : Int) := Int.natCast_nonneg _
          by_cases hil : i < l.length
          · have hi2 : (i : Int) < (l.length : Int) := by omega
            obtain ⟨bp, op, rfl, -, x0⟩ := (hI.out.below hbt).at_ hil
            have hst := hide (contains_snoc hil (t : Int))
            generalize (l.take i).contains (t : Int) = q at *
            generalize l[i] = y at *
            have hil2 := hide hil
            cases q with
            | true =>
              have hst2 : Hid (true = (l.take (i + 1)).contains (t : Int)) := hide (by rw [hst.out]; rfl)
              clear hst
              go_wp2
              go_round
              case rel => exact ⟨i + 1, hil2.out, by go_num, by rw [← hst2.out]⟩
              case measure => have := hil2.out; simp [intOf]; omega
            | false =>
              obtain ⟨p, hp⟩ : ∃ p, (y == (t : Int)) = p := ⟨_, rfl⟩
              have hst2 : Hid (p = (l.take (i + 1)).contains (t : Int)) := hide (by rw [hst.out, hp]; rfl)
              clear hst
              go_wp2
              go_round
              case rel => exact ⟨i + 1, hil2.out, by go_num, by rw [← hst2.out]⟩
              case measure => have := hil2.out; simp [intOf]; omega
          · obtain rfl : i = l.length := by omega
            rw [List.take_length]
            obtain ⟨q, hq⟩ : ∃ q, l.contains (t : Int) = q := ⟨_, rfl⟩
            rw [hq] at htr ⊢
            replace hq := hide hq
            cases q with
            | true =>
              have hn2 := hide (hnx.out (by rw [htr.out]; rfl))
              clear hnx hye htr
              go_wp2
              go_roundw
              case rel => exact ⟨t + 1, by omega, by go_num, hn2, hbt⟩
              case measure => simp [intOf]; omega
            | false =>
              have hnil := hide (World.ownsRow_nil Wo Wo.heap.size 3 1)
              have hIo := hide (hI.out.below hbt)
              have h63 : 0 + l.length ≤ maxLen := by unfold maxLen; omega
              have hbb : (0 + l.length) * 8 ≤ 140737488355328 := by omega
              have h63b : l.length + 1 ≤ maxLen := by unfold maxLen; omega
              have hbb2 : (l.length + 1) * 8 ≤ 140737488355328 := by omega
              go_upto_region 14 with fail
              go_cut [9] (fun s9 wz => OwnI wz Wo.heap.size s9 l ∧ Below Wo.heap.size Wo wz)
              case first =>
                go_wp2_with (at_builtin; go_loud (refine wpList_append_flat (enc := Go.Inq.encI) rfl (.tmp 44) (.tmp 45) 27 rfl Wo.heap.size 3 ii _ 1 8 Tryz.underlying27 hii hz1 hz2 hz3 rfl (by decide) (.slice none 0 0) (Old Wo) ([] : List Int) rfl hnil.out (fun _ => rfl) _ l rfl hIo.out Go.Inq.encI_one h63 hbb (Nat.le_refl _) ?_); intro v6 w6 hown6 hg6 hat6)
                go_meet
                exact ⟨hown6, below_grown (Below.refl _ _) hg6 (Nat.le_refl _) (fun k hk => by simp [Value.ownBlock] at hk)⟩
              case rest =>
                obtain ⟨hO6, hb6⟩ := hcut
                obtain ⟨X6, hX6⟩ : ∃ X6, X6 = wc := ⟨_, rfl⟩
                subst hX6
                obtain ⟨A6, c6, rfl⟩ := OwnI.form hO6
                have hs6 := hb6.size
                replace hO6 := hide hO6
                clear hIo hnil
                go_upto_region 15 with fail
                go_cut [9] (fun s9 wz => OwnI wz Wo.heap.size s9 (l ++ [(t : Int)]) ∧ Below Wo.heap.size Wo wz)
                case first =>
                  go_wp2_with (at_builtin; go_loud (refine wpList_push (enc := Go.Inq.encI) rfl (.tmp 47) (.tmp 49) 27 rfl Wo.heap.size 3 ii _ 1 8 Tryz.underlying27 hii hz1 hz2 hz3 rfl (by decide) (.slice A6 l.length c6) l rfl hO6.out (fun _ => rfl) (t : Int) _ rfl rfl Go.Inq.encI_one h63b hbb2 hs6 Wo Wo.heap.size (Nat.le_refl _) hb6 ?_); intro v7 w7 hown7 hg7 hbw7 hat7)
                  go_meet
                  exact ⟨hown7, hbw7⟩
                case rest =>
                  clear hb6 hO6 hs6
                  obtain ⟨hO7, hb7⟩ := hcut
                  obtain ⟨X7, hX7⟩ : ∃ X7, X7 = wc := ⟨_, rfl⟩
                  subst hX7
                  obtain ⟨A7, c7, rfl⟩ := OwnI.form hO7
                  have hbw := hbt.trans (hb7.mono hbt.size)
                  have hI7 := hide (OwnI.sl (K := Old X7) hO7 (fun g _ h => h))
                  have k7 := k1.below hb7 k1.lt
                  have c0 := k7.cell 0
                  simp only [List.getElem?_toArray, List.getElem?_cons_zero, List.getElem?_cons_succ] at c0
                  have hcall := hide (ih.out (l ++ [(t : Int)]) A7 c7 X7 (hT.out.below hbw) hI7.out (by have := hlen.out; rw [List.length_append, List.length_singleton]; omega))
                  obtain ⟨q, hq⟩ : ∃ q, nextB H d (l ++ [(t : Int)]) = q := ⟨_, rfl⟩
                  rw [hq] at hcall htr
                  replace hq := hide hq
                  generalize (l ++ [(t : Int)]).length = m at *
                  clear hO7 hI7
                  go_wp2_with fail
                  clear c0
                  refine hcall.out.mono ?_
                  rintro e w8 ⟨rfl, hb8⟩
                  have hb9 := hbw.trans (hb8.mono hbw.size)
                  clear hcall
                  cases q with
                  | true =>
                    have hr2 := hye.out (by rw [htr.out]; rfl)
                    subst hr2
                    clear hye htr hnx hno hyes
                    go_wp2
                    go_ret
                    exact ⟨rfl, hB.trans (hb9.mono hB.size)⟩
                  | false =>
                    have hn2 := hide (hnx.out (by rw [htr.out]; rfl))
                    clear hnx hye htr
                    go_wp2
                    go_roundw
                    case rel => exact ⟨t + 1, by omega, by go_num, hn2, hb9⟩
                    case measure => simp [intOf]; omega
      · obtain rfl : t = H.length := by omega
        have hr2 := hno.out hall.out
        subst hr2
        clear hall hyes hno
        go_wp2
        go_ret
        exact ⟨rfl, hB.trans (hbt.mono hB.size)⟩
end Go.Proofs.YtjomijnbnbideaaGreatDoor

namespace Go.Proofs.YtjomijnbnbideaaGreatDoor
open Go.RowKit Go.Inq
set_option maxHeartbeats 8000000
attribute [local go_sem ↓] Go.wp_at_zero Go.wp_at_succ

set_option maxRecDepth 100000 in
theorem rwriters09_bad (A : Option Addr) (c : Nat) (H : List Txn) (key : Int) (w : World) (h : TxnS w (Old w) (.slice A H.length c) H) (hr : rightH H = false) (hn : LenH H) :
    Calls Tryz.prog 98 #[.agg #[.slice A H.length c], .int .i64 key] w fun e w' => e = .returned (.slice none 0 0) ∧ Below w.heap.size w w' := by
  obtain ⟨W0, hW0⟩ : ∃ W0, w.alloc (.cells #[.slice A H.length c] 24) = W0 := ⟨_, rfl⟩
  have hB := below_allocEq (Below.refl w.heap.size w) hW0 (Nat.le_refl _)
  have k0 := Blk.newEq hW0
  have hrc := hide (right08_big A c H W0 (h.below hB) hn)
  rw [hr] at hrc
  have c0 := k0.cell 0
  simp only [List.getElem?_toArray, List.getElem?_cons_zero, List.getElem?_cons_succ] at c0
  replace hr := hide hr
  replace hn := hide hn
  clear h
  go_enter Tryz.func98, Tryz.ntmps98
  go_wp2_with fail
  clear hW0 c0
  refine hrc.out.mono ?_
  rintro e w1 ⟨rfl, hb1⟩
  have k1 := k0.below hb1 k0.lt
  have c0 := k1.cell 0
  simp only [List.getElem?_toArray, List.getElem?_cons_zero, List.getElem?_cons_succ] at c0
  clear hrc
  go_wp2_with fail
  go_loopw [5, 7] (fun s5 s7 wr => wr = w1 ∧ s7 = .int .i64 0 ∧ s5 = .slice none 0 0) (fun _ s7 _ => 0)
  case atStart => exact ⟨rfl, rfl, rfl⟩
  case round =>
    obtain ⟨rfl, rfl, rfl⟩ := hrel
    go_wp2
    go_ret
    exact ⟨rfl, hB.trans (hb1.mono hB.size)⟩
set_option maxRecDepth 100000 in
theorem rpairs09_bad (A : Option Addr) (c : Nat) (H : List Txn) (w : World) (h : TxnS w (Old w) (.slice A H.length c) H) (hr : rightH H = false) (hn : LenH H) :
    Calls Tryz.prog 38 #[.agg #[.slice A H.length c]] w fun e w' => e = .returned (.slice none 0 0) ∧ Below w.heap.size w w' := by
  obtain ⟨W0, hW0⟩ : ∃ W0, w.alloc (.cells #[.slice A H.length c] 24) = W0 := ⟨_, rfl⟩
  have hB := below_allocEq (Below.refl w.heap.size w) hW0 (Nat.le_refl _)
  have k0 := Blk.newEq hW0
  have hT := hide (h.below hB)
  replace hr := hide hr
  replace hn := hide hn
  clear h
  go_enter Tryz.func38, Tryz.ntmps38
  go_wp2_with fail
  clear hW0
  go_loopw [3, 4] (fun s3 s4 wr => ∃ k : Nat, k ≤ 16 ∧ s4 = .int .i64 k ∧ s3 = .slice none 0 0 ∧ Below W0.heap.size W0 wr) (fun _ s4 _ => 16 - (intOf s4).toNat)
  case atStart => exact ⟨0, Nat.zero_le _, by go_num, rfl, Below.refl _ _⟩
  case round =>
    obtain ⟨k, hk, rfl, rfl, hb⟩ := hrel
    have hk1 : (0 : Int) ≤ (k : Int) := Int.natCast_nonneg _
    by_cases hlt : k < 16
    · have hk2 : (k : Int) < 16 := by omega
      have k1 := k0.below hb k0.lt
      have c0 := k1.cell 0
      simp only [List.getElem?_toArray, List.getElem?_cons_zero, List.getElem?_cons_succ] at c0
      have hcw := hide (rwriters09_bad A c H (k : Int) wr (hT.out.below hb) hr.out hn.out)
      obtain ⟨Wo, rfl⟩ : ∃ Wo, Wo = wr := ⟨_, rfl⟩
      go_wp2_with fail
      clear c0
      refine hcw.out.mono ?_
      rintro e wl ⟨rfl, hbl⟩
      have hb2 := hb.trans (hbl.mono hb.size)
      go_wp2_with fail
      go_loopw [3, 6] (fun s3 s6 wq => wq = wl ∧ s6 = .int .i64 0 ∧ s3 = .slice none 0 0) (fun _ s6 _ => 0)
      case atStart => exact ⟨rfl, rfl, rfl⟩
      case round =>
        obtain ⟨rfl, rfl, rfl⟩ := hrel
        go_wp2
        go_roundw
        case rel => exact ⟨k + 1, by omega, by go_num, rfl, hb2⟩
        case measure => simp [intOf]; omega
    · obtain rfl : k = 16 := by omega
      go_wp2
      go_ret
      exact ⟨rfl, hB.trans (hb.mono hB.size)⟩
set_option maxRecDepth 100000 in
theorem rhas21_any (A : Option Addr) (c : Nat) (H : List Txn) (level : Int) (w : World) (h : TxnS w (Old w) (.slice A H.length c) H) (hr : rightH H = true) (hn : SmallH H) :
    Calls Tryz.prog 18 #[.agg #[.slice A H.length c], .int .i64 level] w fun e w' => e = .returned (.bool (hasB H level)) ∧ Below w.heap.size w w' := by
  obtain ⟨W0, hW0⟩ : ∃ W0, w.alloc (.cells #[.slice A H.length c] 24) = W0 := ⟨_, rfl⟩
  have hB := below_allocEq (Below.refl w.heap.size w) hW0 (Nat.le_refl _)
  have k0 := Blk.newEq hW0
  have hT := hide (h.below hB)
  have hT2 := hide (TxnS.keep (w' := W0.drew) hT.out (Agree.drew _ _) (fun b h => h))
  have hpc := hide (rpairs09_any A c H W0.drew hT2.out hr hn)
  have hsm := hide (fun Ap cp W (hT : TxnS W (Old W) (.slice A H.length c) H) (hP : ChoS W (Old W) (.slice Ap (pairsL H).length cp) (pairsL H)) => rsome21_any A c H hr hn level (pairsL H) (by have := pairsL_len hr; omega) (fun p hp => pairs_one hp) (pairsL H).length [] none 0 Ap cp W hT hP (ChoS.nil _ _ _ _) (by simp) (by simp))
  have hq : Hid (someB H level ((pairsL H).drop ([] : List Cho).length) [] = hasB H level) := hide rfl
  rw [hq.out] at hsm
  generalize hasB H level = r at *
  have c0 := k0.cell 0
  simp only [List.getElem?_toArray, List.getElem?_cons_zero, List.getElem?_cons_succ] at c0
  replace hr := hide hr
  replace hn := hide hn
  clear h hq
  go_enter Tryz.func18, Tryz.ntmps18
  go_upto_region 1 with fail
  clear hW0
  have k0' := k0.drew
  have hbd := below_drew hB
  clear k0 hB hT
  refine wp_region_alts [1, 2] [0, 3, 4, 5] [[0, 3, 4, 5], [3, 0, 4, 5]] (by kernel_rfl) (by kernel_rfl) (fun _ _ d _ _ h => by cases d <;> exact h) ?_
  simp only [List.filterMap_cons, List.filterMap_nil, List.getElem?_cons_zero, List.getElem?_cons_succ]
  repeat still_step
  refine wpStill_nil ?_
  intro i hi
  simp only [List.filterMap_cons, List.head?_cons, List.filterMap_nil, List.mem_cons, List.not_mem_nil, or_false, or_self] at hi
  obtain rfl | rfl : i = 0 ∨ i = 3 := by omega
  · refine wpOp_list rfl ?_
    simp only [tailsOf, List.filterMap_cons, List.filterMap_nil, if_true, if_false, reduceIte, Nat.reduceEqDiff, List.length_cons, List.length_nil, Nat.reduceAdd]
    clear hi
    go_wp2_with fail
    intro iq hiq
    have hiq : iq = 3 := by
      simp only [List.filterMap_cons, List.head?_cons, List.filterMap_nil, List.mem_cons, List.not_mem_nil, or_false, or_self] at hiq
      omega
    cases hiq
    refine wpOp_list rfl ?_
    simp only [tailsOf, List.filterMap_cons, List.filterMap_nil, if_true, if_false, reduceIte, Nat.reduceEqDiff, List.length_cons, List.length_nil, Nat.reduceAdd]
    go_wp2_with fail
    refine hpc.out.mono ?_
    rintro e w1 ⟨v, rfl, hO, hb1⟩
    obtain ⟨Ap, cp, rfl⟩ := OwnC.form hO
    have hb2 := hbd.trans (hb1.mono hbd.size)
    have hs2 := hide (hsm.out Ap cp w1 (hT2.out.below hb1) (OwnC.sl (K := Old w1) hO (fun g _ h => h)))
    clear hpc hsm hO c0
    go_wp2_with fail
    intro iq hiq
    have hiq : iq = 4 := by
      simp only [List.filterMap_cons, List.head?_cons, List.filterMap_nil, List.mem_cons, List.not_mem_nil, or_false, or_self] at hiq
      omega
    cases hiq
    refine wpOp_list rfl ?_
    simp only [tailsOf, List.filterMap_cons, List.filterMap_nil, if_true, if_false, reduceIte, Nat.reduceEqDiff, List.length_cons, List.length_nil, Nat.reduceAdd]
    go_wp2_with fail
    refine hs2.out.mono ?_
    rintro e w2 ⟨rfl, hb3⟩
    go_wp2_with fail
    refine wpAlt_one _ _ _ _ rfl ?_
    simp only [List.filterMap_cons, List.filterMap_nil, List.getElem?_toArray, List.getElem?_cons_zero, List.getElem?_cons_succ]
    go_wp2
    go_ret
    exact ⟨rfl, hb2.trans (hb3.mono hb2.size)⟩
  · refine wpOp_list rfl ?_
    simp only [tailsOf, List.filterMap_cons, List.filterMap_nil, if_true, if_false, reduceIte, Nat.reduceEqDiff, List.length_cons, List.length_nil, Nat.reduceAdd]
    clear hi
    go_wp2_with fail
    refine hpc.out.mono ?_
    rintro e w1 ⟨v, rfl, hO, hb1⟩
    obtain ⟨Ap, cp, rfl⟩ := OwnC.form hO
    have hb2 := hbd.trans (hb1.mono hbd.size)
    have hs2 := hide (hsm.out Ap cp w1 (hT2.out.below hb1) (OwnC.sl (K := Old w1) hO (fun g _ h => h)))
    clear hpc hsm hO c0
    go_wp2_with fail
    have k1 := k0'.below hb1 k0'.lt
    have c0 := k1.cell 0
    simp only [List.getElem?_toArray, List.getElem?_cons_zero, List.getElem?_cons_succ] at c0
    intro iq hiq
    have hiq : iq = 0 := by
      simp only [List.filterMap_cons, List.head?_cons, List.filterMap_nil, List.mem_cons, List.not_mem_nil, or_false, or_self] at hiq
      omega
    cases hiq
    refine wpOp_list rfl ?_
    simp only [tailsOf, List.filterMap_cons, List.filterMap_nil, if_true, if_false, reduceIte, Nat.reduceEqDiff, List.length_cons, List.length_nil, Nat.reduceAdd]
    go_wp2_with fail
    intro iq hiq
    have hiq : iq = 4 := by
      simp only [List.filterMap_cons, List.head?_cons, List.filterMap_nil, List.mem_cons, List.not_mem_nil, or_false, or_self] at hiq
      omega
    cases hiq
    refine wpOp_list rfl ?_
    simp only [tailsOf, List.filterMap_cons, List.filterMap_nil, if_true, if_false, reduceIte, Nat.reduceEqDiff, List.length_cons, List.length_nil, Nat.reduceAdd]
    go_wp2_with fail
    refine hs2.out.mono ?_
    rintro e w2 ⟨rfl, hb3⟩
    go_wp2_with fail
    refine wpAlt_one _ _ _ _ rfl ?_
    simp only [List.filterMap_cons, List.filterMap_nil, List.getElem?_toArray, List.getElem?_cons_zero, List.getElem?_cons_succ]
    go_wp2
    go_ret
    exact ⟨rfl, hb2.trans (hb3.mono hb2.size)⟩
set_option maxRecDepth 100000 in
theorem rhas20_any (A : Option Addr) (c : Nat) (H : List Txn) (w : World) (h : TxnS w (Old w) (.slice A H.length c) H) (hr : rightH H = true) (hn : SmallH H) :
    Calls Tryz.prog 19 #[.agg #[.slice A H.length c]] w fun e w' => e = .returned (.bool (serB H)) ∧ Below w.heap.size w w' := by
  obtain ⟨W0, hW0⟩ : ∃ W0, w.alloc (.cells #[.slice A H.length c] 24) = W0 := ⟨_, rfl⟩
  have hB := below_allocEq (Below.refl w.heap.size w) hW0 (Nat.le_refl _)
  have k0 := Blk.newEq hW0
  have hnx := hide (rnext20_any A c H hr hn H.length [] none 0 W0 (h.below hB) (IntS.nil _ _ _ _) (by simp))
  have hq : Hid (nextB H H.length [] = serB H) := hide rfl
  rw [hq.out] at hnx
  generalize serB H = r at *
  have c0 := k0.cell 0
  simp only [List.getElem?_toArray, List.getElem?_cons_zero, List.getElem?_cons_succ] at c0
  replace hr := hide hr
  replace hn := hide hn
  clear h hq
  go_enter Tryz.func19, Tryz.ntmps19
  go_wp2_with fail
  clear hW0 c0
  refine hnx.out.mono ?_
  rintro e w1 ⟨rfl, hb1⟩
  go_wp2
  go_ret
  exact ⟨rfl, hB.trans (hb1.mono hB.size)⟩
/-- Has a history few pairs, and few transactions? -/
def smallB (H : List Txn) (n m : Nat) : Bool := fewN n H && rightH H && decide ((pairsL H).length ≤ m)
set_option maxRecDepth 100000 in
theorem rsmall22_any (A : Option Addr) (c : Nat) (H : List Txn) (n m : Nat) (w : World) (h : TxnS w (Old w) (.slice A H.length c) H) (hn : LenH H) (hn4 : n ≤ 1000) (hm4 : m ≤ 1000) :
    Calls Tryz.prog 15 #[.agg #[.slice A H.length c], .int .i64 (n : Int), .int .i64 (m : Int)] w fun e w' => e = .returned (.bool (smallB H n m)) ∧ Below w.heap.size w w' := by
  obtain ⟨W0, hW0⟩ : ∃ W0, w.alloc (.cells #[.slice A H.length c] 24) = W0 := ⟨_, rfl⟩
  have hB := below_allocEq (Below.refl w.heap.size w) hW0 (Nat.le_refl _)
  have k0 := Blk.newEq hW0
  have hT := hide (h.below hB)
  have hfc := hide (few8n_any n A c H W0 hT.out hn.1 hn.2)
  have hrc := hide (fun W (hb : Below w.heap.size w W) => right08_big A c H W (h.below hb) hn)
  have hpb := hide (fun W (hb : Below w.heap.size w W) (hr : rightH H = false) => rpairs09_bad A c H W (h.below hb) hr hn)
  have hpc := hide (fun W (hb : Below w.heap.size w W) (hr : rightH H = true) => rpairs09_any A c H W (h.below hb) hr (right_small hr))
  have hpl := hide (fun (hr : rightH H = true) => pairsL_len hr)
  have hsm : Hid (smallB H n m = (fewN n H && rightH H && decide ((pairsL H).length ≤ m))) := hide rfl
  generalize smallB H n m = r at *
  generalize fewN n H = q1 at *
  generalize rightH H = q2 at *
  have c0 := k0.cell 0
  simp only [List.getElem?_toArray, List.getElem?_cons_zero, List.getElem?_cons_succ] at c0
  replace hn := hide hn
  clear h hT
  go_enter Tryz.func15, Tryz.ntmps15
  go_wp2_with fail
  clear hW0 c0
  refine hfc.out.mono ?_
  rintro e w1 ⟨rfl, hb1⟩
  have hb2 := hB.trans (hb1.mono hB.size)
  have k1 := k0.below hb1 k0.lt
  have c0 := k1.cell 0
  simp only [List.getElem?_toArray, List.getElem?_cons_zero, List.getElem?_cons_succ] at c0
  have hr1 := hide (hrc.out w1 hb2)
  clear hfc hrc hb1 k0 hB
  go_wp2_with fail
  clear c0
  refine hr1.out.mono ?_
  rintro e w2 ⟨rfl, hb3⟩
  have hb4 := hb2.trans (hb3.mono hb2.size)
  have k2 := k1.below hb3 k1.lt
  have c0 := k2.cell 0
  simp only [List.getElem?_toArray, List.getElem?_cons_zero, List.getElem?_cons_succ] at c0
  clear hr1 hb2 hb3 k1
  cases q2 with
  | false =>
    have hre : r = false := by rw [hsm.out]; simp
    subst hre
    have hp := hide (hpb.out w2 hb4 (by simp))
    clear hpb hpc hpl hsm
    go_wp2_with fail
    clear c0
    refine hp.out.mono ?_
    rintro e w3 ⟨rfl, hb5⟩
    cases q1
    all_goals
      go_wp2
      go_ret
      exact ⟨rfl, hb4.trans (hb5.mono hb4.size)⟩
  | true =>
    have hp := hide (hpc.out w2 hb4 (by simp))
    have hl := hide (hpl.out (by simp))
    generalize pairsL H = P at *
    clear hpb hpc hpl
    go_wp2_with fail
    clear c0
    refine hp.out.mono ?_
    rintro e w3 ⟨v, rfl, hO, hb5⟩
    obtain ⟨Ap, cp, rfl⟩ := OwnC.form hO
    clear hO hp
    cases q1 with
    | false =>
      have hre : r = false := by rw [hsm.out]; simp
      subst hre
      clear hsm
      go_wp2
      go_ret
      exact ⟨rfl, hb4.trans (hb5.mono hb4.size)⟩
    | true =>
      obtain ⟨q, hq⟩ : ∃ q, decide (P.length ≤ m) = q := ⟨_, rfl⟩
      have hq2 : decide ((P.length : Int) ≤ (m : Int)) = q := by rw [← hq]; simp
      have hre : r = q := by rw [hsm.out, hq]; simp
      subst hre
      clear hsm
      go_wp2
      go_ret
      exact ⟨rfl, hb4.trans (hb5.mono hb4.size)⟩
end Go.Proofs.YtjomijnbnbideaaGreatDoor
