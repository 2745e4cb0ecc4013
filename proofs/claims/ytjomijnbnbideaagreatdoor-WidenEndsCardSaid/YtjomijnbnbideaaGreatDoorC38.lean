/-
  Plain words of layer 20: an order shows a history to be serializable; some does just if some way to choose all pairs is good at Ser; no program in sight.
-/
import Derived.Test.YtjomijnbnbideaaGreatDoorC30
set_option linter.unusedVariables false
set_option linter.unusedSimpArgs false
namespace Go.Proofs.YtjomijnbnbideaaGreatDoor
open Go.RowKit Go.Inq

/-- Who writes a key, at a place of an order. -/
def wrA (H : List Txn) (π : List Int) (key : Int) (i : Nat) : Bool := (txnAt H (π.getD i 0).toNat).writes.contains key
/-- From whom the transaction at a place reads a key. -/
def fromB (H : List Txn) (π : List Int) (key : Int) : Nat → Int
  | 0 => -1
  | k + 1 => if wrA H π key k then π.getD k 0 else fromB H π key k
theorem from_spec (H : List Txn) (π : List Int) (key : Int) : ∀ k, (fromB H π key k = -1 ∧ ∀ i, i < k → wrA H π key i = false) ∨ ∃ i, i < k ∧ fromB H π key k = π.getD i 0 ∧ wrA H π key i = true ∧ ∀ j, i < j → j < k → wrA H π key j = false
  | 0 => .inl ⟨rfl, fun i hi => absurd hi (by omega)⟩
  | k + 1 => by
    unfold fromB
    cases h : wrA H π key k with
    | true =>
      rw [if_pos rfl]
      exact .inr ⟨k, by omega, rfl, h, fun j h1 h2 => absurd h1 (by omega)⟩
    | false =>
      rw [if_neg (by decide)]
      rcases from_spec H π key k with ⟨h1, h2⟩ | ⟨i, h1, h2, h3, h4⟩
      · refine .inl ⟨h1, fun i hi => ?_⟩
        by_cases e : i = k
        · subst e; exact h
        · exact h2 i (by omega)
      · refine .inr ⟨i, by omega, h2, h3, fun j hj1 hj2 => ?_⟩
        by_cases e : j = k
        · subst e; exact h
        · exact h4 j hj1 (by omega)
/-- What each transaction reads, one by one. -/
def playL (H : List Txn) (π : List Int) (t : Nat) : List It := (txnAt H t).reads.map fun r => ⟨r.a, fromB H π r.a (π.idxOf (t : Int))⟩
def sessB (H : List Txn) (π : List Int) : Bool := (List.range π.length).all fun i => (List.range i).all fun k => !(decide (π.getD k 0 > π.getD i 0) && decide ((txnAt H (π.getD k 0).toNat).sess = (txnAt H (π.getD i 0).toNat).sess))
def readsB (H : List Txn) (π : List Int) : Bool := (List.range H.length).all fun t => decide ((txnAt H t).reads = playL H π t)
/-- Does an order show that a history is what its transactions do, one by one? -/
def checkB (H : List Txn) (π : List Int) : Bool := permB π H.length && readsB H π && sessB H π
/-- All orders that begin so. -/
def nextB (H : List Txn) : Nat → List Int → Bool
  | 0, l => checkB H l
  | d + 1, l => (List.range H.length).any fun t => !l.contains (t : Int) && nextB H d (l ++ [(t : Int)])
def serB (H : List Txn) : Bool := nextB H H.length []

theorem nextB_some {H : List Txn} : ∀ d l, nextB H d l = true → ∃ q, checkB H (l ++ q) = true
  | 0, l, h => ⟨[], by rw [List.append_nil]; exact h⟩
  | d + 1, l, h => by
    unfold nextB at h
    rw [List.any_eq_true] at h
    obtain ⟨t, _, h2⟩ := h
    rw [Bool.and_eq_true] at h2
    obtain ⟨q, hq⟩ := nextB_some d _ h2.2
    exact ⟨(t : Int) :: q, by rw [List.append_assoc] at hq; exact hq⟩
theorem nextB_of {H : List Txn} : ∀ d l q, q.length = d → checkB H (l ++ q) = true → nextB H d l = true
  | 0, l, q, hq, h => by
    obtain rfl := List.eq_nil_of_length_eq_zero hq
    rw [List.append_nil] at h
    exact h
  | d + 1, l, [], hq, h => by simp at hq
  | d + 1, l, x :: q, hq, h => by
    have hp : permB (l ++ x :: q) H.length = true := by
      unfold checkB at h
      simp only [Bool.and_eq_true] at h
      exact h.1.1
    have hb := perm_bd hp (j := l.length) (by simp)
    rw [List.getElem_append_right (Nat.le_refl _)] at hb
    simp only [Nat.sub_self, List.getElem_cons_zero] at hb
    obtain ⟨t, rfl⟩ : ∃ t : Nat, x = (t : Int) := ⟨x.toNat, by omega⟩
    unfold nextB
    rw [List.any_eq_true]
    refine ⟨t, List.mem_range.2 (by omega), ?_⟩
    have hnd := perm_nodup hp
    rw [List.nodup_append] at hnd
    have hc : l.contains (t : Int) = false := by
      rw [Bool.eq_false_iff]
      intro hc
      exact hnd.2.2 _ (List.contains_iff_mem.1 hc) _ (by simp) rfl
    rw [hc, nextB_of d (l ++ [(t : Int)]) q (by simpa using hq) (by rw [List.append_assoc]; exact h)]
    rfl
theorem serB_iff {H : List Txn} : serB H = true ↔ ∃ π, checkB H π = true := by
  unfold serB
  constructor
  · intro h
    obtain ⟨q, hq⟩ := nextB_some _ _ h
    exact ⟨q, by simpa using hq⟩
  · rintro ⟨π, h⟩
    have hp : permB π H.length = true := by
      unfold checkB at h
      simp only [Bool.and_eq_true] at h
      exact h.1.1
    exact nextB_of _ [] π (perm_len hp) (by simpa using h)

/-- Two that write one key are a pair. -/
theorem pairsK_have {key : Int} {a b : Nat} : ∀ {l : List Nat}, l.Pairwise (· < ·) → a ∈ l → b ∈ l → a < b → (⟨key, a, b⟩ : Cho) ∈ pairsK key l
  | [], _, h, _, _ => by cases h
  | x :: r, hp, ha, hb, hab => by
    rw [List.pairwise_cons] at hp
    unfold pairsK
    rw [List.mem_append]
    rw [List.mem_cons] at ha hb
    rcases ha with rfl | ha
    · rcases hb with rfl | hb
      · omega
      · exact .inl (List.mem_map.2 ⟨b, hb, rfl⟩)
    · rcases hb with rfl | hb
      · have := hp.1 a ha; omega
      · exact .inr (pairsK_have hp.2 ha hb hab)
theorem pairsL_have {H : List Txn} {key : Int} {a b : Nat} (hab : a < b) (hb : b < H.length) (ha1 : key ∈ (txnAt H a).writes) (hb1 : key ∈ (txnAt H b).writes) : (⟨key, a, b⟩ : Cho) ∈ pairsL H := by
  unfold pairsL
  refine List.mem_flatten.2 ⟨_, List.mem_map.2 ⟨key, ?_, rfl⟩, pairsK_have (wrsL_rise H key) (wrsL_mem.2 ⟨by omega, ha1⟩) (wrsL_mem.2 ⟨hb, hb1⟩) hab⟩
  rw [txnAt_of hb] at hb1
  exact keysL_mem.2 ⟨_, List.getElem_mem hb, hb1⟩

/-- A place in an order. -/
theorem perm_at {π : List Int} {n x : Nat} (h : permB π n = true) (hx : x < n) : ∃ hi : π.idxOf (x : Int) < π.length, π[π.idxOf (x : Int)] = (x : Int) := ⟨List.idxOf_lt_length_of_mem (perm_has h hx), List.getElem_idxOf _⟩
theorem perm_inj {π : List Int} {n x y : Nat} (h : permB π n = true) (hx : x < n) (hy : y < n) (he : π.idxOf (x : Int) = π.idxOf (y : Int)) : x = y := by
  obtain ⟨h1, e1⟩ := perm_at h hx
  obtain ⟨h2, e2⟩ := perm_at h hy
  have : π[π.idxOf (x : Int)] = π[π.idxOf (y : Int)] := by simp only [he]
  omega
theorem perm_idx {π : List Int} {n i : Nat} (h : permB π n = true) (hi : i < π.length) : π.idxOf π[i] = i := by
  have h1 : π.idxOf π[i] < π.length := List.idxOf_lt_length_of_mem (List.getElem_mem hi)
  have h2 : π[π.idxOf π[i]] = π[i] := List.getElem_idxOf _
  rcases Nat.lt_trichotomy (π.idxOf π[i]) i with g | g | g
  · exact absurd h2 (perm_ne h g hi)
  · exact g
  · exact absurd h2.symm (perm_ne h g h1)
theorem getD_at {π : List Int} {i : Nat} (hi : i < π.length) : π.getD i 0 = π[i] := by rw [List.getD_eq_getElem?_getD, List.getElem?_eq_getElem hi, Option.getD_some]
/-- The order's own choices: the first stands ahead. -/
theorem of_ahead {H : List Txn} {π : List Int} (h : permB π H.length = true) {c : Cho} (hc : c ∈ decW H π) : ∃ a b : Nat, c.a = a ∧ c.b = b ∧ a < H.length ∧ b < H.length ∧ c.key ∈ (txnAt H a).writes ∧ c.key ∈ (txnAt H b).writes ∧ π.idxOf (a : Int) < π.idxOf (b : Int) := by
  rw [← ofL_dec h] at hc
  unfold ofL at hc
  obtain ⟨p, hp, rfl⟩ := List.mem_map.1 hc
  obtain ⟨a, b, ha, hb, hab, hbn, h1, h2⟩ := pairsL_mem hp
  have hI : ∀ x, x < H.length → idxI π (x : Int) = π.idxOf (x : Int) := fun x hx => by
    obtain ⟨hi, he⟩ := perm_at h hx
    refine idxI_hit hi he fun j hj hlt e => ?_
    exact perm_ne h hlt hi (by rw [he]; exact e)
  have hne : π.idxOf (a : Int) ≠ π.idxOf (b : Int) := fun e => by
    have := perm_inj h (by omega) hbn e
    omega
  have e1 := hI a (by omega)
  have e2 := hI b hbn
  unfold ofC
  rw [ha, hb, e1, e2]
  split
  · exact ⟨b, a, rfl, rfl, hbn, by omega, h2, h1, by omega⟩
  · exact ⟨a, b, ha, hb, by omega, hbn, h1, h2, by omega⟩
theorem ser_good {H : List Txn} {π : List Int} (h : checkB H π = true) : goodB H 0 (decW H π) = true := by
  unfold checkB at h
  simp only [Bool.and_eq_true] at h
  obtain ⟨⟨hp, hr⟩, hs⟩ := h
  have hR : ∀ t, t < H.length → ∀ r ∈ (txnAt H t).reads, r.b = fromB H π r.a (π.idxOf (t : Int)) := fun t ht r hr2 => by
    unfold readsB at hr
    rw [List.all_eq_true] at hr
    have h1 := of_decide_eq_true (hr t (List.mem_range.2 ht))
    unfold playL at h1
    obtain ⟨i, hi, rfl⟩ := List.getElem_of_mem hr2
    have h2 := congrArg (fun l => l[i]?) h1
    simp only [List.getElem?_map, List.getElem?_eq_getElem hi, Option.map_some, Option.some.injEq] at h2
    have h3 := congrArg It.b h2
    exact h3
  have hwA : ∀ x, x < H.length → ∀ key, key ∈ (txnAt H x).writes → wrA H π key (π.idxOf (x : Int)) = true := fun x hx key hk => by
    obtain ⟨hi, he⟩ := perm_at hp hx
    unfold wrA
    rw [getD_at hi, he, Int.toNat_natCast]
    exact List.contains_iff_mem.2 hk
  have hso : ∀ a b, a < H.length → b < H.length → soE H a b = true → π.idxOf (a : Int) < π.idxOf (b : Int) := fun a b ha hb he => by
    unfold soE at he
    rw [Bool.and_eq_true] at he
    have hab := of_decide_eq_true he.1
    refine Classical.byContradiction fun hno => ?_
    have hne : π.idxOf (a : Int) ≠ π.idxOf (b : Int) := fun e => by have := perm_inj hp ha hb e; omega
    obtain ⟨i1, e1⟩ := perm_at hp ha
    obtain ⟨i2, e2⟩ := perm_at hp hb
    unfold sessB at hs
    rw [List.all_eq_true] at hs
    have h1 := hs _ (List.mem_range.2 i1)
    rw [List.all_eq_true] at h1
    have h2 := h1 (π.idxOf (b : Int)) (List.mem_range.2 (by omega))
    rw [getD_at i1, getD_at i2, e1, e2, Int.toNat_natCast, Int.toNat_natCast, decide_eq_true (show ((b : Nat) : Int) > (a : Int) by omega), decide_eq_true (of_decide_eq_true he.2).symm] at h2
    cases h2
  have hwr : ∀ a b, a < H.length → b < H.length → wrE H a b = true → π.idxOf (a : Int) < π.idxOf (b : Int) := fun a b ha hb he => by
    unfold wrE at he
    rw [Bool.and_eq_true, List.any_eq_true] at he
    obtain ⟨_, r, hr2, hra⟩ := he
    have hra := of_decide_eq_true hra
    have h1 := hR b hb r hr2
    rcases from_spec H π r.a (π.idxOf (b : Int)) with ⟨g, _⟩ | ⟨i, g1, g2, _, _⟩
    · omega
    · obtain ⟨i2, e2⟩ := perm_at hp hb
      have hil : i < π.length := by omega
      rw [getD_at hil] at g2
      have : π[i] = (a : Int) := by omega
      have hx := perm_idx hp hil
      rw [this] at hx
      omega
  have hin : ∀ a b, a < H.length → b < H.length → initE H a b = true → π.idxOf (a : Int) < π.idxOf (b : Int) := fun a b ha hb he => by
    unfold initE at he
    rw [Bool.and_eq_true, List.any_eq_true] at he
    obtain ⟨hne, r, hr2, hra⟩ := he
    rw [Bool.and_eq_true, List.contains_iff_mem] at hra
    have hne := of_decide_eq_true hne
    have hr1 := of_decide_eq_true hra.1
    have h1 := hR a ha r hr2
    obtain ⟨i2, e2⟩ := perm_at hp ha
    rcases from_spec H π r.a (π.idxOf (a : Int)) with ⟨_, g⟩ | ⟨i, g1, g2, _, _⟩
    · refine Classical.byContradiction fun hno => ?_
      have hne2 : π.idxOf (a : Int) ≠ π.idxOf (b : Int) := fun e => hne (perm_inj hp ha hb e)
      have := g _ (show π.idxOf (b : Int) < _ by omega)
      rw [hwA b hb r.a hra.2] at this
      cases this
    · have hil : i < π.length := by omega
      rw [getD_at hil] at g2
      have := perm_bd hp hil
      omega
  unfold goodB
  rw [Bool.not_eq_true']
  refine cyc_rank (fun x => π.idxOf (x : Int)) fun x y hx hy he => ?_
  unfold fullE at he
  rw [if_neg (by decide)] at he
  have he : ((pastE H x y || wwE (decW H π) x y) || rwE H (decW H π) x y) = true := he
  rw [Bool.or_eq_true, Bool.or_eq_true] at he
  rcases he with (he | he) | he
  · unfold pastE orE at he
    rw [Bool.or_eq_true] at he
    exact he.elim (hso x y hx hy) (hwr x y hx hy)
  · unfold wwE at he
    rw [List.any_eq_true] at he
    obtain ⟨c, hc, h2⟩ := he
    rw [Bool.and_eq_true] at h2
    obtain ⟨a, b, e1, e2, _, _, _, _, hlt⟩ := of_ahead hp hc
    have h3 := of_decide_eq_true h2.1
    have h4 := of_decide_eq_true h2.2
    obtain rfl : a = x := by omega
    obtain rfl : b = y := by omega
    exact hlt
  · unfold rwE at he
    rw [Bool.or_eq_true] at he
    rcases he with he | he
    · exact hin x y hx hy he
    · rw [List.any_eq_true] at he
      obtain ⟨c, hc, h2⟩ := he
      simp only [Bool.and_eq_true, List.any_eq_true] at h2
      obtain ⟨⟨h3, h4⟩, r, hr2, h5, h6⟩ := h2
      have h3 := of_decide_eq_true h3
      have h4 := of_decide_eq_true h4
      have h5 := of_decide_eq_true h5
      have h6 := of_decide_eq_true h6
      obtain ⟨a, b, e1, e2, ha, hb, hwa, hwb, hlt⟩ := of_ahead hp hc
      obtain rfl : b = y := by omega
      refine Classical.byContradiction fun hno => ?_
      have hne2 : π.idxOf (x : Int) ≠ π.idxOf (b : Int) := fun e => h4 (perm_inj hp hx hb e)
      have h1 := hR x hx r hr2
      obtain ⟨i2, e2'⟩ := perm_at hp hx
      rcases from_spec H π r.a (π.idxOf (x : Int)) with ⟨g, _⟩ | ⟨i, g1, g2, _, g4⟩
      · omega
      · have hil : i < π.length := by omega
        rw [getD_at hil] at g2
        have hia : π[i] = (a : Int) := by omega
        have hx2 := perm_idx hp hil
        rw [hia] at hx2
        have := g4 (π.idxOf (b : Int)) (by omega) (by omega)
        rw [h5, hwA b hb _ hwb] at this
        cases this
theorem good_ser {H : List Txn} {m : List Cho} (hr : rightH H = true) (hm : allW (pairsL H) m) (hg : goodB H 0 m = true) : ∃ π, checkB H π = true := by
  obtain ⟨o, ht⟩ := good_topo hg
  have hp := ht.perm
  have hfull : ∀ x y, ((pastE H x y || wwE m x y) || rwE H m x y) = true → fullE H 0 m x y = true := fun x y h => by
    unfold fullE
    rw [if_neg (by decide)]
    exact h
  generalize hπ : (o.map fun (x : Nat) => (x : Int)) = π at hp
  have hpos : ∀ x, x < H.length → π.idxOf (x : Int) = o.idxOf x := fun x hx => by
    obtain ⟨hi, he⟩ := ht.at_ hx
    have hi2 : o.idxOf x < π.length := by rw [← hπ, List.length_map]; exact hi
    have : π[o.idxOf x] = (x : Int) := by subst hπ; rw [List.getElem_map, he]
    rw [← this]
    exact perm_idx hp hi2
  have hup : ∀ x y, x < H.length → y < H.length → ((pastE H x y || wwE m x y) || rwE H m x y) = true → π.idxOf (x : Int) < π.idxOf (y : Int) := fun x y hx hy h => by
    rw [hpos x hx, hpos y hy]
    exact ht.up hx hy (hfull x y h)
  have hbd : ∀ i (hi : i < π.length), ∃ u : Nat, u < H.length ∧ π[i] = (u : Int) ∧ π.idxOf (u : Int) = i := fun i hi => by
    have h1 := perm_bd hp hi
    refine ⟨π[i].toNat, by omega, by omega, ?_⟩
    rw [show ((π[i].toNat : Nat) : Int) = π[i] by omega]
    exact perm_idx hp hi
  refine ⟨π, ?_⟩
  unfold checkB
  rw [hp, Bool.true_and, Bool.and_eq_true]
  constructor
  · unfold readsB
    rw [List.all_eq_true]
    intro t ht2
    have ht2 := List.mem_range.1 ht2
    refine decide_eq_true ?_
    unfold playL
    refine List.ext_getElem (by simp) fun i h1 h2 => ?_
    rw [List.getElem_map]
    generalize hrr : (txnAt H t).reads[i] = r
    have hmem : r ∈ (txnAt H t).reads := by rw [← hrr]; exact List.getElem_mem h1
    suffices hs : r.b = fromB H π r.a (π.idxOf (t : Int)) by rw [← hs]
    obtain ⟨it, et⟩ := perm_at hp ht2
    have hth := (((rightH_iff H).1 hr).2 t ht2).there r (by rw [← txnAt_of ht2]; exact hmem)
    rcases from_spec H π r.a (π.idxOf (t : Int)) with ⟨g1, g2⟩ | ⟨j, g1, g2, g3, g4⟩
    · rcases (thereB_iff H t r).1 hth with e | ⟨k, hk, e1, e2, e3⟩
      · rw [e, g1]
      · exfalso
        have hlt := hup k t hk ht2 (by
          have : pastE H k t = true := by
            unfold pastE orE wrE
            rw [Bool.or_eq_true]
            right
            rw [Bool.and_eq_true, List.any_eq_true]
            exact ⟨decide_eq_true e2, r, hmem, decide_eq_true e1⟩
          rw [this]; rfl)
        have := g2 _ hlt
        obtain ⟨ik, ek⟩ := perm_at hp hk
        unfold wrA at this
        rw [getD_at ik, ek, Int.toNat_natCast, txnAt_of hk, List.contains_iff_mem.2 e3] at this
        cases this
    · have hjl : j < π.length := by omega
      obtain ⟨u, hu, eu, iu⟩ := hbd j hjl
      have hut : u ≠ t := fun e => by subst e; omega
      unfold wrA at g3
      rw [getD_at hjl, eu, Int.toNat_natCast, List.contains_iff_mem] at g3
      rw [getD_at hjl, eu] at g2
      rcases (thereB_iff H t r).1 hth with e | ⟨k, hk, e1, e2, e3⟩
      · exfalso
        have hlt := hup t u ht2 hu (by
          have : initE H t u = true := by
            unfold initE
            rw [Bool.and_eq_true, List.any_eq_true]
            exact ⟨decide_eq_true hut.symm, r, hmem, by rw [Bool.and_eq_true, List.contains_iff_mem]; exact ⟨decide_eq_true e, g3⟩⟩
          unfold rwE
          rw [this]; simp)
        omega
      · by_cases huk : u = k
        · subst huk; rw [e1, g2]
        · exfalso
          have hlt := hup k t hk ht2 (by
            have : pastE H k t = true := by
              unfold pastE orE wrE
              rw [Bool.or_eq_true]
              right
              rw [Bool.and_eq_true, List.any_eq_true]
              exact ⟨decide_eq_true e2, r, hmem, decide_eq_true e1⟩
            rw [this]; rfl)
          obtain ⟨ik, ek⟩ := perm_at hp hk
          have hkw : r.a ∈ (txnAt H k).writes := by rw [txnAt_of hk]; exact e3
          have hku : π.idxOf (k : Int) < π.idxOf (u : Int) := by
            have hne : π.idxOf (k : Int) ≠ π.idxOf (u : Int) := fun e => huk (perm_inj hp hk hu e).symm
            refine Classical.byContradiction fun hno => ?_
            have := g4 (π.idxOf (k : Int)) (by omega) hlt
            unfold wrA at this
            rw [getD_at ik, ek, Int.toNat_natCast, List.contains_iff_mem.2 hkw] at this
            cases this
          have hch : (⟨r.a, k, u⟩ : Cho) ∈ m ∨ (⟨r.a, u, k⟩ : Cho) ∈ m := by
            rcases Nat.lt_or_ge u k with g | g
            · have := allW_has hm _ (pairsL_have g hk g3 hkw)
              exact this.symm.imp id id
            · exact allW_has hm _ (pairsL_have (show k < u by omega) hu hkw g3)
          rcases hch with hch | hch
          · have := hup t u ht2 hu (by
              have : rwE H m t u = true := by
                unfold rwE
                rw [Bool.or_eq_true]
                right
                rw [List.any_eq_true]
                refine ⟨_, hch, ?_⟩
                simp only [Bool.and_eq_true, List.any_eq_true]
                exact ⟨⟨by simp, decide_eq_true hut.symm⟩, r, hmem, by simp, decide_eq_true e1⟩
              rw [this]; simp)
            omega
          · have := hup u k hu hk (by
              have : wwE m u k = true := by
                unfold wwE
                rw [List.any_eq_true]
                exact ⟨_, hch, by simp⟩
              rw [this]; simp)
            omega
  · unfold sessB
    rw [List.all_eq_true]
    intro i hi
    have hi := List.mem_range.1 hi
    rw [List.all_eq_true]
    intro k hk
    have hk := List.mem_range.1 hk
    obtain ⟨u, hu, eu, iu⟩ := hbd i hi
    obtain ⟨v, hv, ev, iv⟩ := hbd k (by omega)
    rw [getD_at hi, getD_at (show k < π.length by omega), eu, ev, Int.toNat_natCast, Int.toNat_natCast, Bool.not_eq_true', Bool.and_eq_false_iff]
    refine Classical.byContradiction fun hno => ?_
    simp only [decide_eq_false_iff_not, not_or, Classical.not_not] at hno
    have := hup u v hu hv (by
      have : soE H u v = true := by
        unfold soE
        rw [Bool.and_eq_true]
        exact ⟨decide_eq_true (by omega), decide_eq_true hno.2.symm⟩
      unfold pastE orE
      rw [this]; rfl)
    omega
/-- Some order shows it just if some way to choose all pairs is good. -/
theorem ser_has {H : List Txn} (hr : rightH H = true) : serB H = hasB H 0 := by
  rw [Bool.eq_iff_iff, serB_iff]
  constructor
  · rintro ⟨π, h⟩
    have hp : permB π H.length = true := by
      unfold checkB at h
      simp only [Bool.and_eq_true] at h
      exact h.1.1
    exact has_of_dec hp (ser_good h)
  · intro h
    obtain ⟨m, hm, hg⟩ := hasB_iff.1 h
    exact good_ser hr hm hg
end Go.Proofs.YtjomijnbnbideaaGreatDoor
