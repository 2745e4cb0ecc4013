/-
  Plain laws of layer 7: what is known of all writes tells whose a value is; no program in sight.
-/
import Derived.Test.YtapkbinlhmddiaaSrcP
set_option linter.unusedVariables false
set_option linter.unusedSimpArgs false
namespace Go.Inq
open Go Go.RowKit

theorem isW_iff (x : It) (e : Ev) : isW x e = true ↔ e.kind = 2 ∧ e.key = x.a ∧ e.val = x.b := by
  unfold isW
  simp only [Bool.and_eq_true, beq_iff_eq, and_assoc]
theorem wr_pos {ops : List Ev} {m : Nat} {x : It} : 0 < wr ops m x ↔ ∃ j e, j < m ∧ ops[j]? = some e ∧ isW x e = true := by
  unfold wr
  rw [List.length_pos_iff_exists_mem]
  constructor
  · rintro ⟨e, he⟩
    rw [List.mem_filter] at he
    obtain ⟨j, hj⟩ := List.getElem?_of_mem he.1
    rw [List.getElem?_take] at hj
    split at hj
    · exact ⟨j, e, by assumption, hj, he.2⟩
    · cases hj
  · rintro ⟨j, e, hjm, hj, he⟩
    refine ⟨e, List.mem_filter.2 ⟨?_, he⟩⟩
    refine List.mem_of_getElem? (i := j) ?_
    rw [List.getElem?_take, if_pos hjm, hj]
theorem wrT_pos {t : Tx} {x : It} : 0 < wrT t x ↔ ∃ e ∈ t.ops, isW x e = true := by
  unfold wrT
  rw [wr_pos]
  constructor
  · rintro ⟨j, e, _, hj, he⟩; exact ⟨e, List.mem_of_getElem? hj, he⟩
  · rintro ⟨e, he, hw⟩
    obtain ⟨j, hj⟩ := List.getElem?_of_mem he
    have hl : j < t.ops.length := by
      rcases Nat.lt_or_ge j t.ops.length with h | h
      · exact h
      · rw [List.getElem?_eq_none h] at hj; cases hj
    exact ⟨j, e, hl, hj, hw⟩
theorem sum_pos {l : List Nat} : 0 < l.sum ↔ ∃ n ∈ l, 0 < n := by
  induction l with
  | nil => simp
  | cons a r ih =>
    rw [List.sum_cons]
    constructor
    · intro h
      by_cases ha : 0 < a
      · exact ⟨a, by simp, ha⟩
      · obtain ⟨n, hn, hp⟩ := ih.1 (by omega)
        exact ⟨n, by simp [hn], hp⟩
    · rintro ⟨n, hn, hp⟩
      rcases List.mem_cons.1 hn with rfl | h
      · omega
      · have := ih.2 ⟨n, h, hp⟩; omega
theorem sumW_pos {l : List Tx} {i : Nat} {x : It} : 0 < sumW l i x ↔ ∃ k t, k < i ∧ l[k]? = some t ∧ 0 < wrT t x := by
  unfold sumW
  rw [sum_pos]
  constructor
  · rintro ⟨n, hn, hp⟩
    obtain ⟨t, ht, rfl⟩ := List.mem_map.1 hn
    obtain ⟨k, hk⟩ := List.getElem?_of_mem ht
    rw [List.getElem?_take] at hk
    split at hk
    · exact ⟨k, t, by assumption, hk, hp⟩
    · cases hk
  · rintro ⟨k, t, hki, hk, hp⟩
    refine ⟨wrT t x, List.mem_map.2 ⟨t, List.mem_of_getElem? (i := k) ?_, rfl⟩, hp⟩
    rw [List.getElem?_take, if_pos hki, hk]
theorem unlike_ops {l : List Tx} {i : Nat} {t : Tx} (ht : l[i]? = some t) (h : unlikeR l i = 0) : ∀ j, j < t.ops.length → opE l i t.ops j = 0 := by
  unfold unlikeR at h
  rw [ht] at h
  dsimp only at h
  rcases firstN_ways t.ops.length (opE l i t.ops) with ⟨k, hk, hj, hb, hf⟩ | ⟨hall, hf⟩
  · rw [hf] at h; exact absurd h hb
  · exact hall
/-- Where nothing is wrong with the writes, a write's value is not 0, and nobody ahead writes it. -/
theorem unlike_write {l : List Tx} {i : Nat} {t : Tx} (ht : l[i]? = some t) (h : unlikeR l i = 0) {x : It} (hx : 0 < wrT t x) : x.b ≠ 0 ∧ sumW l i x = 0 := by
  unfold wrT at hx
  obtain ⟨j, e, hjm, hj, hw⟩ := wr_pos.1 hx
  have h0 := unlike_ops ht h j hjm
  unfold opE at h0
  rw [hj] at h0
  obtain ⟨h1, h2, h3⟩ := (isW_iff x e).1 hw
  dsimp only at h0
  rw [if_neg (by omega)] at h0
  by_cases hz : e.val = 0
  · rw [if_pos hz] at h0; cases h0
  · rw [if_neg hz] at h0
    have e1 : (⟨e.key, e.val⟩ : It) = x := by rw [h2, h3]
    rw [e1] at h0
    by_cases hs : 0 < wr t.ops j x + sumW l i x
    · rw [if_pos hs] at h0; cases h0
    · exact ⟨by rw [← h3]; exact hz, by omega⟩
/-- .. so one transaction alone writes it. -/
theorem writer_one {l : List Tx} (h : ∀ i, i < l.length → unlikeR l i = 0) {i k : Nat} {t u : Tx} {x : It} (hi : l[i]? = some t) (hk : l[k]? = some u) (h1 : 0 < wrT t x) (h2 : 0 < wrT u x) : i = k := by
  have lt : ∀ {j : Nat} {v : Tx}, l[j]? = some v → j < l.length := fun {j v} hj => by
    rcases Nat.lt_or_ge j l.length with h | h
    · exact h
    · rw [List.getElem?_eq_none h] at hj; cases hj
  rcases Nat.lt_trichotomy i k with g | g | g
  · have := (unlike_write hk (h k (lt hk)) h2).2
    have := sumW_pos.2 ⟨i, t, g, hi, h1⟩
    omega
  · exact g
  · have := (unlike_write hi (h i (lt hi)) h1).2
    have := sumW_pos.2 ⟨k, u, g, hk, h2⟩
    omega
theorem who_some {l : List Tx} {x : It} {k : Nat} (h : whoR l x = some k) : ∃ t, l[k]? = some t ∧ 0 < wrT t x := by
  unfold whoR at h
  rw [List.findIdx?_eq_some_iff_getElem] at h
  obtain ⟨hk, hp, _⟩ := h
  exact ⟨l[k], List.getElem?_eq_getElem hk, by simpa using hp⟩
theorem who_none {l : List Tx} {x : It} (h : whoR l x = none) : ∀ t ∈ l, wrT t x = 0 := by
  unfold whoR at h
  rw [List.findIdx?_eq_none_iff] at h
  intro t ht
  have := h t ht
  simp at this
  omega
theorem who_of {l : List Tx} (h : ∀ i, i < l.length → unlikeR l i = 0) {k : Nat} {t : Tx} {x : It} (hk : l[k]? = some t) (hx : 0 < wrT t x) : whoR l x = some k := by
  cases hw : whoR l x with
  | none =>
    have := who_none hw t (List.mem_of_getElem? hk)
    omega
  | some j =>
    obtain ⟨u, hj, hu⟩ := who_some hw
    rw [writer_one h hk hj hx hu]

theorem ahead_spec (l : List Ev) (kind key : Int) : ∀ n : Nat, n ≤ l.length → (aheadN l kind key n = -1 ∧ ∀ j e, j < n → l[j]? = some e → ¬ (e.kind = kind ∧ e.key = key)) ∨
    ∃ (m : Nat) (e : Ev), m < n ∧ aheadN l kind key n = m ∧ l[m]? = some e ∧ e.kind = kind ∧ e.key = key
  | 0, _ => .inl ⟨rfl, fun j e h => absurd h (by omega)⟩
  | n + 1, hn => by
    have hx : l[n]? = some (l[n]'(by omega)) := List.getElem?_eq_getElem (by omega)
    unfold aheadN
    rw [hx]
    dsimp only
    by_cases hc : (l[n]'(by omega)).kind = kind ∧ (l[n]'(by omega)).key = key
    · rw [if_pos hc]
      exact .inr ⟨n, _, by omega, rfl, hx, hc⟩
    · rw [if_neg hc]
      rcases ahead_spec l kind key n (by omega) with ⟨h1, h2⟩ | ⟨m, e, h1, h2, h3⟩
      · refine .inl ⟨h1, fun j e hj he => ?_⟩
        by_cases hjn : j = n
        · subst hjn
          rw [hx] at he
          injection he with he
          subst he
          exact hc
        · exact h2 j e (by omega) he
      · exact .inr ⟨m, e, by omega, h2, h3⟩
theorem writeOf_some {l : List Ev} {key : Int} {y : It} (h : writeOf l key = some y) : y.a = key ∧ ∃ e ∈ l, isW y e = true := by
  unfold writeOf at h
  rcases ahead_spec l 2 key l.length (Nat.le_refl _) with ⟨h1, _⟩ | ⟨m, e, h1, h2, h3, h4, h5⟩
  · rw [h1] at h; simp at h
  · rw [h2, if_pos (by omega)] at h
    injection h with h
    subst h
    refine ⟨rfl, e, List.mem_of_getElem? h3, (isW_iff _ e).2 ⟨h4, h5, ?_⟩⟩
    unfold valAt
    simp [h3]
theorem writeOf_of {l : List Ev} {e : Ev} (he : e ∈ l) (hk : e.kind = 2) : ∃ y, writeOf l e.key = some y := by
  unfold writeOf
  rcases ahead_spec l 2 e.key l.length (Nat.le_refl _) with ⟨_, h2⟩ | ⟨m, e', h1, h2, h3, h4, h5⟩
  · obtain ⟨j, hj⟩ := List.getElem?_of_mem he
    have hl : j < l.length := by
      rcases Nat.lt_or_ge j l.length with h | h
      · exact h
      · rw [List.getElem?_eq_none h] at hj; cases hj
    exact absurd ⟨hk, rfl⟩ (h2 j e hl hj)
  · rw [h2, if_pos (by omega)]
    exact ⟨_, rfl⟩
theorem mem_writesTo {l : List Ev} {n : Nat} {y : It} : y ∈ writesTo l n ↔ ∃ k : Nat, k < n ∧ writeOf l k = some y := by
  unfold writesTo
  rw [List.mem_filterMap]
  constructor
  · rintro ⟨k, hk, h⟩; exact ⟨k, by simpa using hk, h⟩
  · rintro ⟨k, hk, h⟩; exact ⟨k, by simpa using hk, h⟩
theorem mem_readsTo {l : List Ev} {n : Nat} {y : It} : y ∈ readsTo l n ↔ ∃ k : Nat, k < n ∧ readOf l k = some y := by
  unfold readsTo
  rw [List.mem_filterMap]
  constructor
  · rintro ⟨k, hk, h⟩; exact ⟨k, by simpa using hk, h⟩
  · rintro ⟨k, hk, h⟩; exact ⟨k, by simpa using hk, h⟩
theorem look_good {l : List Ev} (h : (lookR l).err = 0) : lookR l = ⟨readsTo l 16, writesTo l 16, 0, 0⟩ ∧ ∀ j, j < l.length → wrongAt l j = 0 := by
  unfold lookR at h ⊢
  cases hf : firstBad l with
  | some i =>
    rw [hf] at h
    unfold firstBad at hf
    rw [List.find?_range_eq_some] at hf
    simp at hf
    exact absurd h hf.1
  | none =>
    refine ⟨rfl, fun j hj => ?_⟩
    unfold firstBad at hf
    rw [List.find?_eq_none] at hf
    simpa using hf j (by simpa using hj)
theorem look_right {l : List Ev} (h : (lookR l).err = 0) {e : Ev} (he : e ∈ l) : e.right = true ∧ (e.kind = 1 ∨ e.kind = 2) := by
  obtain ⟨j, hj⟩ := List.getElem?_of_mem he
  have hl : j < l.length := by
    rcases Nat.lt_or_ge j l.length with h | h
    · exact h
    · rw [List.getElem?_eq_none h] at hj; cases hj
  have := (look_good h).2 j hl
  unfold wrongAt at this
  rw [hj] at this
  dsimp only at this
  unfold wrongE at this
  by_cases hc : e.right = false ∨ (e.kind ≠ 1 ∧ e.kind ≠ 2)
  · rw [if_pos hc] at this; cases this
  · constructor
    · cases hr : e.right with
      | true => rfl
      | false => exact absurd (.inl hr) hc
    · by_cases h1 : e.kind = 1
      · exact .inl h1
      · by_cases h2 : e.kind = 2
        · exact .inr h2
        · exact absurd (.inr ⟨h1, h2⟩) hc
/-- Some committed transaction leaves it. -/
def lastB (l : List Tx) (x : It) : Bool := l.any fun t => t.done && (lookR t.ops).writes.contains x
/-- What a committed transaction writes is left by one just if it is not written over. -/
theorem last_middle {l : List Tx} (h2 : ∀ i, i < l.length → unlikeR l i = 0) (h3 : ∀ i, i < l.length → lookAt l i = 0) {k : Nat} {t : Tx} {x : It} (hk : l[k]? = some t) (hd : t.done = true) (hx : 0 < wrT t x) :
    lastB l x = !middleB (lookR t.ops).writes x := by
  have lt : ∀ {j : Nat} {v : Tx}, l[j]? = some v → j < l.length := fun {j v} hj => by
    rcases Nat.lt_or_ge j l.length with h | h
    · exact h
    · rw [List.getElem?_eq_none h] at hj; cases hj
  have good : ∀ {j : Nat} {v : Tx}, l[j]? = some v → v.done = true → (lookR v.ops).err = 0 := fun {j v} hj hv => by
    have := h3 j (lt hj)
    unfold lookAt at this
    rw [hj] at this
    dsimp only at this
    rwa [if_pos hv] at this
  have hg := good hk hd
  obtain ⟨e, he, hw⟩ := wrT_pos.1 hx
  obtain ⟨e1, e2, e3⟩ := (isW_iff x e).1 hw
  obtain ⟨y, hy⟩ := writeOf_of he e1
  have hyk := writeOf_some hy
  have hr := (look_right hg he).1
  have hkey : ∃ n : Nat, n < 16 ∧ e.key = n := by
    have hi : itemB e.kind = true := by rw [e1]; rfl
    unfold Ev.right belowB at hr
    rw [hi] at hr
    simp at hr
    exact ⟨e.key.toNat, by omega, by omega⟩
  obtain ⟨n, hn, hen⟩ := hkey
  have hym : y ∈ (lookR t.ops).writes := by
    rw [(look_good hg).1]
    exact mem_writesTo.2 ⟨n, hn, by rw [← hen]; exact hy⟩
  have hone : ∀ z ∈ (lookR t.ops).writes, z.a = x.a → z = y := fun z hz hza => by
    rw [(look_good hg).1] at hz
    obtain ⟨m, _, hm⟩ := mem_writesTo.1 hz
    have := (writeOf_some hm).1
    have hmk : (m : Int) = e.key := by rw [← this, hza, e2]
    rw [hmk, hy] at hm
    injection hm with hm
    exact hm.symm
  have hmem : ∀ {j : Nat} {v : Tx}, l[j]? = some v → v.done = true → x ∈ (lookR v.ops).writes → j = k := fun {j v} hj hv hxm => by
    rw [(look_good (good hj hv)).1] at hxm
    obtain ⟨m, _, hm⟩ := mem_writesTo.1 hxm
    obtain ⟨_, e', he', hw'⟩ := writeOf_some hm
    exact writer_one h2 hj hk (wrT_pos.2 ⟨e', he', hw'⟩) hx
  rw [Bool.eq_iff_iff]
  simp only [Bool.not_eq_true', Bool.eq_false_iff]
  unfold lastB middleB
  rw [List.any_eq_true]
  constructor
  · rintro ⟨v, hv, hc⟩
    rw [Bool.and_eq_true] at hc
    obtain ⟨j, hj⟩ := List.getElem?_of_mem hv
    have hjk := hmem hj hc.1 (by simpa using hc.2)
    subst hjk
    rw [hk] at hj
    injection hj with hj
    subst hj
    intro hm
    rw [List.any_eq_true] at hm
    obtain ⟨z, hz, hzc⟩ := hm
    simp at hzc
    have h4 := hone z hz hzc.1
    have h5 := hone x (by simpa using hc.2) rfl
    exact hzc.2 (by rw [h4, ← h5])
  · intro hm
    refine ⟨t, List.mem_of_getElem? hk, ?_⟩
    rw [hd, Bool.true_and]
    have hyx : y = x := by
      by_cases hb : y.b = x.b
      · have ha : y.a = x.a := by rw [hyk.1, e2]
        cases y; cases x
        simp at ha hb
        rw [ha, hb]
      · exact absurd (List.any_eq_true.2 ⟨y, hym, by simp [hyk.1, e2, hb]⟩) hm
    rw [← hyx]
    simpa using hym
/-- What the map of writers has of a value. -/
def byF (l : List Tx) (n : Nat) (x : It) : Option (Int × Int) := (whoR (l.take n) x).map fun (k : Nat) => ((k : Int), match l[k]? with | some t => if t.done = true then (numR7 l k : Int) else -1 | none => -1)
end Go.Inq
