/-
  Plain laws of SourceRight: what a good history has; no program in sight.
-/
import Derived.Test.YtapkbinlhmddiaaSrcL
import Derived.Test.YtapkbinlhmddiaaSaidP
import Derived.Test.YtapkbinlhmddiaaSrc0
set_option linter.unusedVariables false
set_option linter.unusedSimpArgs false
namespace Go.Proofs.Ytapkbinlhmddiaa
open Go.RowKit Go.Inq

theorem lt_of_at {α : Type} {l : List α} {i : Nat} {x : α} (h : l[i]? = some x) : i < l.length := by
  rcases Nat.lt_or_ge i l.length with g | g
  · exact g
  · rw [List.getElem?_eq_none g] at h; cases h
theorem txns_len (l : List Tx) (n : Nat) : (txnsTo l n).length = numR7 l n := by
  unfold txnsTo numR7; rw [List.length_map]
theorem txns_at {l : List Tx} {i : Nat} (hi : i < l.length) (hd : l[i].done = true) : (txnsTo l l.length)[numR7 l i]? = some (oneR l l[i]).1 := by
  have hp : txnsTo l (i + 1) <+: txnsTo l l.length := by
    unfold txnsTo
    rw [List.take_length]
    exact ((List.take_prefix (i + 1) l).filter _).map _
  obtain ⟨s, hs⟩ := hp
  have h1 := txnsTo_step hi
  rw [if_pos hd] at h1
  rw [← hs, h1, List.append_assoc, List.getElem?_append_right (by rw [txns_len]; omega), txns_len]
  simp
theorem num7_mono (l : List Tx) {i j : Nat} (h : i ≤ j) : numR7 l i ≤ numR7 l j := by
  unfold numR7
  have : l.take i <+: l.take j := List.take_prefix_take_left h
  exact (this.filter _).length_le
theorem num7_lt {l : List Tx} {i j : Nat} (hi : i < l.length) (hd : l[i].done = true) (h : i < j) : numR7 l i < numR7 l j := by
  have h1 := num7_step hi
  rw [if_pos hd] at h1
  have := num7_mono l (show i + 1 ≤ j from h)
  omega
theorem num7_inj {l : List Tx} {i j : Nat} (hi : i < l.length) (hj : j < l.length) (hd : l[i].done = true) (hd' : l[j].done = true) (h : numR7 l i = numR7 l j) : i = j := by
  rcases Nat.lt_trichotomy i j with g | g | g
  · have := num7_lt hi hd g; omega
  · exact g
  · have := num7_lt hj hd' g; omega
theorem num7_onto (l : List Tx) : ∀ n, n ≤ l.length → ∀ m, m < numR7 l n → ∃ i, ∃ hi : i < l.length, i < n ∧ l[i].done = true ∧ numR7 l i = m
  | 0, _, m, h => by simp [numR7] at h
  | n + 1, hn, m, h => by
    have h1 := num7_step (l := l) (i := n) (by omega)
    by_cases hm : m < numR7 l n
    · obtain ⟨i, hi, h2, h3, h4⟩ := num7_onto l n (by omega) m hm
      exact ⟨i, hi, by omega, h3, h4⟩
    · by_cases hd : (l[n]'(by omega)).done = true
      · rw [if_pos hd] at h1
        exact ⟨n, by omega, by omega, hd, by omega⟩
      · rw [if_neg hd] at h1
        omega
theorem rising {g : Int → Option It} (hg : ∀ k x, g k = some x → x.a = k) (n : Nat) : ((List.range n).filterMap fun (k : Nat) => g (k : Int)).Pairwise (fun x y => x.a < y.a) ∧ ∀ x ∈ ((List.range n).filterMap fun (k : Nat) => g (k : Int)), 0 ≤ x.a ∧ x.a < n := by
  induction n with
  | zero => simp
  | succ n ih =>
    rw [List.range_succ, List.filterMap_append]
    have h1 : ∀ x ∈ (List.filterMap (fun (k : Nat) => g (k : Int)) [n]), x.a = n := fun x hx => by
      rw [List.mem_filterMap] at hx
      obtain ⟨k, hk, hx⟩ := hx
      simp at hk
      subst hk
      exact hg _ _ hx
    refine ⟨List.pairwise_append.2 ⟨ih.1, ?_, fun x hx y hy => ?_⟩, fun x hx => ?_⟩
    · cases hq : g (n : Int) with
      | none => simp [hq]
      | some z => simp [hq]
    · have := ih.2 x hx
      have := h1 y hy
      omega
    · rcases List.mem_append.1 hx with hx | hx
      · have := ih.2 x hx; omega
      · have := h1 x hx; omega
theorem writeOf_key {l : List Ev} : ∀ k x, writeOf l k = some x → x.a = k := fun k x h => (writeOf_some h).1
theorem readOf_key {l : List Ev} : ∀ k x, readOf l k = some x → x.a = k := fun k x h => by
  unfold readOf at h
  split at h
  · injection h with h; rw [← h]
  · cases h
/-- A read's key and value are written by no op of that transaction. -/
theorem read_own {l : List Ev} (h : ∀ j, j < l.length → wrongAt l j = 0) {r : It} (hr : readOf l r.a = some r) : ∀ e ∈ l, isW r e = false := by
  unfold readOf at hr
  split at hr
  · rename_i hc
    injection hr with hr
    have hb : r.b = valAt l (firstD l r.a 0) := by rw [← hr]
    rw [← firstA_all] at hc hb
    rcases firstA_eq l r.a l.length (Nat.le_refl _) with ⟨_, h2⟩ | ⟨j, hj, _, h2, h3, h4⟩
    · rw [h2] at hc; omega
    · rw [h2] at hc hb
      have hjl := List.getElem?_eq_getElem hj
      have hk1 : l[j].kind = 1 := by have := hc.2; unfold kindAt at this; rw [Int.toNat_natCast, hjl] at this; exact this
      have hv : r.b = l[j].val := by rw [hb]; unfold valAt; rw [Int.toNat_natCast, hjl]; rfl
      have hw := h j hj
      unfold wrongAt at hw
      rw [hjl] at hw
      dsimp only at hw
      have hnone : ∀ kind, aheadN l kind r.a j = -1 := fun kind => by
        rcases ahead_spec l kind r.a j (by omega) with ⟨g, _⟩ | ⟨m, e, g1, _, g3, _, g5⟩
        · exact g
        · have hml := lt_of_at g3
          have g3' := g3
          rw [List.getElem?_eq_getElem hml] at g3'
          injection g3' with g3'
          exact absurd (g3' ▸ g5) (h4 m hml g1)
      unfold wrongE at hw
      rw [h3, hnone 2, hnone 1] at hw
      split at hw
      · cases hw
      · rw [if_neg (by omega), if_neg (by omega), if_neg (by omega)] at hw
        split at hw
        · cases hw
        · rename_i hf
          have hf : future l j r.a l[j].val = false := by simpa using hf
          intro e he
          obtain ⟨m, hm⟩ := List.getElem?_of_mem he
          have hml := lt_of_at hm
          rw [List.getElem?_eq_getElem hml] at hm
          injection hm with hm
          cases hw2 : isW r e with
          | false => rfl
          | true =>
            obtain ⟨e1, e2, e3⟩ := (isW_iff r e).1 hw2
            rcases Nat.lt_trichotomy m j with g | g | g
            · exact absurd (hm ▸ e2) (h4 m hml g)
            · subst g; rw [hm] at hk1; omega
            · unfold future at hf
              rw [List.any_eq_false] at hf
              have := hf e (List.mem_of_getElem? (i := m - (j + 1)) (by rw [List.getElem?_drop, show j + 1 + (m - (j + 1)) = m by omega, List.getElem?_eq_getElem hml, hm]))
              simp [e1, e2, e3, ← hv] at this
  · cases hr

theorem look_zero {l : List Tx} (h3 : ∀ j, j < l.length → lookAt l j = 0) {i : Nat} (hi : i < l.length) (hd : l[i].done = true) : (lookR l[i].ops).err = 0 := by
  have := h3 i hi
  unfold lookAt at this
  rw [List.getElem?_eq_getElem hi] at this
  dsimp only at this
  rwa [if_pos hd] at this
theorem one_zero {l : List Tx} (h4 : ∀ j, j < l.length → oneAt l j = 0) {i : Nat} (hi : i < l.length) (hd : l[i].done = true) :
    (oneR l l[i]).1 = ⟨l[i].sess, (lookR l[i].ops).writes.map (·.a), (lookR l[i].ops).reads.map fun r => ⟨r.a, (fromR l r).1⟩⟩ ∧ ∀ r ∈ (lookR l[i].ops).reads, (fromR l r).2 = 0 := by
  have h := h4 i hi
  unfold oneAt at h
  rw [List.getElem?_eq_getElem hi] at h
  dsimp only at h
  rw [if_pos hd] at h
  unfold oneR at h ⊢
  dsimp only at h ⊢
  rcases firstN_ways (lookR l[i].ops).reads.length (readE l (lookR l[i].ops).reads) with ⟨k, hk, _, hb, hs⟩ | ⟨hall, hs⟩
  · rw [hs] at h
    exact absurd h hb
  · rw [hs]
    refine ⟨rfl, fun r hr => ?_⟩
    obtain ⟨j, hj⟩ := List.getElem?_of_mem hr
    have hjl := lt_of_at hj
    have := hall j hjl
    rw [readE_at hjl] at this
    rw [List.getElem?_eq_getElem hjl] at hj
    injection hj with hj
    rwa [hj] at this
/-- Whose a good read is. -/
theorem from_ways {l : List Tx} {r : It} (h : (fromR l r).2 = 0) : (r.b = 0 ∧ (fromR l r).1 = -1) ∨ ∃ k, ∃ hk : k < l.length, whoR l r = some k ∧ l[k].done = true ∧ 0 < wrT l[k] r ∧ (fromR l r).1 = numR7 l k ∧ middleB (lookR l[k].ops).writes r = false := by
  unfold fromR at h ⊢
  split at h
  · rename_i hb; rw [if_pos hb]; exact .inl ⟨hb, rfl⟩
  · rename_i hb
    rw [if_neg hb]
    cases hw : whoR l r with
    | none => rw [hw] at h; cases h
    | some k =>
      obtain ⟨t, ht, hp⟩ := who_some hw
      have hk := lt_of_at ht
      rw [List.getElem?_eq_getElem hk] at ht
      injection ht with ht
      rw [hw] at h
      dsimp only at h ⊢
      rw [List.getElem?_eq_getElem hk] at h ⊢
      dsimp only at h ⊢
      split at h
      · cases h
      · rename_i hd
        split at h
        · cases h
        · rename_i hm
          rw [if_neg hd, if_neg hm]
          exact .inr ⟨k, hk, rfl, by simpa using hd, by rw [ht]; exact hp, rfl, by simpa using hm⟩
theorem writes_of {t : Tx} (h : (lookR t.ops).err = 0) {x : It} (hx : 0 < wrT t x) : x.a ∈ (lookR t.ops).writes.map (·.a) := by
  obtain ⟨e, he, hw⟩ := wrT_pos.1 hx
  obtain ⟨h1, h2, h3⟩ := (isW_iff x e).1 hw
  obtain ⟨y, hy⟩ := writeOf_of he h1
  have hg := look_good h
  have hr := look_right h he
  have hk : 0 ≤ e.key ∧ e.key < 16 := by
    have := hr.1
    unfold Ev.right at this
    rw [show itemB e.kind = true by unfold itemB; simp [h1]] at this
    simp [belowB] at this
    omega
  rw [hg.1]
  refine List.mem_map.2 ⟨y, mem_writesTo.2 ⟨e.key.toNat, by omega, by rw [Int.toNat_of_nonneg hk.1]; exact hy⟩, ?_⟩
  rw [(writeOf_some hy).1, h2]

/-- What is said of a history that is told. -/
structure RightH (l : List Tx) (rt : List Txn) : Prop where
  num : numR7 l l.length = rt.length
  sess : ∀ i (hi : i < l.length), l[i].done = true → ∃ h : numR7 l i < rt.length, (rt[numR7 l i]).sess = l[i].sess
  writes : ∀ i (hi : i < rt.length) j (hj : j < rt[i].writes.length), 0 ≤ rt[i].writes[j] ∧ rt[i].writes[j] < 16
  rise : ∀ i (hi : i < rt.length) j (hj : j + 1 < rt[i].writes.length), rt[i].writes[j] < rt[i].writes[j + 1]
  reads : ∀ i (hi : i < rt.length) j (hj : j < rt[i].reads.length), 0 ≤ rt[i].reads[j].a ∧ rt[i].reads[j].a < 16 ∧ -1 ≤ rt[i].reads[j].b ∧ rt[i].reads[j].b < rt.length ∧ rt[i].reads[j].b ≠ i
  rrise : ∀ i (hi : i < rt.length) j (hj : j + 1 < rt[i].reads.length), rt[i].reads[j].a < rt[i].reads[j + 1].a
  there : ∀ i (hi : i < rt.length) j (hj : j < rt[i].reads.length) k (hk : k < rt.length), rt[i].reads[j].b = k → rt[i].reads[j].a ∈ rt[k].writes
/-- The same, of one transaction. -/
structure RightT (rt : List Txn) (i : Nat) (t : Txn) : Prop where
  writes : ∀ j (hj : j < t.writes.length), 0 ≤ t.writes[j] ∧ t.writes[j] < 16
  rise : ∀ j (hj : j + 1 < t.writes.length), t.writes[j] < t.writes[j + 1]
  reads : ∀ j (hj : j < t.reads.length), 0 ≤ t.reads[j].a ∧ t.reads[j].a < 16 ∧ -1 ≤ t.reads[j].b ∧ t.reads[j].b < rt.length ∧ t.reads[j].b ≠ i
  rrise : ∀ j (hj : j + 1 < t.reads.length), t.reads[j].a < t.reads[j + 1].a
  there : ∀ j (hj : j < t.reads.length) k (hk : k < rt.length), t.reads[j].b = k → t.reads[j].a ∈ rt[k].writes
theorem RightH.at_ {l : List Tx} {rt : List Txn} (h : RightH l rt) {i : Nat} (hi : i < rt.length) : RightT rt i rt[i] :=
  ⟨h.writes i hi, h.rise i hi, h.reads i hi, h.rrise i hi, h.there i hi⟩
theorem right_hist {l : List Tx} (h2 : ∀ j, j < l.length → unlikeR l j = 0) (h3 : ∀ j, j < l.length → lookAt l j = 0) (h4 : ∀ j, j < l.length → oneAt l j = 0) : RightH l (txnsTo l l.length) := by
  have hlen := txns_len l l.length
  have own : ∀ m (hm : m < (txnsTo l l.length).length), ∃ i, ∃ hi : i < l.length, l[i].done = true ∧ numR7 l i = m ∧
      (txnsTo l l.length)[m] = ⟨l[i].sess, (writesTo l[i].ops 16).map (·.a), (readsTo l[i].ops 16).map fun r => ⟨r.a, (fromR l r).1⟩⟩ ∧ (∀ r ∈ readsTo l[i].ops 16, (fromR l r).2 = 0) ∧ (∀ j, j < l[i].ops.length → wrongAt l[i].ops j = 0) := fun m hm => by
    obtain ⟨i, hi, _, hd, hn⟩ := num7_onto l l.length (Nat.le_refl _) m (by omega)
    have ha := txns_at hi hd
    rw [hn, List.getElem?_eq_getElem hm] at ha
    injection ha with ha
    have hl := look_zero h3 hi hd
    obtain ⟨o1, o2⟩ := one_zero h4 hi hd
    have hg := look_good hl
    rw [hg.1] at o1 o2
    exact ⟨i, hi, hd, hn, ha.trans o1, o2, hg.2⟩
  have lw := fun (o : List Ev) => rising (g := writeOf o) writeOf_key 16
  have lr := fun (o : List Ev) => rising (g := readOf o) readOf_key 16
  refine ⟨hlen.symm, fun i hi hd => ?_, fun m hm j hj => ?_, fun m hm j hj => ?_, fun m hm j hj => ?_, fun m hm j hj => ?_, fun m hm j hj k hk he => ?_⟩
  · have ha := txns_at hi hd
    have hlt := lt_of_at ha
    rw [List.getElem?_eq_getElem hlt] at ha
    injection ha with ha
    exact ⟨hlt, by rw [ha, (one_zero h4 hi hd).1]⟩
  · obtain ⟨i, hi, hd, hn, ht, _⟩ := own m hm
    have hw : (txnsTo l l.length)[m].writes = (writesTo l[i].ops 16).map (·.a) := by rw [ht]
    simp only [hw, List.getElem_map]
    rw [hw, List.length_map] at hj
    exact (lw l[i].ops).2 _ (List.getElem_mem hj)
  · obtain ⟨i, hi, hd, hn, ht, _⟩ := own m hm
    have hw : (txnsTo l l.length)[m].writes = (writesTo l[i].ops 16).map (·.a) := by rw [ht]
    simp only [hw, List.getElem_map]
    rw [hw, List.length_map] at hj
    exact List.pairwise_iff_getElem.1 (lw l[i].ops).1 j (j + 1) (by unfold writesTo at hj; omega) hj (by omega)
  · obtain ⟨i, hi, hd, hn, ht, h5, h6⟩ := own m hm
    have hw : (txnsTo l l.length)[m].reads = (readsTo l[i].ops 16).map fun r => ⟨r.a, (fromR l r).1⟩ := by rw [ht]
    simp only [hw, List.getElem_map]
    rw [hw, List.length_map] at hj
    have hmem := List.getElem_mem hj
    have hb := (lr l[i].ops).2 _ hmem
    refine ⟨hb.1, hb.2, ?_⟩
    rcases from_ways (h5 _ hmem) with ⟨_, g⟩ | ⟨k, hk, _, hd2, hp, g, _⟩
    · rw [g]; omega
    · rw [g]
      have := num7_lt hk hd2 hk
      refine ⟨by omega, by omega, fun e => ?_⟩
      have e : numR7 l k = numR7 l i := by omega
      have := num7_inj hk hi hd2 hd e
      subst this
      obtain ⟨q, hq, hro⟩ := mem_readsTo.1 hmem
      have hka := readOf_key _ _ hro
      rw [← hka] at hro
      obtain ⟨ev, hev, hw⟩ := wrT_pos.1 hp
      rw [read_own h6 hro ev hev] at hw
      cases hw
  · obtain ⟨i, hi, hd, hn, ht, h5, h6⟩ := own m hm
    have hw : (txnsTo l l.length)[m].reads = (readsTo l[i].ops 16).map fun r => ⟨r.a, (fromR l r).1⟩ := by rw [ht]
    simp only [hw, List.getElem_map]
    rw [hw, List.length_map] at hj
    exact List.pairwise_iff_getElem.1 (lr l[i].ops).1 j (j + 1) (by unfold readsTo at hj; omega) hj (by omega)
  · obtain ⟨i, hi, hd, hn, ht, h5, h6⟩ := own m hm
    have hw : (txnsTo l l.length)[m].reads = (readsTo l[i].ops 16).map fun r => ⟨r.a, (fromR l r).1⟩ := by rw [ht]
    simp only [hw, List.getElem_map] at he ⊢
    rw [hw, List.length_map] at hj
    have hmem := List.getElem_mem hj
    rcases from_ways (h5 _ hmem) with ⟨_, g⟩ | ⟨k', hk', _, hd2, hp, g, _⟩
    · rw [g] at he; omega
    · rw [g] at he
      have hkk : numR7 l k' = k := by omega
      have ha := txns_at hk' hd2
      rw [hkk, List.getElem?_eq_getElem hk] at ha
      injection ha with ha
      rw [ha, (one_zero h4 hk' hd2).1]
      exact writes_of (look_zero h3 hk' hd2) hp
end Go.Proofs.Ytapkbinlhmddiaa
