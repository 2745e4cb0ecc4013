/-
  Plain laws of InnerMore and InnerFront: a read behind all, a read ahead of all. No program in sight.
-/
import Derived.Test.YteddcpblpkhoeaaSaidP
set_option linter.unusedVariables false
set_option linter.unusedSimpArgs false
namespace Go.Proofs.Yteddcpblpkhoeaa
open Go.RowKit Go.Inq

/-- The last value of a key among the first i items. -/
def scanI (l : List It) (k : Int) : Nat → Option Int
  | 0 => none
  | i + 1 => match l[i]? with
    | some x => if x.a = k then some x.b else scanI l k i
    | none => scanI l k i
theorem scanI_succ {l : List It} {k : Int} {i : Nat} {x : It} (h : l[i]? = some x) : scanI l k (i + 1) = if x.a = k then some x.b else scanI l k i := by
  rw [scanI, h]
theorem scanI_append (k : Int) (b : List It) : ∀ (i : Nat) (a : List It), i ≤ a.length → scanI (a ++ b) k i = scanI a k i
  | 0, _, _ => rfl
  | i + 1, a, h => by
    rw [scanI, scanI, List.getElem?_append_left (by omega), scanI_append k b i a (by omega)]
theorem scanI_none {l : List It} {k : Int} : ∀ (i : Nat), (∀ x ∈ l, x.a ≠ k) → scanI l k i = none
  | 0, _ => rfl
  | i + 1, h => by
    rw [scanI]
    split
    · rename_i x hx
      rw [if_neg (h x (List.mem_of_getElem? hx))]
      exact scanI_none i h
    · exact scanI_none i h
theorem scanI_join {a b : List It} {k : Int} : ∀ n : Nat, n ≤ b.length → (∀ x ∈ b, x.a ≠ k) → scanI (a ++ b) k (a.length + n) = scanI a k a.length
  | 0, _, _ => scanI_append k b _ a (Nat.le_refl _)
  | n + 1, hn, h => by
    rw [← Nat.add_assoc, scanI, List.getElem?_append_right (by omega), show a.length + n - a.length = n by omega, List.getElem?_eq_getElem (show n < b.length by omega)]
    dsimp only
    rw [if_neg (h _ (List.getElem_mem _))]
    exact scanI_join n (by omega) h
theorem scan_rng (f : Int → Option Int) {k : Nat} (hk : k < 16) : scanI (rng f) k (rng f).length = f k := by
  have hB : ∀ x ∈ rngOf f (List.range' (k + 1) (15 - k)), x.a ≠ k := fun x hx => by
    obtain ⟨n, hn, ha, _⟩ := rngOf_mem hx
    rw [List.mem_range'_1] at hn
    omega
  have hA : ∀ x ∈ rngOf f (List.range k), x.a ≠ k := fun x hx => by
    obtain ⟨n, hn, ha, _⟩ := rngOf_mem hx
    have := List.mem_range.1 hn
    omega
  rw [rng_split f hk, List.length_append (bs := rngOf f (List.range' (k + 1) (15 - k))), scanI_join _ (Nat.le_refl _) hB]
  cases hf : f k with
  | none => simp only [Option.map_none, Option.toList_none, List.append_nil]; exact scanI_none _ hA
  | some v =>
    simp only [Option.map_some, Option.toList_some, List.length_append, List.length_cons, List.length_nil, Nat.zero_add]
    rw [scanI, List.getElem?_append_right (Nat.le_refl _)]
    simp
theorem rng_upd_len (f : Int → Option Int) {k : Nat} (hk : k < 16) (v : Int) (h : f k = none) : (rng (upd f k v)).length = (rng f).length + 1 := by
  have hA : rngOf (upd f k v) (List.range k) = rngOf f (List.range k) := rngOf_upd f k v fun n hn => by have := List.mem_range.1 hn; omega
  have hB : rngOf (upd f k v) (List.range' (k + 1) (15 - k)) = rngOf f (List.range' (k + 1) (15 - k)) := rngOf_upd f k v fun n hn => by rw [List.mem_range'_1] at hn; omega
  rw [rng_split (upd f k v) hk, rng_split f hk, hA, hB, h]
  simp [upd]
  omega

section
variable {l : List Ev} {e : Ev}
theorem snoc_at {j : Nat} (hj : j < l.length) : (l ++ [e])[j]? = l[j]? := List.getElem?_append_left hj
theorem ahead_snoc (kind key : Int) : ∀ i : Nat, i ≤ l.length → aheadN (l ++ [e]) kind key i = aheadN l kind key i
  | 0, _ => rfl
  | i + 1, h => by rw [aheadN, aheadN, snoc_at (by omega), ahead_snoc kind key i (by omega)]
theorem fW_snoc (k : Int) : ∀ i : Nat, i ≤ l.length → fW (l ++ [e]) i k = fW l i k
  | 0, _ => rfl
  | i + 1, h => by rw [fW, fW, snoc_at (by omega), fW_snoc k i (by omega)]
theorem fR_snoc (k : Int) : ∀ i : Nat, i ≤ l.length → fR (l ++ [e]) i k = fR l i k
  | 0, _ => rfl
  | i + 1, h => by rw [fR, fR, snoc_at (by omega), fR_snoc k i (by omega), fW_snoc k i (by omega)]
theorem val_snoc {i : Int} (h0 : 0 ≤ i) (hi : i < l.length) : valAt (l ++ [e]) i = valAt l i := by
  unfold valAt
  rw [snoc_at (by omega)]
theorem future_snoc (he : e.kind = 1) {i : Nat} (hi : i < l.length) (k v : Int) : future (l ++ [e]) i k v = future l i k v := by
  unfold future
  rw [List.drop_append_of_le_length (by omega), List.any_append]
  simp [he]
theorem wrong_snoc (he : e.kind = 1) {j : Nat} (hj : j < l.length) : wrongAt (l ++ [e]) j = wrongAt l j := by
  have hv : ∀ kind key : Int, 0 ≤ aheadN l kind key j → valAt (l ++ [e]) (aheadN l kind key j) = valAt l (aheadN l kind key j) := fun kind key h0 => by
    have := aheadN_lt l kind key j
    exact val_snoc h0 (by omega)
  unfold wrongAt
  rw [snoc_at hj]
  split
  · rename_i x hx
    unfold wrongE
    rw [ahead_snoc _ _ j (by omega), ahead_snoc _ _ j (by omega), future_snoc he hj]
    split
    · rfl
    · split
      · rfl
      · split
        · rename_i h0; rw [hv _ _ h0]
        · split
          · rename_i h0; rw [hv _ _ h0]
          · rfl
  · rfl

/-- What a look tells with one read more behind all. -/
theorem look_more (hall : ∀ j, j < l.length → wrongAt l j = 0) (hr : e.right = true) (he : e.kind = 1) :
    lookR (l ++ [e]) = match fW l l.length e.key with
      | some own => if own = e.val then lookR l else ⟨[], [], l.length, 10⟩
      | none => match fR l l.length e.key with
        | some old => if old = e.val then lookR l else ⟨[], [], l.length, 11⟩
        | none => ⟨rng (upd (fR l l.length) e.key e.val), rng (fW l l.length), 0, 0⟩ := by
  have hlen : (l ++ [e]).length = l.length + 1 := by simp
  have hi : l.length < (l ++ [e]).length := by omega
  have hat : (l ++ [e])[l.length]? = some e := by simp
  have hall2 : ∀ j, j < l.length → wrongAt (l ++ [e]) j = 0 := fun j hj => by rw [wrong_snoc he hj]; exact hall j hj
  have hW : fW (l ++ [e]) l.length = fW l l.length := funext fun k => fW_snoc k _ (Nat.le_refl _)
  have hR : fR (l ++ [e]) l.length = fR l l.length := funext fun k => fR_snoc k _ (Nat.le_refl _)
  have hfut : future (l ++ [e]) l.length e.key e.val = false := by
    unfold future
    rw [List.drop_eq_nil_of_le (by omega)]
    rfl
  have fin : wrongAt (l ++ [e]) l.length = 0 → ∀ j, j < (l ++ [e]).length → wrongAt (l ++ [e]) j = 0 := fun h0 j hj => by
    by_cases hjl : j = l.length
    · subst hjl; exact h0
    · exact hall2 j (by omega)
  split
  · rename_i own hown
    have hown2 : fW (l ++ [e]) l.length e.key = some own := by rw [hW]; exact hown
    split
    · rename_i hv
      obtain ⟨h0, h1, h2⟩ := step_mine hi hat hr he hown2 hv
      rw [lookR_right (fin h0), lookR_right hall, hlen, h1, h2, hR, hW]
    · rename_i hv
      exact lookR_wrong hi hall2 (step_own hi hat hr he hown2 hv) (by decide)
  · rename_i hw
    have hw2 : fW (l ++ [e]) l.length e.key = none := by rw [hW]; exact hw
    split
    · rename_i old hold
      have hold2 : fR (l ++ [e]) l.length e.key = some old := by rw [hR]; exact hold
      split
      · rename_i hv
        obtain ⟨h0, h1, h2⟩ := step_known hi hat hall2 hr he hw2 hold2 hv
        rw [lookR_right (fin h0), lookR_right hall, hlen, h1, h2, hR, hW]
      · rename_i hv
        exact lookR_wrong hi hall2 (step_other hi hat hall2 hr he hw2 hold2 hv) (by decide)
    · rename_i hr0
      have hr2 : fR (l ++ [e]) l.length e.key = none := by rw [hR]; exact hr0
      obtain ⟨h0, h1, h2⟩ := step_read hi hat hall2 hr he hw2 hr2 hfut
      rw [lookR_right (fin h0), hlen, h1, h2, hR, hW]
end

section
variable {l : List Ev} {e : Ev}
theorem cons_at (j : Nat) : (e :: l)[j + 1]? = l[j]? := by simp
theorem ahead2_cons (he : e.kind = 1) (key : Int) : ∀ i : Nat, i ≤ l.length → aheadN (e :: l) 2 key (i + 1) = if 0 ≤ aheadN l 2 key i then aheadN l 2 key i + 1 else -1
  | 0, _ => by simp [aheadN, he]
  | i + 1, h => by
    have hl : l[i]? = some (l[i]'(by omega)) := List.getElem?_eq_getElem (by omega)
    have ih := ahead2_cons he key i (by omega)
    by_cases hk : (l[i]'(by omega)).kind = 2 ∧ (l[i]'(by omega)).key = key
    · rw [aheadN_hit (by rw [cons_at]; exact hl) hk.1 hk.2, aheadN_hit hl hk.1 hk.2, if_pos (by omega)]
      omega
    · rw [aheadN_miss (by rw [cons_at]; exact hl) hk, aheadN_miss hl hk]
      exact ih
theorem ahead1_cons (he : e.kind = 1) (key : Int) : ∀ i : Nat, i ≤ l.length → aheadN (e :: l) 1 key (i + 1) = if 0 ≤ aheadN l 1 key i then aheadN l 1 key i + 1 else if e.key = key then 0 else -1
  | 0, _ => by simp [aheadN, he]
  | i + 1, h => by
    have hl : l[i]? = some (l[i]'(by omega)) := List.getElem?_eq_getElem (by omega)
    have ih := ahead1_cons he key i (by omega)
    by_cases hk : (l[i]'(by omega)).kind = 1 ∧ (l[i]'(by omega)).key = key
    · rw [aheadN_hit (by rw [cons_at]; exact hl) hk.1 hk.2, aheadN_hit hl hk.1 hk.2, if_pos (by omega)]
      omega
    · rw [aheadN_miss (by rw [cons_at]; exact hl) hk, aheadN_miss hl hk]
      exact ih
theorem val_cons {i : Int} (h0 : 0 ≤ i) : valAt (e :: l) (i + 1) = valAt l i := by
  unfold valAt
  rw [show (i + 1).toNat = i.toNat + 1 by omega, cons_at]
theorem future_cons (i : Nat) (k v : Int) : future (e :: l) (i + 1) k v = future l i k v := rfl
theorem wrong_cons (he : e.kind = 1) {j : Nat} (hj : j < l.length) : wrongAt (e :: l) (j + 1) =
    if l[j].right = true ∧ l[j].kind = 1 ∧ l[j].key = e.key ∧ aheadN l 2 e.key j < 0 ∧ aheadN l 1 e.key j < 0 then (if e.val = l[j].val then 0 else 11) else wrongAt l j := by
  have hl : l[j]? = some l[j] := List.getElem?_eq_getElem hj
  rw [wrongAt_eq (e := l[j]) (by rw [cons_at]; exact hl), wrongAt_eq hl]
  generalize l[j] = x at *
  unfold wrongE
  rw [ahead2_cons he _ j (by omega), ahead1_cons he _ j (by omega), future_cons]
  have b2 := aheadN_lt l 2 x.key j
  have b1 := aheadN_lt l 1 x.key j
  by_cases c1 : x.right = false ∨ (x.kind ≠ 1 ∧ x.kind ≠ 2)
  · rw [if_pos c1, if_pos c1, if_neg]
    rintro ⟨h1, h2, _⟩
    rcases c1 with c | c
    · rw [h1] at c; cases c
    · exact c.1 h2
  · rw [if_neg c1, if_neg c1]
    by_cases c2 : x.kind = 2
    · rw [if_pos c2, if_pos c2, if_neg (by rintro ⟨_, h2, _⟩; omega)]
    · rw [if_neg c2, if_neg c2]
      have hr : x.right = true := by
        cases hx : x.right with
        | true => rfl
        | false => exact absurd (.inl hx) c1
      have hk1 : x.kind = 1 := by
        rcases Int.decEq x.kind 1 with h | h
        · exact absurd (.inr ⟨h, c2⟩) c1
        · exact h
      by_cases c3 : 0 ≤ aheadN l 2 x.key j
      · rw [if_pos c3, if_pos (show (0 : Int) ≤ aheadN l 2 x.key j + 1 by omega), val_cons c3, if_pos c3, if_neg (show ¬ (x.right = true ∧ x.kind = 1 ∧ x.key = e.key ∧ aheadN l 2 e.key j < 0 ∧ aheadN l 1 e.key j < 0) from fun h => by rw [h.2.2.1] at c3; omega)]
      · rw [if_neg c3, if_neg (by omega), if_neg c3]
        by_cases c4 : 0 ≤ aheadN l 1 x.key j
        · rw [if_pos c4, if_pos (show (0 : Int) ≤ aheadN l 1 x.key j + 1 by omega), val_cons c4, if_pos c4, if_neg (show ¬ (x.right = true ∧ x.kind = 1 ∧ x.key = e.key ∧ aheadN l 2 e.key j < 0 ∧ aheadN l 1 e.key j < 0) from fun h => by rw [h.2.2.1] at c4; omega)]
        · rw [if_neg c4]
          by_cases c5 : e.key = x.key
          · have hv : valAt (e :: l) 0 = e.val := rfl
            rw [if_pos c5, if_pos (Int.le_refl 0), hv, if_pos (show x.right = true ∧ x.kind = 1 ∧ x.key = e.key ∧ aheadN l 2 e.key j < 0 ∧ aheadN l 1 e.key j < 0 from ⟨hr, hk1, c5.symm, by rw [c5]; omega, by rw [c5]; omega⟩)]
          · rw [if_neg c5, if_neg (show ¬ (0 : Int) ≤ -1 by omega), if_neg c4, if_neg (show ¬ (x.right = true ∧ x.kind = 1 ∧ x.key = e.key ∧ aheadN l 2 e.key j < 0 ∧ aheadN l 1 e.key j < 0) from fun h => c5 h.2.2.1.symm)]
end

theorem noAhead {l : List Ev} (k : Int) (hk : ∀ m (hm : m < l.length), l[m].kind = 1 ∨ l[m].kind = 2) : ∀ j : Nat, j ≤ l.length → ((aheadN l 2 k j < 0 ∧ aheadN l 1 k j < 0) ↔ ∀ m (hm : m < l.length), m < j → l[m].key ≠ k)
  | 0, _ => ⟨fun _ m hm h => absurd h (by omega), fun _ => by simp [aheadN]⟩
  | j + 1, hj => by
    have hjl : j < l.length := by omega
    have hl : l[j]? = some l[j] := List.getElem?_eq_getElem hjl
    have ih := noAhead k hk j (by omega)
    by_cases hkey : l[j].key = k
    · constructor
      · intro h
        rcases hk j hjl with h1 | h2
        · rw [aheadN_hit hl h1 hkey] at h; omega
        · rw [aheadN_hit (kind := 2) hl h2 hkey] at h; omega
      · intro h
        exact absurd hkey (h j hjl (by omega))
    · rw [aheadN_miss hl (fun e => hkey e.2), aheadN_miss hl (fun e => hkey e.2), ih]
      constructor
      · intro h m hm hmj
        by_cases hmj2 : m = j
        · subst hmj2; exact hkey
        · exact h m hm (by omega)
      · intro h m hm hmj
        exact h m hm (by omega)

section
variable {l : List Ev} {e : Ev}
theorem fW_cons (he : e.kind = 1) (k : Int) : ∀ i : Nat, i ≤ l.length → fW (e :: l) (i + 1) k = fW l i k
  | 0, _ => by simp [fW, he]
  | i + 1, h => by
    have hl : l[i]? = some (l[i]'(by omega)) := List.getElem?_eq_getElem (by omega)
    rw [fW_succ (by rw [cons_at]; exact hl), fW_succ hl, fW_cons he k i (by omega)]

/-- What a look tells with one read more ahead of all. -/
theorem look_front (hall : ∀ j, j < l.length → wrongAt l j = 0) (hr : e.right = true) (he : e.kind = 1) :
    (future (e :: l) 0 e.key e.val = true → lookR (e :: l) = ⟨[], [], 0, 9⟩) ∧
    (future (e :: l) 0 e.key e.val = false → 0 ≤ firstD l e.key 0 → kindAt l (firstD l e.key 0) = 1 → valAt l (firstD l e.key 0) ≠ e.val → lookR (e :: l) = ⟨[], [], firstD l e.key 0 + 1, 11⟩) ∧
    (future (e :: l) 0 e.key e.val = false → ¬ (0 ≤ firstD l e.key 0 ∧ kindAt l (firstD l e.key 0) = 1 ∧ valAt l (firstD l e.key 0) ≠ e.val) → ∃ rd, lookR (e :: l) = ⟨rng rd, rng (fW l l.length), 0, 0⟩) := by
  have hkinds : ∀ m (hm : m < l.length), l[m].kind = 1 ∨ l[m].kind = 2 := fun m hm => (wrong_parts hm (hall m hm)).2
  have hat : (e :: l)[0]? = some e := rfl
  have hlen : (e :: l).length = l.length + 1 := rfl
  have h0 : future (e :: l) 0 e.key e.val = false → wrongAt (e :: l) 0 = 0 := fun hf => (step_read (l := e :: l) (i := 0) (by simp) hat (fun j hj => absurd hj (by omega)) hr he rfl rfl hf).1
  have hfst : ∀ {j : Nat} (hj : j < l.length), l[j].key = e.key → (∀ m (hm : m < l.length), m < j → l[m].key ≠ e.key) → firstD l e.key 0 = j ∧ kindAt l (j : Int) = l[j].kind ∧ valAt l (j : Int) = l[j].val := fun {j} hj h1 h2 => by
    have hl : l[j]? = some l[j] := List.getElem?_eq_getElem hj
    exact ⟨by rw [firstD_to (by omega) h2, firstD_step hl, if_pos h1], by unfold kindAt; rw [Int.toNat_natCast, hl]; rfl, by unfold valAt; rw [Int.toNat_natCast, hl]; rfl⟩
  refine ⟨fun hf => ?_, fun hf g0 g1 g2 => ?_, fun hf hn => ?_⟩
  · exact lookR_wrong (l := e :: l) (k := 0) (by simp) (fun j hj => absurd hj (by omega)) (step_future (l := e :: l) (i := 0) (by simp) hat (fun j hj => absurd hj (by omega)) hr he rfl rfl hf) (by decide)
  · rcases first_spec l e.key l.length (Nat.le_refl _) with h | ⟨j, hj, _, h1, h2⟩
    · rw [firstD_to (Nat.le_refl _) h, firstD_end] at g0; omega
    · obtain ⟨a1, a2, a3⟩ := hfst hj h1 h2
      rw [a1] at g1 g2 ⊢
      rw [a2] at g1
      rw [a3] at g2
      have na := (noAhead e.key hkinds j (by omega)).2 h2
      have hw : wrongAt (e :: l) (j + 1) = 11 := by
        rw [wrong_cons he hj, if_pos ⟨(wrong_parts hj (hall j hj)).1, g1, h1, na.1, na.2⟩, if_neg (fun x => g2 x.symm)]
      have := lookR_wrong (l := e :: l) (k := j + 1) (by simp; omega) (fun i hi => ?_) hw (by decide)
      · rw [this]; simp
      · cases i with
        | zero => exact h0 hf
        | succ i =>
          have hil : i < l.length := by omega
          rw [wrong_cons he hil, if_neg (fun x => h2 i hil (by omega) x.2.2.1)]
          exact hall i hil
  · have hall2 : ∀ j, j < (e :: l).length → wrongAt (e :: l) j = 0 := fun j hj => by
      cases j with
      | zero => exact h0 hf
      | succ j =>
        have hjl : j < l.length := by simp at hj; omega
        rw [wrong_cons he hjl]
        split
        · rename_i hc
          obtain ⟨_, c1, c2, c3, c4⟩ := hc
          obtain ⟨a1, a2, a3⟩ := hfst hjl c2 ((noAhead e.key hkinds j (by omega)).1 ⟨c3, c4⟩)
          rw [a1, a2, a3] at hn
          by_cases hv : e.val = l[j].val
          · rw [if_pos hv]
          · exact absurd ⟨by omega, c1, fun x => hv x.symm⟩ hn
        · exact hall j hjl
    refine ⟨fR (e :: l) (l.length + 1), ?_⟩
    rw [lookR_right hall2, hlen]
    congr 2
    funext k
    exact fW_cons he k _ (Nat.le_refl _)
end
end Go.Proofs.Yteddcpblpkhoeaa
