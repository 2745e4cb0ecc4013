/-
  Plain laws of layer 2: lines, and words, as lists of bytes; no program in sight.
-/
import Derived.Lib.Split
import Derived.Lib.Strings
import Derived.Lib.IndexBytes
import Derived.Lib.SmallJoins
set_option linter.unusedVariables false
set_option linter.unusedSimpArgs false
namespace Go.Inq
open Go

/-- Bytes as a string. -/
def mk (l : List UInt8) : ByteArray := ⟨l.toArray⟩
theorem mk_bytes (l : List UInt8) : (mk l).data.toList = l := rfl
theorem mk_of (s : ByteArray) : mk s.data.toList = s := rfl
theorem bytes_inj {a b : ByteArray} (h : a.data.toList = b.data.toList) : a = b := by rw [← mk_of a, ← mk_of b, h]
theorem mk_size (l : List UInt8) : (mk l).size = l.length := Lib.size_eq (mk l)
theorem mk_extract (s : ByteArray) (a b : Nat) : s.extract a b = mk ((s.data.toList.drop a).take (b - a)) := bytes_inj (by rw [Lib.extract_data]; rfl)
theorem data_append' (a b : ByteArray) : (a ++ b).data.toList = a.data.toList ++ b.data.toList := by
  rw [ByteArray.data_append, Array.toList_append]
theorem mk_append (a b : List UInt8) : mk (a ++ b) = mk a ++ mk b := bytes_inj (by rw [data_append']; rfl)
theorem map_mk_bytes (l : List ByteArray) : (l.map (·.data.toList)).map mk = l := by
  rw [List.map_map]
  exact (List.map_congr_left (fun x _ => mk_of x)).trans (List.map_id l)

/-- One byte more: what is done, and what is under way. -/
def segStep (c : UInt8) (p : List (List UInt8) × List UInt8) (b : UInt8) : List (List UInt8) × List UInt8 := if b = c then (p.1 ++ [p.2], []) else (p.1, p.2 ++ [b])
theorem seg_hit (c : UInt8) (d : List (List UInt8)) (x : List UInt8) : segStep c (d, x) c = (d ++ [x], []) := by unfold segStep; rw [if_pos rfl]
theorem seg_miss {c b : UInt8} (h : b ≠ c) (d : List (List UInt8)) (x : List UInt8) : segStep c (d, x) b = (d, x ++ [b]) := by unfold segStep; rw [if_neg h]
/-- What ends with c, and what is left. -/
def segs (c : UInt8) (l : List UInt8) : List (List UInt8) × List UInt8 := l.foldl (segStep c) ([], [])
/-- What lies between the c's. -/
def cuts (c : UInt8) (l : List UInt8) : List (List UInt8) := (segs c l).1 ++ [(segs c l).2]

theorem segs_nil (c : UInt8) : segs c [] = ([], []) := rfl
theorem segs_snoc (c : UInt8) (l : List UInt8) (b : UInt8) : segs c (l ++ [b]) = segStep c (segs c l) b := by unfold segs; rw [List.foldl_append]; rfl
theorem segs_take {c : UInt8} {l : List UInt8} {i : Nat} (hi : i < l.length) : segs c (l.take (i + 1)) = segStep c (segs c (l.take i)) l[i] := by
  rw [List.take_succ_eq_append_getElem hi, segs_snoc]
theorem fold_from (c : UInt8) : ∀ (l : List UInt8) (d : List (List UInt8)) (x : List UInt8), l.foldl (segStep c) (d, x) = (d ++ (l.foldl (segStep c) ([], x)).1, (l.foldl (segStep c) ([], x)).2)
  | [], d, x => by simp
  | b :: r, d, x => by
    rw [List.foldl_cons, List.foldl_cons]
    by_cases h : b = c
    · subst h
      rw [seg_hit, seg_hit, fold_from b r (d ++ [x]) [], fold_from b r ([] ++ [x]) []]
      simp
    · rw [seg_miss h, seg_miss h, fold_from c r d (x ++ [b])]
theorem fold_len (c : UInt8) : ∀ (l : List UInt8) (d : List (List UInt8)) (x : List UInt8), (l.foldl (segStep c) (d, x)).1.length ≤ d.length + l.length
  | [], d, x => by simp
  | b :: r, d, x => by
    rw [List.foldl_cons]
    by_cases h : b = c
    · subst h
      rw [seg_hit]
      have := fold_len b r (d ++ [x]) []
      simp at this ⊢
      omega
    · rw [seg_miss h]
      have := fold_len c r d (x ++ [b])
      simp
      omega
theorem segs_len (c : UInt8) (l : List UInt8) : (segs c l).1.length ≤ l.length := by
  have := fold_len c l [] []
  unfold segs
  simpa using this
theorem drop_take_succ {l : List UInt8} {f i : Nat} (hf : f ≤ i) (hi : i < l.length) : (l.drop f).take (i + 1 - f) = (l.drop f).take (i - f) ++ [l[i]] := by
  rw [show i + 1 - f = (i - f) + 1 by omega, List.take_succ_eq_append_getElem (by simp; omega)]
  congr 2
  rw [List.getElem_drop]
  congr 1
  omega
theorem fold_miss (c : UInt8) : ∀ (l : List UInt8) (x : List UInt8), (∀ b ∈ l, b ≠ c) → l.foldl (segStep c) ([], x) = ([], x ++ l)
  | [], x, _ => by simp
  | b :: r, x, h => by
    rw [List.foldl_cons, seg_miss (h b (by simp)), fold_miss c r (x ++ [b]) (fun y hy => h y (by simp [hy]))]
    simp
theorem segs_miss {c : UInt8} {l : List UInt8} (h : ∀ b ∈ l, b ≠ c) : segs c l = ([], l) := by
  unfold segs
  rw [fold_miss c l [] h]
  simp
theorem segs_append (c : UInt8) (a b : List UInt8) : segs c (a ++ b) = ((segs c a).1 ++ (b.foldl (segStep c) ([], (segs c a).2)).1, (b.foldl (segStep c) ([], (segs c a).2)).2) := by
  have h := fold_from c b (segs c a).1 (segs c a).2
  have e : segs c (a ++ b) = b.foldl (segStep c) (segs c a) := by unfold segs; rw [List.foldl_append]
  rw [e]
  exact h
theorem segs_hit {c : UInt8} {a r : List UInt8} (h : ∀ b ∈ a, b ≠ c) : segs c (a ++ c :: r) = (a :: (segs c r).1, (segs c r).2) := by
  rw [segs_append, segs_miss h]
  dsimp only
  rw [List.nil_append, List.foldl_cons]
  have e : segStep c ([], a) c = ([a], []) := by unfold segStep; rw [if_pos rfl]; rfl
  rw [e, fold_from]
  rfl
theorem segs_closed {c : UInt8} {a b : List UInt8} (h : (segs c a).2 = []) : segs c (a ++ b) = ((segs c a).1 ++ (segs c b).1, (segs c b).2) := by
  rw [segs_append, h]
  rfl
theorem segs_end (c : UInt8) (l : List UInt8) : (segs c (l ++ [c])).2 = [] := by rw [segs_snoc]; unfold segStep; rw [if_pos rfl]
theorem segs_last {c : UInt8} {l : List UInt8} (h : l.getLast? = some c) : (segs c l).2 = [] := by
  rw [List.getLast?_eq_some_iff] at h
  obtain ⟨r, rfl⟩ := h
  exact segs_end c r
/-- What is cut is whole. -/
theorem segs_whole (c : UInt8) (l : List UInt8) : ((segs c l).1.map (· ++ [c])).flatten ++ (segs c l).2 = l := by
  have key : ∀ (n : Nat), n ≤ l.length → ((segs c (l.take n)).1.map (· ++ [c])).flatten ++ (segs c (l.take n)).2 = l.take n := by
    intro n
    induction n with
    | zero => intro _; rfl
    | succ n ih =>
      intro hn
      rw [segs_take (by omega), List.take_succ_eq_append_getElem (by omega)]
      rw [show l.take n ++ [l[n]] = ((segs c (l.take n)).1.map (· ++ [c])).flatten ++ (segs c (l.take n)).2 ++ [l[n]] by rw [ih (by omega)]]
      unfold segStep
      split
      · rename_i h
        simp [h]
      · simp
  have := key l.length (Nat.le_refl _)
  rwa [List.take_length] at this
theorem mem_flatten_len {α : Type} {w : List α} : ∀ {l : List (List α)}, w ∈ l → w.length ≤ l.flatten.length
  | x :: r, h => by
    rw [List.flatten_cons, List.length_append]
    rcases List.mem_cons.1 h with h | h
    · subst h; omega
    · have := mem_flatten_len h; omega
theorem cuts_len {c : UInt8} {l w : List UInt8} (h : w ∈ cuts c l) : w.length ≤ l.length := by
  have e := congrArg List.length (segs_whole c l)
  rw [List.length_append] at e
  unfold cuts at h
  rcases List.mem_append.1 h with h | h
  · have := mem_flatten_len (List.mem_map.2 ⟨w, h, rfl⟩ : w ++ [c] ∈ (segs c l).1.map (· ++ [c]))
    rw [List.length_append] at this
    omega
  · rw [List.mem_singleton] at h; subst h; omega
theorem segs_free (c : UInt8) (l : List UInt8) : (∀ w ∈ (segs c l).1, ∀ b ∈ w, b ≠ c) ∧ ∀ b ∈ (segs c l).2, b ≠ c := by
  have key : ∀ (n : Nat), n ≤ l.length → (∀ w ∈ (segs c (l.take n)).1, ∀ b ∈ w, b ≠ c) ∧ ∀ b ∈ (segs c (l.take n)).2, b ≠ c := by
    intro n
    induction n with
    | zero => intro _; exact ⟨fun w h => by simp [segs_nil] at h, fun b h => by simp [segs_nil] at h⟩
    | succ n ih =>
      intro hn
      obtain ⟨h1, h2⟩ := ih (by omega)
      rw [segs_take (by omega)]
      unfold segStep
      split
      · refine ⟨fun w hw => ?_, fun b hb => by simp at hb⟩
        rcases List.mem_append.1 hw with h | h
        · exact h1 w h
        · rw [List.mem_singleton] at h; subst h; exact h2
      · rename_i hne
        refine ⟨h1, fun b hb => ?_⟩
        rcases List.mem_append.1 hb with h | h
        · exact h2 b h
        · rw [List.mem_singleton] at h; subst h; exact hne
  have := key l.length (Nat.le_refl _)
  rwa [List.take_length] at this
/-- What is joined is cut as it was. -/
theorem segs_join {c : UInt8} : ∀ {ls : List (List UInt8)}, (∀ w ∈ ls, ∀ b ∈ w, b ≠ c) → segs c ((ls.map (· ++ [c])).flatten) = (ls, [])
  | [], _ => rfl
  | w :: r, h => by
    rw [List.map_cons, List.flatten_cons, List.append_assoc, List.singleton_append, segs_hit (h w (by simp)), segs_join (ls := r) (fun x hx => h x (by simp [hx]))]

/-- The library's cut at one byte. -/
theorem index_miss {c : UInt8} : ∀ {l : List UInt8}, Lib.index l [c] = -1 → ∀ b ∈ l, b ≠ c := by
  intro l h b hb e
  subst e
  rw [Lib.index_one] at h
  induction l with
  | nil => simp at hb
  | cons x r ih =>
    unfold Lib.indexByte at h
    split at h
    · cases h
    · rename_i hx
      have hr : Lib.indexByte r b = -1 := by
        split at h
        · rename_i h2; exact beq_iff_eq.1 h2
        · have := Lib.indexByte_ge r b; omega
      rcases List.mem_cons.1 hb with h1 | h1
      · subst h1; simp at hx
      · exact ih h1 hr
theorem index_at {c : UInt8} : ∀ {l : List UInt8} {i : Nat}, Lib.index l [c] = i → ∃ r, l = l.take i ++ c :: r ∧ r = l.drop (i + 1) ∧ ∀ b ∈ l.take i, b ≠ c := by
  intro l i h
  rw [Lib.index_one] at h
  induction l generalizing i with
  | nil => simp [Lib.indexByte] at h
  | cons x r ih =>
    unfold Lib.indexByte at h
    split at h
    · rename_i hx
      have hi : i = 0 := by omega
      subst hi
      refine ⟨r, by rw [beq_iff_eq.1 hx]; rfl, rfl, fun b hb => by simp at hb⟩
    · rename_i hx
      split at h
      · omega
      · have hi : ∃ j, i = j + 1 := ⟨i - 1, by have := Lib.indexByte_ge r c; rename_i h2; have h3 : ¬ Lib.indexByte r c = -1 := fun e => h2 (beq_iff_eq.2 e); omega⟩
        obtain ⟨j, rfl⟩ := hi
        obtain ⟨t, h1, h2, h3⟩ := ih (i := j) (by omega)
        refine ⟨t, by rw [List.take_succ_cons, List.cons_append, ← h1], by rw [List.drop_succ_cons]; exact h2, fun b hb => ?_⟩
        rw [List.take_succ_cons] at hb
        rcases List.mem_cons.1 hb with h4 | h4
        · subst h4; exact fun e => hx (beq_iff_eq.2 e)
        · exact h3 b h4
theorem split_one (c : UInt8) : ∀ (n : Nat) (l : List UInt8), l.length ≤ n → Lib.split l [c] = cuts c l
  | n, l, hn => by
    unfold Lib.split cuts
    rcases Lib.index_spec l [c] with ⟨h, _⟩ | ⟨i, h, hil, _⟩
    · rw [Lib.count_miss h, segs_miss (index_miss h)]
      rfl
    · obtain ⟨r, h1, h2, h3⟩ := index_at h
      rw [Lib.count_hit (by simp) h, Nat.add_comm 1, Lib.splitK, if_neg (by rw [h]; simp), h]
      have hlen : l.length = (l.take i).length + (r.length + 1) := by
        have := congrArg List.length h1
        simpa using this
      simp only [Int.toNat_natCast, Nat.add_zero, List.length_cons, List.length_nil, Nat.zero_add]
      rw [← h2]
      cases n with
      | zero => omega
      | succ n =>
        have ih := split_one c n r (by omega)
        unfold Lib.split cuts at ih
        rw [ih]
        conv => rhs; rw [h1]
        rw [segs_hit h3]
        rfl

theorem count_one (c : UInt8) : ∀ (n : Nat) (l : List UInt8), l.length ≤ n → Lib.count l [c] = (segs c l).1.length
  | n, l, hn => by
    rcases Lib.index_spec l [c] with ⟨h, _⟩ | ⟨i, h, hil, _⟩
    · rw [Lib.count_miss h, segs_miss (index_miss h)]
      rfl
    · obtain ⟨r, h1, h2, h3⟩ := index_at h
      have hlen : l.length = (l.take i).length + (r.length + 1) := by
        have := congrArg List.length h1
        simpa using this
      rw [Lib.count_hit (by simp) h]
      simp only [List.length_cons, List.length_nil, Nat.zero_add]
      rw [← h2]
      cases n with
      | zero => omega
      | succ n =>
        have ih := count_one c n r (by omega)
        rw [ih]
        conv => rhs; rw [h1]
        rw [segs_hit h3]
        simp
        omega
/-- The library's cut of a string at one byte: what it makes, and how many. -/
theorem splitB_one (c : UInt8) (s : ByteArray) : Lib.countB s ⟨#[c]⟩ = (segs c s.data.toList).1.length ∧ Lib.splitB ⟨#[c]⟩ 0 (Lib.countB s ⟨#[c]⟩) s = (cuts c s.data.toList).map mk := by
  refine ⟨count_one c _ _ (Nat.le_refl _), ?_⟩
  rw [← map_mk_bytes (Lib.splitB ⟨#[c]⟩ 0 (Lib.countB s ⟨#[c]⟩) s), Lib.splitB_data]
  have := split_one c _ s.data.toList (Nat.le_refl _)
  unfold Lib.split at this
  exact congrArg (List.map mk) this

theorem has_one (c : UInt8) (l : List UInt8) : Lib.contains l [c] = decide (c ∈ l) := by
  unfold Lib.contains
  rcases Lib.index_spec l [c] with ⟨h, _⟩ | ⟨i, h, hil, _⟩
  · have : ¬ c ∈ l := fun e => index_miss h c e rfl
    rw [h]
    simp [this]
  · obtain ⟨r, h1, _⟩ := index_at h
    have : c ∈ l := by rw [h1]; simp
    rw [h]
    simp [this]
theorem ends_one (c : UInt8) (l : List UInt8) : Lib.hasSuffix l [c] = decide (l.getLast? = some c) := by
  unfold Lib.hasSuffix
  rw [Bool.eq_iff_iff, decide_eq_true_iff, List.isSuffixOf_iff_suffix, List.getLast?_eq_some_iff]
  constructor
  · rintro ⟨t, h⟩; exact ⟨t, h.symm⟩
  · rintro ⟨t, h⟩; exact ⟨t, h.symm⟩

/-- A text's lines, or what is wrong. -/
def splitR (l : List UInt8) : List (List UInt8) × Int :=
  if l ≠ [] ∧ l.getLast? ≠ some 10 then ([], 2) else if 400 < (segs 10 l).1.length then ([], 4) else ((segs 10 l).1, 0)
/-- A text of lines, or what is wrong. -/
def joinR (ls : List (List UInt8)) : List UInt8 × Int :=
  if 400 < ls.length then ([], 4) else if ∃ w ∈ ls, 10 ∈ w then ([], 1) else ((ls.map (· ++ [10])).flatten, 0)
def signB (b : UInt8) : Bool := 33 ≤ b && b ≤ 126
def wordB (w : List UInt8) : Bool := !w.isEmpty && w.all signB
/-- A line's words, or what is wrong. -/
def wordsR (l : List UInt8) : List (List UInt8) × Int :=
  if (cuts 32 l).length ≤ 8 ∧ (cuts 32 l).all wordB = true then (cuts 32 l, 0) else ([], 2)

theorem splitR_len (l : List UInt8) : (splitR l).1.length ≤ 400 := by
  unfold splitR
  split
  · simp
  · split
    · simp
    · rename_i h; simpa using h
theorem wordsR_len (l : List UInt8) : (wordsR l).1.length ≤ 8 := by
  unfold wordsR
  split
  · rename_i h; exact h.1
  · simp
theorem split_join {ls : List (List UInt8)} (h : (joinR ls).2 = 0) : splitR (joinR ls).1 = (ls, 0) := by
  unfold joinR at h ⊢
  by_cases h1 : 400 < ls.length
  · rw [if_pos h1] at h; cases h
  · rw [if_neg h1] at h ⊢
    by_cases h2 : ∃ w ∈ ls, 10 ∈ w
    · rw [if_pos h2] at h; cases h
    · rw [if_neg h2]
      have hs := segs_join (c := 10) (ls := ls) (fun w hw b hb e => h2 ⟨w, hw, e ▸ hb⟩)
      have hl : ¬ ((ls.map (· ++ [(10 : UInt8)])).flatten ≠ [] ∧ (ls.map (· ++ [(10 : UInt8)])).flatten.getLast? ≠ some 10) := by
        rintro ⟨g1, g2⟩
        rcases List.eq_nil_or_concat ls with h3 | ⟨r, w, h3⟩
        · subst h3; exact g1 rfl
        · subst h3
          apply g2
          rw [List.concat_eq_append, List.map_append, List.flatten_append, List.getLast?_eq_some_iff]
          exact ⟨(r.map (· ++ [(10 : UInt8)])).flatten ++ w, by simp⟩
      dsimp only
      unfold splitR
      rw [if_neg hl, hs, if_neg h1]
theorem join_split {l : List UInt8} (h : (splitR l).2 = 0) : joinR (splitR l).1 = (l, 0) := by
  unfold splitR at h ⊢
  by_cases h1 : l ≠ [] ∧ l.getLast? ≠ some 10
  · rw [if_pos h1] at h; cases h
  · rw [if_neg h1] at h ⊢
    by_cases h2 : 400 < (segs 10 l).1.length
    · rw [if_pos h2] at h; cases h
    · rw [if_neg h2]
      have hw := segs_whole 10 l
      have hf := (segs_free 10 l).1
      have hn : (segs 10 l).2 = [] := by
        by_cases h3 : l = []
        · subst h3; rfl
        · exact segs_last (by
            rcases Decidable.em (l.getLast? = some 10) with h4 | h4
            · exact h4
            · exact absurd ⟨h3, h4⟩ h1)
      rw [hn, List.append_nil] at hw
      dsimp only
      unfold joinR
      rw [if_neg h2, if_neg (by rintro ⟨w, h4, h5⟩; exact hf w h4 10 h5 rfl), hw]
/-- Two texts of lines, one behind the other. -/
theorem split_both {a b : List UInt8} (ha : (splitR a).2 = 0) (hb : (splitR b).2 = 0) :
    splitR (a ++ b) = if 400 < (splitR a).1.length + (splitR b).1.length then ([], 4) else ((splitR a).1 ++ (splitR b).1, 0) := by
  have key : ∀ l : List UInt8, (splitR l).2 = 0 → ¬ (l ≠ [] ∧ l.getLast? ≠ some 10) ∧ (segs 10 l).2 = [] ∧ (splitR l).1 = (segs 10 l).1 := by
    intro l h
    unfold splitR at h ⊢
    by_cases h1 : l ≠ [] ∧ l.getLast? ≠ some 10
    · rw [if_pos h1] at h; cases h
    · rw [if_neg h1] at h ⊢
      by_cases h2 : 400 < (segs 10 l).1.length
      · rw [if_pos h2] at h; cases h
      · rw [if_neg h2]
        refine ⟨h1, ?_, rfl⟩
        by_cases h3 : l = []
        · subst h3; rfl
        · exact segs_last (by
            rcases Decidable.em (l.getLast? = some 10) with h4 | h4
            · exact h4
            · exact absurd ⟨h3, h4⟩ h1)
  obtain ⟨a1, a2, a3⟩ := key a ha
  obtain ⟨b1, b2, b3⟩ := key b hb
  have hab : ¬ (a ++ b ≠ [] ∧ (a ++ b).getLast? ≠ some 10) := by
    rintro ⟨g1, g2⟩
    by_cases h3 : b = []
    · subst h3
      rw [List.append_nil] at g1 g2
      exact a1 ⟨g1, g2⟩
    · rw [List.getLast?_append] at g2
      cases hb : b.getLast? with
      | none => exact h3 (by simpa using hb)
      | some x => rw [hb] at g2; exact b1 ⟨h3, by rw [hb]; exact g2⟩
  unfold splitR at a3 b3 ⊢
  rw [a3, b3, if_neg hab, segs_closed a2, List.length_append]

theorem cuts_whole (c : UInt8) (l : List UInt8) : ((segs c l).1.map (· ++ [c])).flatten ++ (segs c l).2 = l := segs_whole c l

section
variable {l : List UInt8}
theorem words_bad {w : List UInt8} (h : w ∈ cuts 32 l) (hb : wordB w = false) : wordsR l = ([], 2) := by
  unfold wordsR
  rw [if_neg]
  rintro ⟨_, h2⟩
  rw [List.all_eq_true] at h2
  rw [h2 w h] at hb
  cases hb
/-- What is done stays; what is under way begins a word. -/
theorem fold_grow (c : UInt8) : ∀ (r : List UInt8) (x : List UInt8), ∃ t rest, (r.foldl (segStep c) ([], x)).1 ++ [(r.foldl (segStep c) ([], x)).2] = (x ++ t) :: rest
  | [], x => ⟨[], [], by simp⟩
  | b :: r, x => by
    rw [List.foldl_cons]
    by_cases h : b = c
    · subst h
      rw [seg_hit, List.nil_append, fold_from b r [x] []]
      exact ⟨[], _, by rw [List.append_nil]; rfl⟩
    · rw [seg_miss h]
      obtain ⟨t, rest, h2⟩ := fold_grow c r (x ++ [b])
      exact ⟨b :: t, rest, by rw [h2]; simp⟩
theorem cuts_from {i : Nat} (hi : i ≤ l.length) : ∃ t rest, cuts 32 l = (segs 32 (l.take i)).1 ++ ((segs 32 (l.take i)).2 ++ t) :: rest := by
  have e : l = l.take i ++ l.drop i := (List.take_append_drop i l).symm
  obtain ⟨t, rest, h⟩ := fold_grow 32 (l.drop i) (segs 32 (l.take i)).2
  refine ⟨t, rest, ?_⟩
  unfold cuts
  rw [← h]
  conv => lhs; rw [e]
  rw [segs_append]
  simp
theorem bad_done {i : Nat} (hi : i ≤ l.length) {w : List UInt8} (h : w ∈ (segs 32 (l.take i)).1) (hb : wordB w = false) : wordsR l = ([], 2) := by
  obtain ⟨t, rest, e⟩ := cuts_from (l := l) hi
  exact words_bad (w := w) (by rw [e]; exact List.mem_append.2 (.inl h)) hb
theorem bad_now {i : Nat} (hi : i ≤ l.length) {b : UInt8} (h : b ∈ (segs 32 (l.take i)).2) (hb : signB b = false) : wordsR l = ([], 2) := by
  obtain ⟨t, rest, e⟩ := cuts_from (l := l) hi
  refine words_bad (w := (segs 32 (l.take i)).2 ++ t) (by rw [e]; simp) ?_
  unfold wordB
  have : ((segs 32 (l.take i)).2 ++ t).all signB = false := by
    rw [List.all_eq_false]
    exact ⟨b, by simp [h], by simp [hb]⟩
  rw [this, Bool.and_false]

theorem segs_to {D : List (List UInt8)} {a t : Nat} (h : segs 32 (l.take a) = (D, [])) (ha : a ≤ t) (ht : t ≤ l.length) (hs : ∀ k (hk : k < l.length), a ≤ k → k < t → l[k] ≠ 32) : segs 32 (l.take t) = (D, (l.drop a).take (t - a)) := by
  have e : l.take t = l.take a ++ (l.drop a).take (t - a) := by
    conv => lhs; rw [show t = a + (t - a) by omega, List.take_add]
  rw [e, segs_closed (by rw [h]), h, segs_miss]
  · simp
  · intro b hb
    obtain ⟨k, hk, rfl⟩ := List.getElem_of_mem hb
    rw [List.getElem_take, List.getElem_drop]
    rw [List.length_take, List.length_drop] at hk
    exact hs _ (by omega) (by omega) (by omega)
theorem sign_ne {b : UInt8} (h : signB b = true) : b ≠ 32 := by
  intro e; subst e; revert h; decide
/-- A word of signs. -/
theorem word_of {a t : Nat} (ha : a < t) (ht : t ≤ l.length) (hs : ∀ k (hk : k < l.length), a ≤ k → k < t → signB l[k] = true) : wordB ((l.drop a).take (t - a)) = true := by
  unfold wordB
  rw [Bool.and_eq_true]
  constructor
  · cases hq : (l.drop a).take (t - a) with
    | nil => have := congrArg List.length hq; simp at this; omega
    | cons => rfl
  · rw [List.all_eq_true]
    intro b hb
    obtain ⟨k, hk, rfl⟩ := List.getElem_of_mem hb
    rw [List.getElem_take, List.getElem_drop]
    rw [List.length_take, List.length_drop] at hk
    exact hs _ (by omega) (by omega) (by omega)
/-- The ways of a walk over words. -/
theorem words_here {D : List (List UInt8)} {a : Nat} (h : segs 32 (l.take a) = (D, [])) (ha : a ≤ l.length) (hb : a = l.length ∨ ∃ hk : a < l.length, signB l[a] = false) : wordsR l = ([], 2) := by
  rcases hb with rfl | ⟨hk, hb⟩
  · rw [List.take_length] at h
    refine words_bad (w := []) ?_ rfl
    unfold cuts
    rw [h]
    simp
  · have e := segs_take (c := 32) hk
    rw [h] at e
    by_cases h32 : l[a] = 32
    · rw [h32, seg_hit] at e
      exact bad_done (i := a + 1) (by omega) (w := []) (by rw [e]; simp) rfl
    · rw [seg_miss h32] at e
      exact bad_now (i := a + 1) (by omega) (b := l[a]) (by rw [e]; simp) hb
theorem words_not {D : List (List UInt8)} {a t : Nat} (h : segs 32 (l.take a) = (D, [])) (ha : a ≤ t) (hs : ∀ k (hk : k < l.length), a ≤ k → k < t → signB l[k] = true) (hk : t < l.length) (hb : signB l[t] = false) (h32 : l[t] ≠ 32) : wordsR l = ([], 2) := by
  have e := segs_to h ha (by omega) (fun k hk h1 h2 => sign_ne (hs k hk h1 h2))
  have e2 := segs_take (c := 32) hk
  rw [e, seg_miss h32] at e2
  exact bad_now (i := t + 1) (by omega) (b := l[t]) (by rw [e2]; simp) hb
theorem words_next {D : List (List UInt8)} {a t : Nat} (h : segs 32 (l.take a) = (D, [])) (ha : a ≤ t) (hs : ∀ k (hk : k < l.length), a ≤ k → k < t → signB l[k] = true) (hk : t < l.length) (h32 : l[t] = 32) : segs 32 (l.take (t + 1)) = (D ++ [(l.drop a).take (t - a)], []) := by
  have e := segs_to h ha (by omega) (fun k hk h1 h2 => sign_ne (hs k hk h1 h2))
  rw [segs_take hk, e, h32, seg_hit]
theorem words_end {D : List (List UInt8)} {a : Nat} (h : segs 32 (l.take a) = (D, [])) (ha : a < l.length) (hs : ∀ k (hk : k < l.length), a ≤ k → signB l[k] = true) (hD : ∀ w ∈ D, wordB w = true) :
    wordsR l = if 8 < D.length + 1 then ([], 2) else (D ++ [(l.drop a).take (l.length - a)], 0) := by
  have e := segs_to h (Nat.le_of_lt ha) (Nat.le_refl _) (fun k hk h1 _ => sign_ne (hs k hk h1))
  rw [List.take_length] at e
  have hc : cuts 32 l = D ++ [(l.drop a).take (l.length - a)] := by unfold cuts; rw [e]
  have hg : (cuts 32 l).all wordB = true := by
    rw [hc, List.all_eq_true]
    intro w hw
    rcases List.mem_append.1 hw with h1 | h1
    · exact hD w h1
    · rw [List.mem_singleton] at h1; subst h1
      exact word_of ha (Nat.le_refl _) (fun k hk h1 _ => hs k hk h1)
  unfold wordsR
  rw [hc] at hg ⊢
  rw [List.length_append, List.length_singleton]
  split
  · rename_i h8; rw [if_neg (by omega)]
  · rename_i h8; rw [if_pos]
    have : ¬ D.length + 1 ≤ 8 := fun h => h8 ⟨h, hg⟩
    omega
end
end Go.Inq
