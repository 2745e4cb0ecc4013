/-
  Layer 7: the program's rows of faces, its map of last values, and whose a read is: plain laws.
-/
import Derived.Test.YtapkbinlhmddiaaSrc7B
set_option linter.unusedVariables false
set_option linter.unusedSimpArgs false
namespace Go.Proofs.Ytapkbinlhmddiaa
open Go.RowKit Go.Inq

/-- What is looked at of a transaction: reads, writes; nothing of one that was given up. -/
def faceAt (l : List Tx) (j : Nat) : List It × List It := match l[j]? with
  | some t => if t.done = true then ((lookR t.ops).reads, (lookR t.ops).writes) else ([], [])
  | none => ([], [])
def faceTo (l : List Tx) (i j : Nat) : List It × List It := if j < i then faceAt l j else ([], [])
theorem faceAt_at {l : List Tx} {j : Nat} (hj : j < l.length) : faceAt l j = if l[j].done = true then ((lookR l[j].ops).reads, (lookR l[j].ops).writes) else ([], []) := by
  unfold faceAt
  rw [List.getElem?_eq_getElem hj]
theorem faceTo_next (l : List Tx) (i j : Nat) : faceTo l (i + 1) j = if j = i then faceAt l i else faceTo l i j := by
  unfold faceTo
  by_cases h : j = i
  · subst h
    rw [if_pos (by omega), if_pos rfl]
  · rw [if_neg h]
    by_cases h2 : j < i
    · rw [if_pos (by omega), if_pos h2]
    · rw [if_neg (by omega), if_neg h2]
theorem faceTo_all {l : List Tx} {j : Nat} (hj : j < l.length) : faceTo l l.length j = faceAt l j := by
  unfold faceTo; rw [if_pos hj]

/-- A block of n faces. -/
def Faces (w : World) (g n : Nat) (t : TypeId) (K : Nat → Prop) (F : Nat → List It × List It) : Prop :=
  ∃ cs : Array Value, Blk w g t cs ∧ cs.size = n * 2 ∧ ∀ j, j < n → ∃ Ar cr Aw cw, cs[j * 2]? = some (.slice Ar (F j).1.length cr) ∧ cs[j * 2 + 1]? = some (.slice Aw (F j).2.length cw) ∧
    ItS w K (.slice Ar (F j).1.length cr) (F j).1 ∧ ItS w K (.slice Aw (F j).2.length cw) (F j).2
section
variable {w w' : World} {g n : Nat} {t : TypeId} {K K' : Nat → Prop} {F F' : Nat → List It × List It}
theorem Faces.lt (h : Faces w g n t K F) : g < w.heap.size := by
  obtain ⟨cs, hb, _⟩ := h
  exact hb.lt
theorem Faces.frozen (h : Faces w g n t K F) (i : Nat) : w.frozen? ⟨g, i, none⟩ = false := by
  obtain ⟨cs, hb, _⟩ := h
  exact hb.frozen i
theorem Faces.at_ (h : Faces w g n t K F) {j : Nat} (hj : j < n) : ∃ Ar cr Aw cw, w.cell? ⟨g, j * 2, none⟩ = some (.slice Ar (F j).1.length cr) ∧ w.cell? ⟨g, j * 2 + 1, none⟩ = some (.slice Aw (F j).2.length cw) ∧
    ItS w K (.slice Ar (F j).1.length cr) (F j).1 ∧ ItS w K (.slice Aw (F j).2.length cw) (F j).2 := by
  obtain ⟨cs, hb, hn, hc⟩ := h
  obtain ⟨Ar, cr, Aw, cw, h1, h2, h3, h4⟩ := hc j hj
  exact ⟨Ar, cr, Aw, cw, (hb.cell _).trans h1, (hb.cell _).trans h2, h3, h4⟩
theorem Faces.keep (h : Faces w g n t K F) (ha : Agree K w w') (hg : w'.heap[g]? = w.heap[g]?) (hk : ∀ b, K b → K' b) : Faces w' g n t K' F := by
  obtain ⟨cs, hb, hn, hc⟩ := h
  refine ⟨cs, hg.trans hb, hn, fun j hj => ?_⟩
  obtain ⟨Ar, cr, Aw, cw, h1, h2, h3, h4⟩ := hc j hj
  exact ⟨Ar, cr, Aw, cw, h1, h2, ItS.keep h3 ha hk, ItS.keep h4 ha hk⟩
theorem Faces.same (h : Faces w g n t K F) (hF : ∀ j, j < n → F j = F' j) : Faces w g n t K F' := by
  obtain ⟨cs, hb, hn, hc⟩ := h
  refine ⟨cs, hb, hn, fun j hj => ?_⟩
  rw [← hF j hj]
  exact hc j hj
theorem Faces.set_ (h : Faces w g n t K F) {i : Nat} (hi : i < n) (hg : ¬ K g) {Ar Aw : Option Addr} {cr cw : Nat} {rs ws : List It} (hr : ItS w K (.slice Ar rs.length cr) rs) (hw : ItS w K (.slice Aw ws.length cw) ws) :
    Faces ((w.setCell ⟨g, i * 2, none⟩ (.slice Ar rs.length cr)).setCell ⟨g, i * 2 + 1, none⟩ (.slice Aw ws.length cw)) g n t K (fun j => if j = i then (rs, ws) else F j) := by
  obtain ⟨cs, hb, hn, hc⟩ := h
  have ha : Agree K w ((w.setCell ⟨g, i * 2, none⟩ (.slice Ar rs.length cr)).setCell ⟨g, i * 2 + 1, none⟩ (.slice Aw ws.length cw)) := (Agree.setCell ⟨g, i * 2, none⟩ hg _).trans (Agree.setCell ⟨g, i * 2 + 1, none⟩ hg _)
  refine ⟨_, (hb.set_ (i * 2) _).set_ (i * 2 + 1) _, by simp [hn], fun j hj => ?_⟩
  by_cases hji : j = i
  · subst hji
    dsimp only
    rw [if_pos rfl]
    refine ⟨Ar, cr, Aw, cw, ?_, ?_, ItS.keep hr ha (fun _ h => h), ItS.keep hw ha (fun _ h => h)⟩
    · rw [Array.getElem?_setIfInBounds_ne (by omega), Array.getElem?_setIfInBounds_self_of_lt (by omega)]
    · rw [Array.getElem?_setIfInBounds_self_of_lt (by rw [Array.size_setIfInBounds]; omega)]
  · obtain ⟨Ar', cr', Aw', cw', h1, h2, h3, h4⟩ := hc j hj
    dsimp only
    rw [if_neg hji]
    refine ⟨Ar', cr', Aw', cw', ?_, ?_, ItS.keep h3 ha (fun _ h => h), ItS.keep h4 ha (fun _ h => h)⟩
    · rw [Array.getElem?_setIfInBounds_ne (by omega), Array.getElem?_setIfInBounds_ne (by omega)]
      exact h1
    · rw [Array.getElem?_setIfInBounds_ne (by omega), Array.getElem?_setIfInBounds_ne (by omega)]
      exact h2
theorem Faces.new (w : World) (n : Nat) (t : TypeId) (K : Nat → Prop) : Faces (w.alloc (.cells (madeCells (#[.slice none 0 0, .slice none 0 0] : Array Value) (n * 2)) t)) w.heap.size n t K (fun _ => ([], [])) := by
  refine ⟨_, Blk.new w t _, by simp [madeCells], fun j hj => ⟨none, 0, none, 0, ?_, ?_, SlR.nil _ _ _ _ _ _, SlR.nil _ _ _ _ _ _⟩⟩
  · have h1 : j * 2 < n * 2 := by omega
    simp [madeCells, h1]
  · have h1 : j * 2 + 1 < n * 2 := by omega
    have h2 : (j * 2 + 1) % 2 = 1 := by omega
    simp [madeCells, h1, h2]
end

/-- Some face of the first, or some of the first writes of the next, has it. -/
def lastW (l : List Tx) (i m : Nat) (x : It) : Bool := (List.range i).any (fun j => (faceAt l j).2.contains x) || ((faceAt l i).2.take m).contains x
def lastO (l : List Tx) (i m : Nat) (x : It) : Option Bool := if lastW l i m x = true then some true else none
theorem last_zero (l : List Tx) (x : It) : lastO l 0 0 x = none := by
  unfold lastO lastW
  simp
theorem last_round (l : List Tx) (i : Nat) (x : It) : lastO l (i + 1) 0 x = lastO l i (faceAt l i).2.length x := by
  unfold lastO lastW
  rw [List.range_succ, List.any_append, List.take_length, List.take_zero]
  simp
theorem last_next {l : List Tx} {i m : Nat} (hm : m < (faceAt l i).2.length) (x : It) : lastO l i (m + 1) x = if x = (faceAt l i).2[m] then some true else lastO l i m x := by
  unfold lastO lastW
  rw [List.take_succ_eq_append_getElem hm]
  generalize (List.range i).any (fun j => (faceAt l j).2.contains x) = u
  generalize (faceAt l i).2[m] = y
  generalize (faceAt l i).2.take m = r
  by_cases hx : x = y
  · subst hx
    simp
  · rw [if_neg hx]
    simp [hx]
theorem last_all (l : List Tx) (x : It) : lastO l l.length 0 x = if lastB l x = true then some true else none := by
  unfold lastO
  have : lastW l l.length 0 x = lastB l x := by
    unfold lastW lastB
    rw [List.take_zero]
    rw [Bool.eq_iff_iff]
    simp only [Bool.or_eq_true, List.any_eq_true, List.mem_range, List.contains_nil, Bool.false_eq_true, or_false, Bool.and_eq_true]
    constructor
    · rintro ⟨j, hj, hc⟩
      rw [faceAt_at hj] at hc
      by_cases hd : l[j].done = true
      · rw [if_pos hd] at hc
        exact ⟨l[j], List.getElem_mem hj, hd, hc⟩
      · rw [if_neg hd] at hc
        simp at hc
    · rintro ⟨t, ht, hd, hc⟩
      obtain ⟨j, hj, rfl⟩ := List.getElem_of_mem ht
      refine ⟨j, hj, ?_⟩
      rw [faceAt_at hj, if_pos hd]
      exact hc
  rw [this]
theorem last_val (l : List Tx) (x : It) : valOr encB (.bool false) (lastO l l.length 0 x) = .bool (lastB l x) := by
  rw [last_all]
  cases lastB l x <;> rfl

theorem from_zero {l : List Tx} {x : It} (h : x.b = 0) : fromR l x = (-1, 0) := by
  unfold fromR; rw [if_pos h]
theorem by_ways (l : List Tx) (x : It) : (whoR l x = none ∧ byF l l.length x = none) ∨ ∃ k, ∃ hk : k < l.length, whoR l x = some k ∧ byF l l.length x = some (writerOf l k l[k]) := by
  cases hw : whoR l x with
  | none => exact .inl ⟨rfl, byF_none hw⟩
  | some k =>
    obtain ⟨t, ht, _⟩ := who_some hw
    have hk : k < l.length := by
      rcases Nat.lt_or_ge k l.length with h | h
      · exact h
      · rw [List.getElem?_eq_none h] at ht; cases ht
    exact .inr ⟨k, hk, rfl, byF_hit hk hw⟩
theorem from_thin {l : List Tx} {x : It} (h : x.b ≠ 0) (hb : byF l l.length x = none) : fromR l x = (0, 12) := by
  rcases by_ways l x with ⟨h1, _⟩ | ⟨k, hk, _, h2⟩
  · unfold fromR; rw [if_neg h, h1]
  · rw [hb] at h2; cases h2
theorem from_gone {l : List Tx} {x : It} {p q : Int} (h : x.b ≠ 0) (hb : byF l l.length x = some (p, q)) (hq : q < 0) : fromR l x = (0, 13) := by
  rcases by_ways l x with ⟨_, h2⟩ | ⟨k, hk, h1, h2⟩
  · rw [hb] at h2; cases h2
  · rw [hb] at h2
    injection h2 with h2
    unfold writerOf at h2
    injection h2 with h3 h4
    unfold fromR
    rw [if_neg h, h1]
    dsimp only
    rw [List.getElem?_eq_getElem hk]
    dsimp only
    by_cases hd : l[k].done = true
    · rw [if_pos hd] at h4; omega
    · rw [if_pos (by simpa using hd)]
theorem from_kept {l : List Tx} {x : It} {p q : Int} (h2 : ∀ i, i < l.length → unlikeR l i = 0) (h3 : ∀ i, i < l.length → lookAt l i = 0) (h : x.b ≠ 0) (hb : byF l l.length x = some (p, q)) (hq : ¬ q < 0) :
    fromR l x = if lastB l x = false then (0, 14) else (q, 0) := by
  rcases by_ways l x with ⟨_, h5⟩ | ⟨k, hk, h1, h5⟩
  · rw [hb] at h5; cases h5
  · rw [hb] at h5
    injection h5 with h5
    unfold writerOf at h5
    injection h5 with h6 h4
    have hk2 := List.getElem?_eq_getElem hk
    unfold fromR
    rw [if_neg h, h1]
    dsimp only
    rw [hk2]
    dsimp only
    by_cases hd : l[k].done = true
    · rw [if_pos hd] at h4
      rw [if_neg (by simp [hd])]
      obtain ⟨t, ht, hp⟩ := who_some h1
      rw [hk2] at ht
      injection ht with ht
      subst ht
      rw [last_middle h2 h3 hk2 hd hp]
      cases middleB (lookR l[k].ops).writes x with
      | true => rfl
      | false => simp [h4]
    · rw [if_neg hd] at h4; omega
end Go.Proofs.Ytapkbinlhmddiaa
