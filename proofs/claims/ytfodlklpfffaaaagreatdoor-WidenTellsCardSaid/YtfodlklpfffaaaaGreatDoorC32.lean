/-
  Two variables of four cells, set; no program in sight.
-/
import Derived.Deep.DeepCutAuto
import Derived.Test.YtfodlklpfffaaaaGreatDoorC27
import Derived.Test.YtfodlklpfffaaaaGreatDoorC31
import Derived.Test.YtfodlklpfffaaaaGreatDoorC26
set_option linter.unusedVariables false
set_option linter.unusedSimpArgs false
namespace Go.Inq
open Go Go.RowKit

def set4 (X : World) (p : Nat) (a b c d : Value) : World := (((X.setCell ⟨p, 0, none⟩ a).setCell ⟨p, 1, none⟩ b).setCell ⟨p, 2, none⟩ c).setCell ⟨p, 3, none⟩ d
section
variable {X : World} {p q : Nat} {t t' : TypeId} {a b c d x y z u : Value} {cs : Array Value}
theorem set4_blk (h : Blk X p t #[x, y, z, u]) : Blk (set4 X p a b c d) p t #[a, b, c, d] := by
  have := (((h.set_ 0 a).set_ 1 b).set_ 2 c).set_ 3 d
  unfold set4
  simpa using this
theorem set4_far (h : Blk X q t' cs) (hn : q ≠ p) : Blk (set4 X p a b c d) q t' cs := (((h.far (p := ⟨p, 0, none⟩) hn a).far (p := ⟨p, 1, none⟩) hn b).far (p := ⟨p, 2, none⟩) hn c).far (p := ⟨p, 3, none⟩) hn d
theorem set4_size : (set4 X p a b c d).heap.size = X.heap.size := by unfold set4; simp
theorem set4_agree {K : Nat → Prop} (hK : ¬ K p) : Agree K X (set4 X p a b c d) := (((Agree.setCell ⟨p, 0, none⟩ hK a).trans (Agree.setCell ⟨p, 1, none⟩ hK b)).trans (Agree.setCell ⟨p, 2, none⟩ hK c)).trans (Agree.setCell ⟨p, 3, none⟩ hK d)
theorem set4_below {B : Nat} {w : World} (h : Below B w X) (hp : B ≤ p) : Below B w (set4 X p a b c d) := (((h.setCell (p := ⟨p, 0, none⟩) hp a).setCell (p := ⟨p, 1, none⟩) hp b).setCell (p := ⟨p, 2, none⟩) hp c).setCell (p := ⟨p, 3, none⟩) hp d
end
end Go.Inq

namespace Go.Proofs.YtfodlklpfffaaaaGreatDoor
open Go.RowKit Go.Inq
set_option maxHeartbeats 4000000
attribute [local go_sem ↓] Go.wp_at_zero Go.wp_at_succ

/-- Operations of 'longer := append(slices.Clone(s.Path), s.Left[last][0])'. -/
def Lng30 (s1 gP gL gj m n rl : Nat) (path : List Int) (t : Int) (base : Nat) : Nat → (Nat → Value) → World → Prop
  | 0, vs, _ => vs 0 = .pointer (some ⟨s1, 2, none⟩)
  | 1, vs, _ => vs 1 = .slice (some ⟨gP, 0, none⟩) path.length path.length
  | 2, vs, W => OwnI W base (vs 2) path
  | 3, vs, _ => vs 3 = .pointer (some ⟨s1, 3, none⟩)
  | 4, vs, _ => vs 4 = .slice (some ⟨gL, 0, none⟩) n n
  | 5, vs, _ => vs 5 = .int .i64 (m : Int)
  | 6, vs, _ => vs 6 = .pointer (some ⟨gL, m, none⟩)
  | 7, vs, _ => vs 7 = .slice (some ⟨gj, 0, none⟩) rl rl
  | 8, vs, _ => vs 8 = .pointer (some ⟨gj, 0, none⟩)
  | 9, vs, _ => vs 9 = .int .i64 t
  | 10, vs, W => ∃ g, base ≤ g ∧ vs 10 = .slice (some ⟨g, 0, none⟩) 1 1 ∧ Blk W g 3 #[.int .i64 t]
  | 11, vs, W => OwnI W base (vs 11) (path ++ [t])
  | 12, vs, _ => vs 12 = vs 11
  | _, _, _ => True
def lng30D : Nat → List Nat
  | 1 => [0]
  | 2 => [1]
  | 4 => [3]
  | 6 => [4, 5]
  | 7 => [6]
  | 8 => [7]
  | 9 => [8]
  | 10 => [9]
  | 11 => [2, 10]
  | 12 => [11]
  | _ => []
def lng30K : Nat → List Nat
  | 11 => [2, 10]
  | _ => []
def Lng30St (base : Nat) (i : Nat) (W W' : World) : Prop := if i = 11 then Below base W W' else Below W.heap.size W W'
theorem lng30_end : ∀ i, 13 ≤ i → lng30D i = [] := by
  intro i hi
  match i, hi with
  | n + 13, _ => rfl
section
variable {s1 gP gL gj m n rl : Nat} {path : List Int} {t : Int} {base : Nat}
theorem lng30_cg : ∀ j (vs vs' : Nat → Value) w, (∀ k, k = j ∨ k ∈ lng30D j → vs k = vs' k) → Lng30 s1 gP gL gj m n rl path t base j vs w → Lng30 s1 gP gL gj m n rl path t base j vs' w := by
  intro j vs vs' w hk h
  match j, h with
  | 0, h | 1, h | 2, h | 3, h | 4, h | 5, h | 6, h | 7, h | 8, h | 9, h | 10, h | 11, h =>
    simp only [Lng30] at h ⊢
    rw [← hk _ (.inl rfl)]
    exact h
  | 12, h =>
    simp only [Lng30] at h ⊢
    rw [← hk 12 (.inl rfl), ← hk 11 (.inr (by simp [lng30D]))]
    exact h
  | n + 13, _ => trivial
theorem lng30_keep : ∀ i j (vs : Nat → Value) w w', j ≠ i → j ∉ lng30K i → Lng30 s1 gP gL gj m n rl path t base j vs w → Lng30St base i w w' → Lng30 s1 gP gL gj m n rl path t base j vs w' := by
  intro i j vs w w' hne hkl h hs
  unfold Lng30St at hs
  by_cases hi : i = 11
  · subst hi
    rw [if_pos rfl] at hs
    match j, h with
    | 0, h | 1, h | 3, h | 4, h | 5, h | 6, h | 7, h | 8, h | 9, h | 12, h => exact h
    | 2, h | 10, h => exact absurd (by simp [lng30K]) hkl
    | 11, h => exact absurd rfl hne
    | n + 13, _ => trivial
  · rw [if_neg hi] at hs
    match j, h with
    | 0, h | 1, h | 3, h | 4, h | 5, h | 6, h | 7, h | 8, h | 9, h | 12, h => exact h
    | 2, h | 11, h =>
      simp only [Lng30] at h ⊢
      exact own_below h hs (Nat.le_refl _)
    | 10, h =>
      simp only [Lng30] at h ⊢
      obtain ⟨g, h1, h2, h3⟩ := h
      exact ⟨g, h1, h2, h3.below hs h3.lt⟩
    | n + 13, _ => trivial
end
/-- Operations of 'g, _ := choice.Full(h, level, decided(h, longer))'. -/
def Ful30 (H : List Txn) (A : Option Addr) (c : Nat) (level : Int) (vl : Value) (L : List Cho) (E : Edges) (base : Nat) : Nat → (Nat → Value) → World → Prop
  | 0, vs, _ => vs 0 = .agg #[.slice A H.length c]
  | 1, vs, _ => vs 1 = .int .i64 level
  | 2, vs, _ => vs 2 = .agg #[.slice A H.length c]
  | 3, vs, _ => vs 3 = vl
  | 4, vs, W => OwnC W base (vs 4) L
  | 5, vs, W => ∃ u, vs 5 = .tuple #[u, .int .i64 0] ∧ GV base H.length E u W
  | 6, vs, W => ∃ u, vs 6 = .tuple #[u, .int .i64 0] ∧ GV base H.length E u W
  | 7, vs, W => GV base H.length E (vs 7) W
  | 8, vs, _ => vs 8 = .int .i64 0
  | 9, vs, W => VarV base (vs 9) W
  | 10, vs, W => ∃ g x y, vs 9 = .pointer (some ⟨g, 0, none⟩) ∧ base ≤ g ∧ vs 7 = .agg #[x, y] ∧ Blk W g 63 #[x, y]
  | 11, vs, _ => vs 11 = .int .i64 0
  | _, _, _ => True
def ful30D : Nat → List Nat
  | 4 => [2, 3]
  | 5 => [0, 1, 4]
  | 6 => [5]
  | 7 => [6]
  | 8 => [6]
  | 10 => [9, 7]
  | 11 => [8]
  | _ => []
/-- What an operation leaves. -/
def Ful30St (base : Nat) (i : Nat) (W W' : World) : Prop := if i = 10 then VarSt base W W' else Below W.heap.size W W'
theorem ful30_end : ∀ i, 12 ≤ i → ful30D i = [] := by
  intro i hi
  match i, hi with
  | n + 12, _ => rfl
theorem VarSt.own {base b : Nat} {v : Value} {L : List Cho} {W W' : World} (h : OwnC W base v L) (hs : VarSt b W W') : OwnC W' base v L := by
  refine ⟨h.1, ?_⟩
  rcases h.2 with h2 | ⟨g, cap, cur, hv, hg, hb, r⟩
  · exact .inl h2
  · exact .inr ⟨g, cap, cur, hv, hg, hs.blk hb (by decide), r⟩
section
variable {H : List Txn} {A : Option Addr} {c : Nat} {level : Int} {vl : Value} {L : List Cho} {E : Edges} {base : Nat}
theorem ful30_cg : ∀ j (vs vs' : Nat → Value) w, (∀ k, k = j ∨ k ∈ ful30D j → vs k = vs' k) → Ful30 H A c level vl L E base j vs w → Ful30 H A c level vl L E base j vs' w := by
  intro j vs vs' w hk h
  match j, h with
  | 0, h | 1, h | 2, h | 3, h | 4, h | 5, h | 6, h | 7, h | 8, h | 9, h | 11, h =>
    simp only [Ful30] at h ⊢
    rw [← hk _ (.inl rfl)]
    exact h
  | 10, h =>
    simp only [Ful30] at h ⊢
    rw [← hk 9 (.inr (by simp [ful30D])), ← hk 7 (.inr (by simp [ful30D]))]
    exact h
  | n + 12, _ => trivial
theorem ful30_keep : ∀ i j (vs : Nat → Value) w w', j ≠ i → j ∉ (fun _ => [] : Nat → List Nat) i → Ful30 H A c level vl L E base j vs w → Ful30St base i w w' → Ful30 H A c level vl L E base j vs w' := by
  intro i j vs w w' hne _ h hs
  have hv : VarSt base w w' := by
    unfold Ful30St at hs
    split at hs
    · exact hs
    · exact VarSt.of_below hs
  match j, h with
  | 0, h | 1, h | 2, h | 3, h | 8, h | 11, h => exact h
  | 4, h =>
    simp only [Ful30] at h ⊢
    exact VarSt.own h hv
  | 7, h =>
    simp only [Ful30] at h ⊢
    exact h.var hv
  | 5, h | 6, h =>
    simp only [Ful30] at h ⊢
    obtain ⟨u, h1, h2⟩ := h
    exact ⟨u, h1, h2.var hv⟩
  | 9, h =>
    simp only [Ful30] at h ⊢
    exact VarV.var h hv
  | 10, h =>
    unfold Ful30St at hs
    rw [if_neg (fun e => hne e.symm)] at hs
    simp only [Ful30] at h ⊢
    obtain ⟨g, x, y, h1, h2, h3, h4⟩ := h
    exact ⟨g, x, y, h1, h2, h3, h4.below hs h4.lt⟩
  | n + 12, _ => trivial
end
theorem rightC_dec {H : List Txn} (hr : rightH H = true) (path : List Int) : rightC H (decW H path) = true := by
  unfold rightC decW
  have hl := pairsL_len hr
  have h1 : ((pairsL H).filterMap (turnC path)).length ≤ (pairsL H).length := List.length_filterMap_le _ _
  rw [hr, Bool.true_and, Bool.and_eq_true, List.all_eq_true]
  refine ⟨by simp; omega, fun c hc => ?_⟩
  obtain ⟨p, hp, hpc⟩ := List.mem_filterMap.1 hc
  have h2 := pairs_one hp
  unfold turnC at hpc
  split at hpc
  · cases hpc
  · split at hpc
    · injection hpc with hpc; subst hpc; exact turn_one h2
    · injection hpc with hpc; subst hpc; exact h2
  · injection hpc with hpc; subst hpc; exact h2
  · injection hpc with hpc; subst hpc; exact turn_one h2
theorem own_agree {K : Nat → Prop} {w w' : World} {base : Nat} {e : TypeId} {size n : Nat} {v : Value} {xs : List Value} (h : w.ownsRow base e size v n xs) (ha : Agree K w w') (hK : ∀ g, base ≤ g → K g) : w'.ownsRow base e size v n xs := by
  refine ⟨h.1, ?_⟩
  rcases h.2 with h2 | ⟨g, cap, cur, hv, hg, hb, r⟩
  · exact .inl h2
  · exact .inr ⟨g, cap, cur, hv, hg, (ha g (hK g hg)).trans hb, r⟩
/-- A row of rows, told cell by cell. -/
theorem rows_own {w' : World} {K : Nat → Prop} {B gL : Nat} {left : List (List Int)} {cur : Array Value} (hL : Blk w' gL 25 cur) (hc : cur.size = left.length) (hB : B ≤ gL) (h63 : left.length ≤ maxLen)
    (hrows : ∀ j (hj : j < left.length), ∃ v, cur[j]? = some v ∧ IntS w' K v left[j]) : OwnR 1 RowR w' K B 25 (.slice (some ⟨gL, 0, none⟩) left.length left.length) left := by
  have hfl : (cur.toList.map fun v => [v]).flatten = cur.toList := by
    generalize cur.toList = l
    induction l with
    | nil => rfl
    | cons a l ih => simp [ih]
  refine ⟨cur.toList.map fun v => [v], ⟨?_, .inr ⟨gL, left.length, cur, rfl, hB, hL, Nat.le_refl _, h63, by rw [hc, Nat.mul_one], ?_⟩⟩, by simp [hc], fun i cs x h1 h2 => ?_⟩
  · rw [hfl]; simp [hc]
  · rw [hfl, List.take_of_length_le (by simp [hc])]
  · obtain ⟨hi, rfl⟩ := List.getElem?_eq_some_iff.1 h2
    obtain ⟨v, h3, h4⟩ := hrows i hi
    rw [List.getElem?_map] at h1
    have h3' : cur.toList[i]? = some v := by rw [← h3]; simp
    rw [h3'] at h1
    injection h1 with h1
    subst h1
    exact ⟨rfl, _, rfl, h4⟩
end Go.Proofs.YtfodlklpfffaaaaGreatDoor
