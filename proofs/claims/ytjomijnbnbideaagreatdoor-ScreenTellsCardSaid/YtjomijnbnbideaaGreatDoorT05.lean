/-
  Ranges over functions inside a loop: each leaves a mark among the deferred calls; a list of marks, and the way out past them.
-/
import Derived.Test.YtjomijnbnbideaaGreatDoorT04
set_option linter.unusedVariables false
set_option linter.unusedSimpArgs false
namespace Go.Proofs.YtjomijnbnbideaaGreatDoor
open Go.RowKit Go.Inq Go.Shelf
set_option maxHeartbeats 1000000

/-- The marks of the blocks Ds. -/
def markD (Ds : List Nat) : List Deferred := Ds.map fun D => { target := .collected D, args := #[] }
/-- The blocks are the marks': each another one, in [lo, hi), none shut. -/
def MarksS (W : World) (lo hi : Nat) (Ds : List Nat) : Prop := Ds.Nodup ∧ ∀ D ∈ Ds, lo ≤ D ∧ D < hi ∧ W.heap[D]? = some (.deferred (some []))
theorem MarksS.nil (W : World) (lo hi : Nat) : MarksS W lo hi [] := ⟨List.nodup_nil, by simp⟩
theorem MarksS.up {W : World} {lo hi hi' : Nat} {Ds : List Nat} (h : MarksS W lo hi Ds) (hh : hi ≤ hi') : MarksS W lo hi' Ds :=
  ⟨h.1, fun D hD => ⟨(h.2 D hD).1, Nat.lt_of_lt_of_le (h.2 D hD).2.1 hh, (h.2 D hD).2.2⟩⟩
theorem MarksS.cons {W : World} {lo hi hi' D : Nat} {Ds : List Nat} (h : MarksS W lo hi Ds) (h1 : hi ≤ D) (h2 : D < hi') (hl : lo ≤ hi) (hD : W.heap[D]? = some (.deferred (some []))) : MarksS W lo hi' (D :: Ds) := by
  refine ⟨List.nodup_cons.2 ⟨fun hm => ?_, h.1⟩, fun E hE => ?_⟩
  · have := (h.2 D hm).2.1; omega
  · rcases List.mem_cons.1 hE with rfl | hE
    · exact ⟨by omega, h2, hD⟩
    · have := h.2 E hE; exact ⟨this.1, by omega, this.2.2⟩
/-- What keeps all other things keeps the marks. -/
theorem MarksS.keep {W W' : World} {lo hi : Nat} {Ds : List Nat} (h : MarksS W lo hi Ds) (hk : ∀ D, lo ≤ D → D < hi → W.heap[D]? = some (.deferred (some [])) → W'.heap[D]? = some (.deferred (some []))) : MarksS W' lo hi Ds :=
  ⟨h.1, fun D hD => ⟨(h.2 D hD).1, (h.2 D hD).2.1, hk D (h.2 D hD).1 (h.2 D hD).2.1 (h.2 D hD).2.2⟩⟩
theorem MarksS.below {W W' : World} {B lo hi : Nat} {Ds : List Nat} (h : MarksS W lo hi Ds) (hb : Below B W W') (hB : hi ≤ B) : MarksS W' lo hi Ds :=
  h.keep fun D _ h2 h3 => (hb.block D (by omega)).trans h3
theorem MarksS.other {W W' : World} {lo hi : Nat} {Ds : List Nat} (h : MarksS W lo hi Ds) (hk : KeepsOthers W W') : MarksS W' lo hi Ds :=
  h.keep fun D _ _ h3 => hk.same D _ h3 rfl
theorem own_marks (lo hi B : Nat) (Ds : List Nat) (hB : hi ≤ B) {β : Type} : OwnFrom B (fun (_ : β) W => MarksS W lo hi Ds) :=
  fun _ X Y row hs hg hr => hs.keep fun D _ h2 h3 => (hg.block D (Array.getElem?_eq_some_iff.1 h3).1 (fun e => by have := (hr D e.symm).1; omega)).trans h3
/-- The way out past the marks. -/
theorem leaves_marks {F : Fence} {n : Nat} {P : Program} {fn : Func} {tmps : Array Value} {R : Ending → World → Prop} {lo hi : Nat} (K : World → Prop)
    (hK : ∀ W D, K W → lo ≤ D → D < hi → W.heap[D]? = some (.deferred (some [])) → K (W.putObj D (.deferred none))) (hend : ∀ W, K W → LeavesIn F n P fn tmps R [] .returning W) :
    ∀ (Ds : List Nat) (W : World), MarksS W lo hi Ds → K W → LeavesInM F n P fn tmps R (markD Ds) .returning W
  | [], W, _, hk => hend W hk
  | D :: Ds, W, hm, hk => by
    have h1 := hm.2 D (by simp)
    refine ⟨by simp, .inl ⟨D, _, rfl, run_takeDeferred h1.2.2, ?_⟩⟩
    refine leaves_marks K hK hend Ds _ ⟨(List.nodup_cons.1 hm.1).2, fun E hE => ?_⟩ (hK W D hk h1.1 h1.2.1 h1.2.2)
    have h2 := hm.2 E (by simp [hE])
    have hne : E ≠ D := fun e => (List.nodup_cons.1 hm.1).1 (e ▸ hE)
    exact ⟨h2.1, h2.2.1, by rw [World.putObj_heap_other (by omega)]; exact h2.2.2⟩
end Go.Proofs.YtjomijnbnbideaaGreatDoor

namespace Go.Inq

/-- Ways over nodes below k. -/
def cloTo (E : Edges) : Nat → Edges
  | 0 => E
  | k + 1 => fun x y => cloTo E k x y || (cloTo E k x k && cloTo E k k y)
/-- A way from x to y over l. -/
def wayB (E : Edges) (x : Nat) : List Nat → Nat → Bool
  | [], y => E x y
  | a :: l, y => E x a && wayB E a l y
theorem wayB_append {E : Edges} : ∀ {x : Nat} {a : List Nat} {k : Nat} {b : List Nat} {y : Nat}, wayB E x (a ++ k :: b) y = (wayB E x a k && wayB E k b y)
  | x, [], k, b, y => rfl
  | x, c :: a, k, b, y => by
    show (E x c && wayB E c (a ++ k :: b) y) = (E x c && wayB E c a k && wayB E k b y)
    rw [wayB_append, Bool.and_assoc]
theorem split_first {k : Nat} : ∀ {l : List Nat}, k ∈ l → ∃ a b, l = a ++ k :: b ∧ k ∉ a
  | [], h => by simp at h
  | c :: l, h => by
    by_cases e : c = k
    · exact ⟨[], l, by rw [e]; rfl, by simp⟩
    · have h2 : k ∈ l := by
        rw [List.mem_cons] at h
        exact h.resolve_left fun g => e g.symm
      obtain ⟨a, b, h3, h4⟩ := split_first h2
      exact ⟨c :: a, b, by rw [h3]; rfl, by simp; exact ⟨fun g => e g.symm, h4⟩⟩
theorem cloTo_way {E : Edges} : ∀ (k : Nat) (x y : Nat), cloTo E k x y = true → ∃ l : List Nat, (∀ a ∈ l, a < k) ∧ wayB E x l y = true
  | 0, x, y, h => ⟨[], by simp, h⟩
  | k + 1, x, y, h => by
    unfold cloTo at h
    rw [Bool.or_eq_true, Bool.and_eq_true] at h
    rcases h with h | ⟨h1, h2⟩
    · obtain ⟨l, hl, hw⟩ := cloTo_way k x y h
      exact ⟨l, fun a ha => by have := hl a ha; omega, hw⟩
    · obtain ⟨l1, hl1, hw1⟩ := cloTo_way k x k h1
      obtain ⟨l2, hl2, hw2⟩ := cloTo_way k k y h2
      refine ⟨l1 ++ k :: l2, fun a ha => ?_, by rw [wayB_append, hw1, hw2]; rfl⟩
      simp only [List.mem_append, List.mem_cons] at ha
      rcases ha with ha | rfl | ha
      · have := hl1 a ha; omega
      · omega
      · have := hl2 a ha; omega
theorem way_cloTo {E : Edges} : ∀ (k : Nat) (m : Nat) (l : List Nat) (x y : Nat), l.length ≤ m → (∀ a ∈ l, a < k) → wayB E x l y = true → cloTo E k x y = true := by
  intro k
  induction k with
  | zero =>
    intro m l x y _ hl hw
    cases l with
    | nil => exact hw
    | cons a l => exact absurd (hl a (by simp)) (by omega)
  | succ k ihk =>
    intro m
    induction m with
    | zero =>
      intro l x y hm hl hw
      obtain rfl : l = [] := List.eq_nil_of_length_eq_zero (by omega)
      unfold cloTo
      rw [ihk 0 [] x y (by simp) (by simp) hw]
      rfl
    | succ m ihm =>
      intro l x y hm hl hw
      by_cases hk : k ∈ l
      · obtain ⟨a, b, rfl, hka⟩ := split_first hk
        rw [wayB_append, Bool.and_eq_true] at hw
        have h1 := ihk a.length a x k (Nat.le_refl _) (fun c hc => by
          have := hl c (by simp [hc])
          have : c ≠ k := fun e => hka (e ▸ hc)
          omega) hw.1
        have h2 := ihm b k y (by simp at hm; omega) (fun c hc => hl c (by simp [hc])) hw.2
        unfold cloTo at h2 ⊢
        rw [Bool.or_eq_true, Bool.and_eq_true] at h2
        have h3 : cloTo E k k y = true := by rcases h2 with h | h; exact h; exact h.2
        rw [h1, h3]
        simp
      · unfold cloTo
        rw [ihk l.length l x y (Nat.le_refl _) (fun c hc => by
          have := hl c hc
          have : c ≠ k := fun e => hk (e ▸ hc)
          omega) hw]
        rfl
/-- All ways over n nodes. -/
def cloE (n : Nat) (E : Edges) : Edges := cloTo E n
theorem cloE_edge {n : Nat} {E : Edges} {x y : Nat} (h : E x y = true) : cloE n E x y = true := way_cloTo n 0 [] x y (by simp) (by simp) h
theorem cloE_trans {n : Nat} {E : Edges} {x y z : Nat} (hy : y < n) (h1 : cloE n E x y = true) (h2 : cloE n E y z = true) : cloE n E x z = true := by
  obtain ⟨a, ha, wa⟩ := cloTo_way n x y h1
  obtain ⟨b, hb, wb⟩ := cloTo_way n y z h2
  refine way_cloTo n _ (a ++ y :: b) x z (Nat.le_refl _) (fun c hc => ?_) (by rw [wayB_append, wa, wb]; rfl)
  simp only [List.mem_append, List.mem_cons] at hc
  rcases hc with hc | rfl | hc
  · exact ha c hc
  · exact hy
  · exact hb c hc
/-- What rises along each edge rises along each way. -/
theorem cloE_rank {n : Nat} {E : Edges} (f : Nat → Nat) (h : ∀ x y, x < n → y < n → E x y = true → f x < f y) : ∀ (l : List Nat) (x y : Nat), x < n → y < n → (∀ a ∈ l, a < n) → wayB E x l y = true → f x < f y
  | [], x, y, hx, hy, _, hw => h x y hx hy hw
  | a :: l, x, y, hx, hy, hl, hw => by
    have hw' : (E x a && wayB E a l y) = true := hw
    rw [Bool.and_eq_true] at hw'
    have ha := hl a (by simp)
    have h1 := h x a hx ha hw'.1
    have h2 := cloE_rank f h l a y ha hy (fun b hb => hl b (by simp [hb])) hw'.2
    omega
/-- Does some way lead back? -/
def cycB (n : Nat) (E : Edges) : Bool := (List.range n).any fun x => cloE n E x x
theorem cyc_rank {n : Nat} {E : Edges} (f : Nat → Nat) (h : ∀ x y, x < n → y < n → E x y = true → f x < f y) : cycB n E = false := by
  unfold cycB
  rw [List.any_eq_false]
  intro x hx hc
  obtain ⟨l, hl, hw⟩ := cloTo_way n x x hc
  have := cloE_rank f h l x x (List.mem_range.1 hx) (List.mem_range.1 hx) hl hw
  omega
end Go.Inq

namespace Go.Inq

theorem sub_len : ∀ (A B : List Nat), A.Nodup → (∀ x ∈ A, x ∈ B) → A.length ≤ B.length
  | [], _, _, _ => Nat.zero_le _
  | a :: A, B, hn, h => by
    rw [List.nodup_cons] at hn
    have h1 := sub_len A (B.erase a) hn.2 fun x hx => (List.mem_erase_of_ne (fun e : x = a => hn.1 (by rw [← e]; exact hx))).2 (h x (by simp [hx]))
    rw [List.length_erase_of_mem (h a (by simp))] at h1
    have := List.length_pos_of_mem (h a (by simp))
    simp
    omega
theorem nextT_spec {n : Nat} {E : Edges} {l : List Nat} {v : Nat} (h : nextT n E l = some v) : v < n ∧ v ∉ l ∧ ∀ x, x < n → E x v = true → x ∈ l := by
  unfold nextT at h
  have h1 := List.find?_some h
  have h2 := List.mem_of_find?_eq_some h
  simp only [Bool.and_eq_true, Bool.not_eq_true', List.all_eq_true, List.mem_range, Bool.or_eq_true, List.contains_iff_mem] at h1
  refine ⟨by simpa using h2, fun hv => ?_, fun x hx he => ?_⟩
  · have := h1.1
    rw [List.contains_iff_mem.2 hv] at this
    cases this
  · rcases h1.2 x hx with g | g
    · rw [he] at g; cases g
    · exact g
theorem nextT_stuck {n : Nat} {E : Edges} {l : List Nat} (h : nextT n E l = none) {v : Nat} (hv : v < n) (hl : v ∉ l) : ∃ x, x < n ∧ x ∉ l ∧ E x v = true := by
  unfold nextT at h
  rw [List.find?_eq_none] at h
  have h1 := h v (List.mem_range.2 hv)
  have hc : l.contains v = false := by
    rw [Bool.eq_false_iff]; intro e; exact hl (List.contains_iff_mem.1 e)
  rw [hc] at h1
  simp only [Bool.not_false, Bool.true_and, List.all_eq_true, List.mem_range, Classical.not_forall] at h1
  obtain ⟨x, hx, h2⟩ := h1
  simp only [Bool.or_eq_true, Bool.not_eq_true', List.contains_iff_mem, not_or] at h2
  exact ⟨x, hx, h2.2, by simpa using h2.1⟩
/-- What an order's beginning is. -/
structure TopoL (n : Nat) (E : Edges) (l : List Nat) : Prop where
  nd : l.Nodup
  lt : ∀ x ∈ l, x < n
  up : ∀ y ∈ l, ∀ x, x < n → E x y = true → x ∈ l ∧ l.idxOf x < l.idxOf y
theorem orderTo_topo {n : Nat} {E : Edges} : ∀ (k : Nat) (l : List Nat), orderTo n E k = some l → TopoL n E l
  | 0, l, h => by
    unfold orderTo at h
    injection h with h
    subst h
    exact ⟨List.nodup_nil, by simp, by simp⟩
  | k + 1, l, h => by
    unfold orderTo at h
    split at h
    · cases h
    · rename_i l0 h0
      split at h
      · cases h
      · rename_i v hv
        injection h with h
        subst h
        have ih := orderTo_topo k l0 h0
        obtain ⟨h1, h2, h3⟩ := nextT_spec hv
        refine ⟨?_, fun x hx => ?_, fun y hy x hx he => ?_⟩
        · rw [List.nodup_append]
          refine ⟨ih.nd, by simp, fun a ha b hb e => ?_⟩
          simp at hb
          subst hb
          exact h2 (e ▸ ha)
        · rw [List.mem_append, List.mem_singleton] at hx
          rcases hx with hx | rfl
          · exact ih.lt x hx
          · exact h1
        · rw [List.mem_append, List.mem_singleton] at hy
          rcases hy with hy | rfl
          · obtain ⟨g1, g2⟩ := ih.up y hy x hx he
            exact ⟨List.mem_append.2 (.inl g1), by rw [List.idxOf_append, List.idxOf_append, if_pos g1, if_pos hy]; exact g2⟩
          · have g1 := h3 x hx he
            refine ⟨List.mem_append.2 (.inl g1), ?_⟩
            rw [List.idxOf_append, List.idxOf_append, if_pos g1, if_neg h2]
            have := List.idxOf_lt_length_of_mem g1
            omega
theorem orderT_some_cyc {n : Nat} {E : Edges} {o : List Nat} (h : orderT n E = some o) : cycB n E = false := by
  have ht := orderTo_topo n o h
  have hl := orderTo_len h
  have hall : ∀ y, y < n → y ∈ o := fun y hy => by
    refine Classical.byContradiction fun hno => ?_
    have := sub_len (y :: o) (List.range n) (List.nodup_cons.2 ⟨hno, ht.nd⟩) (fun x hx => by
      rw [List.mem_cons] at hx
      rw [List.mem_range]
      rcases hx with rfl | hx
      · exact hy
      · exact ht.lt x hx)
    simp at this
    omega
  exact cyc_rank (fun x => o.idxOf x) fun x y hx hy he => (ht.up y (hall y hy) x hx he).2
/-- Where each of some has one of them ahead, some way leads back. -/
theorem back_cyc {n : Nat} {E : Edges} (R : Nat → Prop) (hR : ∀ v, R v → v < n) (hp : ∀ v, R v → ∃ x, R x ∧ E x v = true) : ∀ (m : Nat) (v : Nat), R v → ((List.range n).filter fun x => cloE n E x v).length ≤ m → cycB n E = true
  | m, v, hv, hm => by
    obtain ⟨x, hx, he⟩ := hp v hv
    by_cases hc : cloE n E x x = true
    · unfold cycB
      rw [List.any_eq_true]
      exact ⟨x, List.mem_range.2 (hR x hx), hc⟩
    · have hlt : ((List.range n).filter fun y => cloE n E y x).length + 1 ≤ ((List.range n).filter fun y => cloE n E y v).length := by
        have := sub_len (x :: (List.range n).filter fun y => cloE n E y x) ((List.range n).filter fun y => cloE n E y v) (List.nodup_cons.2 ⟨fun h => hc (List.mem_filter.1 h).2, List.Pairwise.filter _ List.nodup_range⟩) (fun y hy => by
          rw [List.mem_cons] at hy
          rw [List.mem_filter, List.mem_range]
          rcases hy with rfl | hy
          · exact ⟨hR y hx, cloE_edge he⟩
          · rw [List.mem_filter, List.mem_range] at hy
            exact ⟨hy.1, cloE_trans (hR x hx) hy.2 (cloE_edge he)⟩)
        simpa using this
      match m, hm with
      | 0, hm => omega
      | m + 1, hm => exact back_cyc R hR hp m x hx (by omega)
theorem orderTo_stuck {n : Nat} {E : Edges} : ∀ k, orderTo n E k = none → ∃ j l, j < k ∧ orderTo n E j = some l ∧ nextT n E l = none
  | 0, h => by unfold orderTo at h; cases h
  | k + 1, h => by
    unfold orderTo at h
    split at h
    · rename_i h0
      obtain ⟨j, l, h1, h2⟩ := orderTo_stuck k h0
      exact ⟨j, l, by omega, h2⟩
    · rename_i l0 h0
      split at h
      · rename_i hv
        exact ⟨k, l0, by omega, h0, hv⟩
      · cases h
theorem orderT_none_cyc {n : Nat} {E : Edges} (h : orderT n E = none) : cycB n E = true := by
  obtain ⟨j, l, hj, hl, hx⟩ := orderTo_stuck n h
  have ht := orderTo_topo j l hl
  have hlen := orderTo_len hl
  obtain ⟨v, hv, hvl⟩ : ∃ v, v < n ∧ v ∉ l := by
    refine Classical.byContradiction fun hno => ?_
    have := sub_len (List.range n) l List.nodup_range fun x hx => Classical.byContradiction fun hn => hno ⟨x, List.mem_range.1 hx, hn⟩
    simp at this
    omega
  refine back_cyc (fun u => u < n ∧ u ∉ l) (fun u hu => hu.1) (fun u hu => ?_) _ v ⟨hv, hvl⟩ (Nat.le_refl _)
  obtain ⟨x, h1, h2, h3⟩ := nextT_stuck hx hu.1 hu.2
  exact ⟨x, ⟨h1, h2⟩, h3⟩
/-- An order there is just if no way leads back. -/
theorem orderT_cyc (n : Nat) (E : Edges) : (orderT n E).isSome = !cycB n E := by
  cases h : orderT n E with
  | none => rw [orderT_none_cyc h]; rfl
  | some o => rw [orderT_some_cyc h]; rfl
end Go.Inq

namespace Go.Inq

/-- Of each node how many edges lead to v, told in rounds; 0: none do so far. -/
def farK (n : Nat) (E : Edges) (v : Nat) : Nat → Nat → Nat
  | 0, x => if E x v = true then 1 else 0
  | k + 1, x => if farK n E v k x ≠ 0 then farK n E v k x else if ((List.range n).any fun y => E x y && decide (farK n E v k y = k + 1)) = true then k + 2 else 0
section
variable {n : Nat} {E : Edges} {v : Nat}
theorem farK_keep {k x : Nat} (h : farK n E v k x ≠ 0) : farK n E v (k + 1) x = farK n E v k x := by
  show (if _ then _ else _) = _
  rw [if_pos h]
theorem farK_more {k x : Nat} (h : farK n E v k x ≠ 0) : ∀ d, farK n E v (k + d) x = farK n E v k x
  | 0 => rfl
  | d + 1 => by
    have ih := farK_more h d
    rw [show k + (d + 1) = (k + d) + 1 by omega, farK_keep (by rw [ih]; exact h), ih]
theorem farK_le (k x : Nat) : farK n E v k x ≤ k + 1 := by
  induction k with
  | zero =>
    show (if _ then _ else _) ≤ _
    split <;> omega
  | succ k ih =>
    show (if _ then _ else _) ≤ _
    split
    · omega
    · split
      · exact Nat.le_refl _
      · exact Nat.zero_le _
theorem farK_at {k x j : Nat} (h : farK n E v k x = j + 1) : j ≤ k ∧ farK n E v j x = j + 1 := by
  induction k with
  | zero =>
    have := farK_le (n := n) (E := E) (v := v) 0 x
    obtain rfl : j = 0 := by omega
    exact ⟨Nat.le_refl _, h⟩
  | succ k ih =>
    by_cases h0 : farK n E v k x = 0
    · have h1 : farK n E v (k + 1) x = (if farK n E v k x ≠ 0 then farK n E v k x else if ((List.range n).any fun y => E x y && decide (farK n E v k y = k + 1)) = true then k + 2 else 0) := rfl
      rw [if_neg (by omega)] at h1
      split at h1
      · obtain rfl : j = k + 1 := by omega
        exact ⟨Nat.le_refl _, h⟩
      · omega
    · rw [farK_keep h0] at h
      obtain ⟨g1, g2⟩ := ih h
      exact ⟨by omega, g2⟩
theorem farK_next {k x : Nat} (h0 : farK n E v k x = 0) : farK n E v (k + 1) x = if ((List.range n).any fun y => E x y && decide (farK n E v k y = k + 1)) = true then k + 2 else 0 := by
  show (if _ then _ else _) = _
  rw [if_neg (by omega)]
/-- From each node but the nearest some edge leads to one that is nearer. -/
theorem farK_down {k x j : Nat} (h : farK n E v k x = j + 2) : ∃ y, y < n ∧ E x y = true ∧ farK n E v k y = j + 1 := by
  obtain ⟨h1, h2⟩ := farK_at (j := j + 1) h
  have h0 : farK n E v j x = 0 := by
    refine Classical.byContradiction fun hne => ?_
    rw [farK_keep hne] at h2
    have := farK_le (n := n) (E := E) (v := v) j x
    omega
  rw [farK_next h0] at h2
  split at h2
  · rename_i hy
    rw [List.any_eq_true] at hy
    obtain ⟨y, hy, h3⟩ := hy
    rw [Bool.and_eq_true] at h3
    have h4 := of_decide_eq_true h3.2
    have := farK_more (n := n) (E := E) (v := v) (k := j) (x := y) (by omega) (k - j)
    rw [show j + (k - j) = k by omega] at this
    exact ⟨y, List.mem_range.1 hy, h3.1, by omega⟩
  · omega
theorem farK_one {k x : Nat} (h : farK n E v k x = 1) : E x v = true := by
  obtain ⟨_, h2⟩ := farK_at (j := 0) h
  have h3 : (if E x v = true then 1 else 0) = 1 := h2
  split at h3
  · assumption
  · omega
theorem farK_edge {k x : Nat} (h : E x v = true) : farK n E v k x = 1 := by
  have h0 : farK n E v 0 x = 1 := by
    show (if _ then _ else _) = _
    rw [if_pos h]
  have := farK_more (n := n) (E := E) (v := v) (k := 0) (x := x) (by omega) k
  rw [Nat.zero_add] at this
  omega
theorem farK_up {k x y j : Nat} (hy : y < n) (he : E x y = true) (h : farK n E v k y = j + 1) (hj : j < k) : farK n E v k x ≠ 0 := by
  obtain ⟨_, h2⟩ := farK_at h
  by_cases h0 : farK n E v j x = 0
  · have h3 : farK n E v (j + 1) x = j + 2 := by
      rw [farK_next h0, if_pos (by rw [List.any_eq_true]; exact ⟨y, List.mem_range.2 hy, by rw [he, decide_eq_true h2]; rfl⟩)]
    have := farK_more (n := n) (E := E) (v := v) (k := j + 1) (x := x) (by omega) (k - (j + 1))
    rw [show j + 1 + (k - (j + 1)) = k by omega] at this
    omega
  · have := farK_more (n := n) (E := E) (v := v) h0 (k - j)
    rw [show j + (k - j) = k by omega] at this
    omega
/-- As far as some node is there are nodes. -/
theorem farK_chain {k : Nat} : ∀ (j x : Nat), x < n → farK n E v k x = j + 1 → ∃ l : List Nat, l.Nodup ∧ l.length = j + 1 ∧ ∀ y ∈ l, y < n ∧ farK n E v k y ≠ 0 ∧ farK n E v k y ≤ j + 1
  | 0, x, hx, h => ⟨[x], by simp, rfl, fun y hy => by rw [List.mem_singleton] at hy; subst hy; omega⟩
  | j + 1, x, hx, h => by
    obtain ⟨y, hy, _, h2⟩ := farK_down h
    obtain ⟨l, h3, h4, h5⟩ := farK_chain j y hy h2
    refine ⟨x :: l, List.nodup_cons.2 ⟨fun hm => ?_, h3⟩, by rw [List.length_cons, h4], fun z hz => ?_⟩
    · have := h5 x hm; omega
    · rw [List.mem_cons] at hz
      rcases hz with rfl | hz
      · omega
      · have := h5 z hz; omega
theorem farK_lev {k x : Nat} (hx : x < n) : farK n E v k x ≤ n := by
  cases h : farK n E v k x with
  | zero => omega
  | succ j =>
    obtain ⟨l, h1, h2, h3⟩ := farK_chain j x hx h
    have := sub_len l (List.range n) h1 fun y hy => List.mem_range.2 (h3 y hy).1
    simp at this
    omega
theorem farK_full {k x : Nat} (hx : x < n) (h : farK n E v k x = n) {y : Nat} (hy : y < n) : farK n E v k y ≠ 0 := by
  intro h0
  obtain ⟨j, rfl⟩ : ∃ j, n = j + 1 := ⟨n - 1, by omega⟩
  obtain ⟨l, h1, h2, h3⟩ := farK_chain j x hx h
  have := sub_len (y :: l) (List.range (j + 1)) (List.nodup_cons.2 ⟨fun hm => (h3 y hm).2.1 h0, h1⟩) fun z hz => by
    rw [List.mem_cons] at hz
    rw [List.mem_range]
    rcases hz with rfl | hz
    · exact hy
    · exact (h3 z hz).1
  simp at this
  omega
/-- Behind n rounds nothing changes. -/
theorem farK_still {d x : Nat} (hx : x < n) : farK n E v (n - 1 + d) x = farK n E v (n - 1) x := by
  induction d with
  | zero => rfl
  | succ d ih =>
    rw [show n - 1 + (d + 1) = n - 1 + d + 1 by omega]
    by_cases h0 : farK n E v (n - 1 + d) x = 0
    · rw [farK_next h0]
      split
      · rename_i hy
        exfalso
        rw [List.any_eq_true] at hy
        obtain ⟨y, hy, h3⟩ := hy
        rw [Bool.and_eq_true] at h3
        have h4 := of_decide_eq_true h3.2
        have h5 := farK_lev (n := n) (E := E) (v := v) (k := n - 1 + d) (List.mem_range.1 hy)
        exact farK_full (List.mem_range.1 hy) (show farK n E v (n - 1 + d) y = n by omega) hx h0
      · omega
    · rw [farK_keep h0, ih]
/-- Where nothing is new, nothing is behind. -/
theorem farK_end {k : Nat} (h : ∀ x y, x < n → y < n → farK n E v k y = k + 1 → E x y = false) (d : Nat) {x : Nat} (hx : x < n) : farK n E v (k + d) x = farK n E v k x := by
  induction d generalizing x with
  | zero => rfl
  | succ d ih =>
    rw [show k + (d + 1) = k + d + 1 by omega]
    by_cases h0 : farK n E v (k + d) x = 0
    · rw [farK_next h0]
      split
      · rename_i hy
        exfalso
        rw [List.any_eq_true] at hy
        obtain ⟨y, hy, h3⟩ := hy
        have hy := List.mem_range.1 hy
        rw [Bool.and_eq_true] at h3
        have h4 := of_decide_eq_true h3.2
        rw [ih hy] at h4
        have h5 := farK_le (n := n) (E := E) (v := v) k y
        obtain rfl : d = 0 := by omega
        rw [h x y hx hy (by omega)] at h3
        exact absurd h3.1 (by decide)
      · rw [← ih hx]; exact h0.symm
    · rw [farK_keep h0, ih hx]
end
/-- How far it is to v. -/
def farE (n : Nat) (E : Edges) (v x : Nat) : Nat := farK n E v (n - 1) x
theorem farE_stop {n : Nat} {E : Edges} {v k : Nat} (h : ∀ x y, x < n → y < n → farK n E v k y = k + 1 → E x y = false) {x : Nat} (hx : x < n) : farK n E v k x = farE n E v x := by
  unfold farE
  by_cases hk : k ≤ n - 1
  · have := farK_end h (n - 1 - k) hx
    rw [show k + (n - 1 - k) = n - 1 by omega] at this
    exact this.symm
  · have := farK_still (n := n) (E := E) (v := v) (d := k - (n - 1)) hx
    rw [show n - 1 + (k - (n - 1)) = k by omega] at this
    exact this
theorem farE_way {n : Nat} {E : Edges} {v : Nat} : ∀ (j x : Nat), farE n E v x = j + 1 → ∃ l : List Nat, (∀ a ∈ l, a < n) ∧ wayB E x l v = true
  | 0, x, h => ⟨[], by simp, farK_one h⟩
  | j + 1, x, h => by
    obtain ⟨y, hy, he, h2⟩ := farK_down (n := n) (E := E) (v := v) h
    obtain ⟨l, hl, hw⟩ := farE_way j y h2
    exact ⟨y :: l, by simp; exact ⟨hy, hl⟩, by show (E x y && wayB E y l v) = true; rw [he, hw]; rfl⟩
theorem way_farE {n : Nat} {E : Edges} {v : Nat} : ∀ (l : List Nat) (x : Nat), x < n → (∀ a ∈ l, a < n) → wayB E x l v = true → farE n E v x ≠ 0
  | [], x, hx, _, hw => by
    have hw : E x v = true := hw
    unfold farE
    rw [farK_edge hw]
    decide
  | a :: l, x, hx, hl, hw => by
    have hw : (E x a && wayB E a l v) = true := hw
    rw [Bool.and_eq_true] at hw
    have ha := hl a (by simp)
    have ih := way_farE l a ha (fun b hb => hl b (by simp [hb])) hw.2
    unfold farE at ih ⊢
    obtain ⟨j, hj⟩ : ∃ j, farK n E v (n - 1) a = j + 1 := ⟨farK n E v (n - 1) a - 1, by omega⟩
    have hlev := farK_lev (n := n) (E := E) (v := v) (k := n - 1) ha
    by_cases hjn : j + 1 = n
    · exact farK_full ha (hj.trans hjn) hx
    · exact farK_up ha hw.1 hj (by omega)
/-- Does an edge lead on from x to where so many are left? -/
def nearE (n : Nat) (E : Edges) (d : Nat → Nat) (x left : Nat) : Option Nat := (List.range n).find? fun y => E x y && decide (d y = left)
def pathF (n : Nat) (E : Edges) (d : Nat → Nat) (x : Nat) : Nat → List Nat
  | 0 => []
  | l + 1 => match nearE n E d x (l + 1) with
    | some y => y :: pathF n E d y l
    | none => []
/-- A cycle; none: there is none. -/
def findL (n : Nat) (E : Edges) : List Nat := match (List.range n).find? fun v => farE n E v v != 0 with
  | none => []
  | some v => v :: pathF n E (farE n E v) v (farE n E v v - 1)
theorem nearE_some {n : Nat} {E : Edges} {v x l : Nat} (h : farE n E v x = l + 2) : ∃ y, nearE n E (farE n E v) x (l + 1) = some y ∧ y < n ∧ E x y = true ∧ farE n E v y = l + 1 := by
  obtain ⟨z, hz, he, h2⟩ := farK_down (n := n) (E := E) (v := v) h
  cases hf : nearE n E (farE n E v) x (l + 1) with
  | none =>
    unfold nearE at hf
    rw [List.find?_eq_none] at hf
    exact absurd (by rw [he, Bool.true_and]; exact decide_eq_true h2) (hf z (List.mem_range.2 hz))
  | some y =>
    have h1 := List.find?_some hf
    have h3 := List.mem_of_find?_eq_some hf
    rw [Bool.and_eq_true] at h1
    exact ⟨y, rfl, List.mem_range.1 h3, h1.1, of_decide_eq_true h1.2⟩
theorem pathF_step {n : Nat} {E : Edges} {d : Nat → Nat} {x y l : Nat} (h : nearE n E d x (l + 1) = some y) : pathF n E d x (l + 1) = y :: pathF n E d y l := by
  show (match nearE n E d x (l + 1) with | some y => y :: pathF n E d y l | none => []) = _
  rw [h]
theorem pathF_len {n : Nat} {E : Edges} {v : Nat} : ∀ (l x : Nat), farE n E v x = l + 1 → (pathF n E (farE n E v) x l).length = l
  | 0, x, _ => rfl
  | l + 1, x, h => by
    obtain ⟨y, h1, _, _, h4⟩ := nearE_some h
    rw [pathF_step h1, List.length_cons, pathF_len l y h4]
theorem findL_nil {n : Nat} {E : Edges} : findL n E = [] ↔ cycB n E = false := by
  have hcl : ∀ v, v < n → (farE n E v v ≠ 0 ↔ cloE n E v v = true) := fun v hv => by
    constructor
    · intro h
      obtain ⟨l, hl, hw⟩ := farE_way (farE n E v v - 1) v (show farE n E v v = _ by omega)
      exact way_cloTo n l.length l v v (Nat.le_refl _) hl hw
    · intro h
      obtain ⟨l, hl, hw⟩ := cloTo_way n v v h
      exact way_farE l v hv hl hw
  unfold findL cycB
  cases hf : (List.range n).find? fun v => farE n E v v != 0 with
  | none =>
    rw [List.find?_eq_none] at hf
    simp only [true_iff]
    rw [List.any_eq_false]
    intro v hv hc
    exact hf v hv (by rw [bne_iff_ne]; exact (hcl v (List.mem_range.1 hv)).2 hc)
  | some v =>
    have h1 := List.find?_some hf
    have h2 := List.mem_of_find?_eq_some hf
    rw [bne_iff_ne] at h1
    constructor
    · intro h; cases h
    · intro h
      rw [List.any_eq_false] at h
      exact absurd ((hcl v (List.mem_range.1 h2)).1 h1) (h v h2)
theorem findL_lt {n : Nat} {E : Edges} : ∀ x ∈ findL n E, x < n := by
  have hp : ∀ (d : Nat → Nat) (l x : Nat), ∀ y ∈ pathF n E d x l, y < n := by
    intro d l
    induction l with
    | zero => intro x y hy; cases hy
    | succ l ih =>
      intro x y hy
      have hy : y ∈ (match nearE n E d x (l + 1) with | some y => y :: pathF n E d y l | none => []) := hy
      split at hy
      · rename_i z hz
        rw [List.mem_cons] at hy
        rcases hy with rfl | hy
        · exact List.mem_range.1 (List.mem_of_find?_eq_some hz)
        · exact ih _ _ hy
      · cases hy
  intro x hx
  unfold findL at hx
  split at hx
  · cases hx
  · rename_i v hv
    rw [List.mem_cons] at hx
    rcases hx with rfl | hx
    · exact List.mem_range.1 (List.mem_of_find?_eq_some hv)
    · exact hp _ _ _ _ hx
end Go.Inq

namespace Go.Proofs.YtjomijnbnbideaaGreatDoor
open Go.RowKit Go.Inq Go.Shelf
set_option maxHeartbeats 1000000

/-- The fact that makes a choice plain, if one does. -/
def perF (H : List Txn) (level : Int) (c : Cho) : Option (Option Nat) := (perTo H.length).find? fun x => holdsB H level [] (mkF c x)
def perL (H : List Txn) (level : Int) (c : Cho) : List (Cho × Option Nat) := ((perF H level c).map fun x => (c, x)).toList
def perP (H : List Txn) (level : Int) (p : Cho) : List (Cho × Option Nat) := perL H level p ++ perL H level (turnB p)
/-- What is told of some pairs. -/
def plainL (H : List Txn) (level : Int) (l : List Cho) : List (Cho × Option Nat) := (l.map (perP H level)).flatten
theorem plainL_step {H : List Txn} {level : Int} {l : List Cho} {k : Nat} (h : k < l.length) : plainL H level (l.take (k + 1)) = plainL H level (l.take k) ++ (perL H level l[k] ++ perL H level (turnB l[k])) := by
  unfold plainL
  rw [take_snoc' h, List.map_append, List.flatten_append]
  simp [perP]
theorem perL_len (H : List Txn) (level : Int) (c : Cho) : (perL H level c).length ≤ 1 := by
  unfold perL
  cases perF H level c <;> simp
theorem plainL_len (H : List Txn) (level : Int) : ∀ l : List Cho, (plainL H level l).length ≤ 2 * l.length
  | [] => by simp [plainL]
  | p :: l => by
    have h1 := plainL_len H level l
    have h2 := perL_len H level p
    have h3 := perL_len H level (turnB p)
    have e : plainL H level (p :: l) = perP H level p ++ plainL H level l := by simp [plainL]
    rw [e, List.length_append]
    unfold perP
    rw [List.length_append, List.length_cons]
    omega
/-- None of the first ones holds: so the next one that does is the fact. -/
theorem find_pre {α : Type} {p : α → Bool} {pre l : List α} {x : α} (h : pre ++ [x] <+: l) (hn : ∀ y ∈ pre, p y = false) (hx : p x = true) : l.find? p = some x := by
  obtain ⟨t, rfl⟩ := h
  rw [List.append_assoc, List.find?_append]
  have h1 : pre.find? p = none := by rw [List.find?_eq_none]; intro y hy; rw [hn y hy]; simp
  rw [h1]
  simp [List.find?_cons, hx]
theorem find_none {α : Type} {p : α → Bool} {l : List α} (hn : ∀ y ∈ l, p y = false) : l.find? p = none := by
  rw [List.find?_eq_none]; intro y hy; rw [hn y hy]; simp
/-- What the strategy says. -/
structure Scr where
  said : Int
  order : List Nat
  tree : Option (List Nat)
  facts : List (Cho × Option Nat)
def scrH (H : List Txn) (level : Int) : Scr :=
  if rightC H [] && (decide (level = 0) || decide (level = 1)) then
    if findL H.length (fullE H level []) = [] then
      if pairsL H = [] then ⟨1, (orderT H.length (fullE H level [])).getD [], none, []⟩
      else ⟨3, [], none, plainL H level (pairsL H)⟩
    else ⟨2, [], some (findL H.length (fullE H level [])), []⟩
  else ⟨3, [], none, []⟩
/-- A fact's cells. -/
def encX (x : Cho × Option Nat) : List Value := [.int .i64 x.1.key, .int .i64 x.1.a, .int .i64 x.1.b, .int .i64 (mkF x.1 x.2).kind, .int .i64 (mkF x.1 x.2).i, .int .i64 0, .slice none 0 0]
theorem encX_len (x : Cho × Option Nat) : (encX x).length = 7 := rfl
theorem encX_one (x : Cho × Option Nat) : ∀ u ∈ encX x, u.oneCell' = true := by
  intro u hu
  simp only [encX, List.mem_cons, List.not_mem_nil, or_false] at hu
  rcases hu with rfl | rfl | rfl | rfl | rfl | rfl | rfl <;> rfl
def OwnX (w : World) (base : Nat) (v : Value) (l : List (Cho × Option Nat)) : Prop := w.ownsRow base 51 7 v l.length (l.map encX).flatten
theorem OwnX.nil (w : World) (base : Nat) : OwnX w base (.slice none 0 0) [] := World.ownsRow_nil _ _ _ _
theorem infoF22 : (Tryz.prog.info? 51).map (fun i => (i.zero, i.size, i.bytes)) = some (some (.agg #[.int .i64 0, .int .i64 0, .int .i64 0, .int .i64 0, .int .i64 0, .int .i64 0, .slice none 0 0]), 7, 72) := by kernel_rfl
/-- As wpListIn_push, whatever the elements' size. -/
theorem wpListIn_pushF {F : Fence} {nF : Nat} {P : Program} {W : World} {ops : Array Oper} {rest : List Oper} {o : Oper} {a : Act} {Q : Exit → Act → World → Prop} {α : Type} {enc : α → List Value}
    (hgd : o.guard = none) (s x : Operand) (t : TypeId) (ho : o.op = .call { callee := .builtin .append, args := #[s, x], argTypes := #[t, t] })
    (base : Nat) (e : TypeId) (i : TypeInfo) (z : Value) (size bytes : Nat) (ht : P.underlying t = some (.slice e)) (hi : P.info? e = some i) (hz : i.zero = some z)
    (hsize : i.size = size) (hby : i.bytes = bytes) (hzs : z.cells.size = size) (hsz : 0 < size)
    (v : Value) (l : List α) (hs : a.eval s = v) (hown : W.ownsRow base e size v l.length (l.map enc).flatten)
    (x0 : α) (cs : Array Value) (hcs : cs.toList = enc x0) (hlen : (enc x0).length = size) (hone : ∀ u ∈ enc x0, u.oneCell' = true)
    (hx : a.eval x = .slice (some ⟨W.heap.size, 0, none⟩) 1 1)
    (h63 : l.length + 1 ≤ maxLen) (hbytes : (l.length + 1) * bytes ≤ 140737488355328) (hbase : base ≤ W.heap.size)
    (h : ∀ v' w', w'.ownsRow base e size v' (l ++ [x0]).length ((l ++ [x0]).map enc).flatten → (W.alloc (.cells cs e)).grownBy w' v.ownBlock → (v'.ownBlock = v.ownBlock ∨ v'.ownBlock = some (W.heap.size + 1)) → wpListIn F nF P ops Q rest (a.put o.dst v') w') :
    wpListIn F nF P ops Q (o :: rest) a (W.alloc (.cells cs e)) := by
  have hk : Blk (W.alloc (.cells cs e)) W.heap.size e cs := Blk.new _ _ _
  refine wpListIn_append_own_at _ hgd s x t ho base e i z size bytes ht hi hz hsize hby hzs hsz v l.length _ hs (hown.alloc _) ⟨W.heap.size, 0, none⟩ 1 1 (enc x0) hx (by rw [hlen]; simp) (fun j u hj => ?_) hone h63 hbytes (by simp; omega) ?_
  · have h1 := hk.cell j
    rw [← hcs] at hj
    rw [Array.getElem?_toList] at hj
    rw [hj] at h1
    rw [show (⟨W.heap.size, 0, none⟩ : Addr).add j = ⟨W.heap.size, j, none⟩ by unfold Addr.add; split <;> simp_all]
    exact h1
  · intro v' w' g1 g2 _ g3
    refine h v' w' ?_ g2 (by simpa using g3)
    rw [List.map_append, List.flatten_append, List.length_append]
    simpa using g1
end Go.Proofs.YtjomijnbnbideaaGreatDoor
