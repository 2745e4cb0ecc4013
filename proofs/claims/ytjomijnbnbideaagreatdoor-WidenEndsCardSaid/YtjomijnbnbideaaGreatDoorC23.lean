/-
  Walks: layer 30's reference: are two states alike?
-/
import Derived.Test.YtjomijnbnbideaaGreatDoorC15
import Derived.Test.YtjomijnbnbideaaGreatDoorC05
import Derived.Test.YtjomijnbnbideaaGreatDoorC16
import Derived.Test.YtjomijnbnbideaaGreatDoorC22
import Derived.Test.YtjomijnbnbideaaGreatDoorC10
import Derived.Test.YtjomijnbnbideaaGreatDoorC12
import Derived.Test.YtjomijnbnbideaaGreatDoorC09
set_option linter.unusedVariables false
set_option linter.unusedSimpArgs false
namespace Go.Proofs.YtjomijnbnbideaaGreatDoor
open Go.RowKit Go.Inq
set_option maxHeartbeats 8000000
attribute [local go_sem ↓] Go.wp_at_zero Go.wp_at_succ

/-- A state that can be held against another one. -/
def FewWd (s : Wd) : Prop := s.path.length ≤ 1000000 ∧ s.left.length ≤ 1000000 ∧ ∀ l ∈ s.left, l.length ≤ 1000000
theorem wd_eq {s s' : Wd} (h1 : s.width = s'.width) (h2 : s.cut = s'.cut) (h3 : s.path = s'.path) (h4 : s.left = s'.left) : s = s' := by
  cases s; cases s'; simp only at h1 h2 h3 h4; subst h1 h2 h3 h4; rfl
end Go.Proofs.YtjomijnbnbideaaGreatDoor

namespace Go.Inq

theorem putW_width (H : List Txn) (s : Wd) : (putW H s).width = s.width := rfl
theorem putW_left (H : List Txn) (s : Wd) : (putW H s).left ≠ [] := by unfold putW; simp

theorem wide_step (H : List Txn) (level : Int) (s : Wd) :
    let r := stepW H level s
    (r.2.1 ≠ 0 → r.2.1 = 1 ∨ r.1 = s) ∧
    (r.2.1 = 0 → (r.1.width = s.width ∧ r.1.left ≠ []) ∨ (r.1.width = s.width + 1 ∧ s.cut = true ∧ r.1.cut = false ∧ r.1.path = [] ∧ r.1.left = [])) ∧
    (1 ≤ s.width ∧ s.width ≤ 32 → 1 ≤ r.1.width ∧ r.1.width ≤ 32) := by
  unfold stepW
  split
  · exact ⟨fun _ => .inr rfl, fun h => by simp at h, fun h => h⟩
  · split
    · exact ⟨fun _ => .inl rfl, fun h => by simp at h, fun h => h⟩
    · split
      · exact ⟨fun h => absurd rfl h, fun _ => .inl ⟨rfl, putW_left _ _⟩, fun h => h⟩
      · split
        · rename_i hl
          refine ⟨fun h => absurd rfl h, fun _ => .inl ⟨rfl, ?_⟩, fun h => h⟩
          intro e
          have := congrArg List.length e
          simp at this
          omega
        · split
          · rename_i hc
            refine ⟨fun h => absurd rfl h, fun _ => .inr ⟨rfl, hc.1, rfl, rfl, rfl⟩, fun h => ⟨by dsimp only; omega, by dsimp only; omega⟩⟩
          · exact ⟨fun _ => .inr rfl, fun h => by simp at h, fun h => h⟩
      · dsimp only
        split
        · exact ⟨fun h => absurd rfl h, fun _ => .inl ⟨rfl, by simp⟩, fun h => h⟩
        · split
          · exact ⟨fun _ => .inl rfl, fun h => by simp at h, fun h => h⟩
          · exact ⟨fun h => absurd rfl h, fun _ => .inl ⟨rfl, putW_left _ _⟩, fun h => h⟩
end Go.Inq

namespace Go.Proofs.YtjomijnbnbideaaGreatDoor
open Go.RowKit Go.Inq
set_option maxHeartbeats 8000000
attribute [local go_sem ↓] Go.wp_at_zero Go.wp_at_succ

theorem riseW_tail : ∀ {a : Int} {l : List Int}, riseW (a :: l) = true → riseW l = true
  | a, [], _ => rfl
  | a, b :: r, h => by unfold riseW at h; rw [Bool.and_eq_true] at h; exact h.2
/-- What a state of WidenWide may hold behind k steps. -/
def GrowW (n k : Nat) (s : Wd) : Prop := s.path.length ≤ k ∧ s.left.length ≤ k ∧ ∀ l ∈ s.left, l.length ≤ n
theorem comeW_len (H : List Txn) (path : List Int) : (comeW H path).length ≤ H.length := by
  unfold comeW
  rw [List.length_map]
  exact Nat.le_trans (List.length_filter_le _ _) (by simp)
theorem putW_grow {H : List Txn} {k : Nat} {s : Wd} (h : GrowW H.length k s) : GrowW H.length (k + 1) (putW H s) := by
  obtain ⟨h1, h2, h3⟩ := h
  refine ⟨Nat.le_succ_of_le h1, by unfold putW; simp; exact h2, fun l hl => ?_⟩
  unfold putW at hl
  simp only [List.mem_append, List.mem_singleton] at hl
  rcases hl with hl | rfl
  · exact h3 l hl
  · exact Nat.le_trans (by rw [List.length_take]; exact Nat.min_le_right _ _) (comeW_len H _)
theorem stepW_grow {H : List Txn} {level : Int} {k : Nat} {s : Wd} (h : GrowW H.length k s) : GrowW H.length (k + 1) (stepW H level s).1 := by
  have hk : GrowW H.length (k + 1) s := ⟨Nat.le_succ_of_le h.1, Nat.le_succ_of_le h.2.1, h.2.2⟩
  unfold stepW
  split
  · exact hk
  · split
    · exact hk
    · split
      · exact putW_grow h
      · split
        · refine ⟨?_, ?_, fun l hl => h.2.2 l ((List.dropLast_sublist _).subset hl)⟩
          · simp; have := h.1; omega
          · simp; have := h.2.1; omega
        · split
          · exact ⟨by simp, by simp, by simp⟩
          · exact hk
      · rename_i t r heq
        have hm : (t :: r) ∈ s.left := List.mem_of_mem_getLast? heq
        have hr : r.length ≤ H.length := by have := h.2.2 _ hm; simp at this; omega
        have hl0 : 0 < s.left.length := List.length_pos_iff.2 (List.ne_nil_of_mem hm)
        have hd : ∀ l ∈ s.left.dropLast ++ [r], l.length ≤ H.length := fun l hl => by
          simp only [List.mem_append, List.mem_singleton] at hl
          rcases hl with hl | rfl
          · exact h.2.2 l ((List.dropLast_sublist _).subset hl)
          · exact hr
        have hdl : (s.left.dropLast ++ [r]).length ≤ k := by simp; have := h.2.1; omega
        dsimp only
        split
        · exact ⟨Nat.le_succ_of_le h.1, Nat.le_succ_of_le hdl, hd⟩
        · split
          · exact ⟨Nat.le_succ_of_le h.1, Nat.le_succ_of_le hdl, hd⟩
          · refine ⟨?_, ?_, fun l hl => ?_⟩
            · unfold putW; simp; exact h.1
            · unfold putW; simp; have := h.2.1; omega
            · unfold putW at hl
              simp only [List.mem_append, List.mem_singleton] at hl
              rcases hl with hl | rfl
              · exact hd l (by simpa using hl)
              · exact Nat.le_trans (by rw [List.length_take]; exact Nat.min_le_right _ _) (comeW_len H _)
end Go.Proofs.YtjomijnbnbideaaGreatDoor

namespace Go.Proofs.YtjomijnbnbideaaGreatDoor
open Go.RowKit Go.Inq
set_option maxHeartbeats 16000000
attribute [local go_sem ↓] Go.wp_at_zero Go.wp_at_succ

/-- The law's own variable, and what it holds. -/
structure WideR (w wr : World) (A : Option Addr) (c : Nat) (H : List Txn) (g9 : Nat) (k : Nat) (s : Wd) (vp vl : Value) : Prop where
  below : Below w.heap.size w wr
  g : w.heap.size < g9
  hh : Blk wr w.heap.size 24 #[.slice A H.length c]
  b9 : Blk wr g9 30 #[.int .i64 s.width, .bool s.cut, vp, vl]
  ws : WdS wr (fun b => b < wr.heap.size ∧ b ≠ g9) (.agg #[.int .i64 s.width, .bool s.cut, vp, vl]) s
  gr : GrowW H.length k s
  w1 : 1 ≤ s.width
  w2 : s.width ≤ 32
end Go.Proofs.YtjomijnbnbideaaGreatDoor

namespace Go.Inq

/-- Ways over nodes below k. -/
def cloTo (E : Edges) : Nat → Edges
  | 0 => E
  | k + 1 => fun x y => cloTo E k x y || (cloTo E k x k && cloTo E k k y)
/-- A way from x to y over l. -/
def wayB (E : Edges) (x : Nat) : List Nat → Nat → Bool
  | [], y => E x y
  | a :: l, y => E x a && wayB E a l y
theorem wayB_append {E : Edges} : ∀ {x : Nat} {a : List Nat} {k : Nat} {b : List Nat} {y : Nat}, wayB E x (a ++ k :: b) y = (wayB E x a k && wayB E k b y)
  | x, [], k, b, y => rfl
  | x, c :: a, k, b, y => by
    show (E x c && wayB E c (a ++ k :: b) y) = (E x c && wayB E c a k && wayB E k b y)
    rw [wayB_append, Bool.and_assoc]
theorem split_first {k : Nat} : ∀ {l : List Nat}, k ∈ l → ∃ a b, l = a ++ k :: b ∧ k ∉ a
  | [], h => by simp at h
  | c :: l, h => by
    by_cases e : c = k
    · exact ⟨[], l, by rw [e]; rfl, by simp⟩
    · have h2 : k ∈ l := by
        rw [List.mem_cons] at h
        exact h.resolve_left fun g => e g.symm
      obtain ⟨a, b, h3, h4⟩ := split_first h2
      exact ⟨c :: a, b, by rw [h3]; rfl, by simp; exact ⟨fun g => e g.symm, h4⟩⟩
theorem cloTo_way {E : Edges} : ∀ (k : Nat) (x y : Nat), cloTo E k x y = true → ∃ l : List Nat, (∀ a ∈ l, a < k) ∧ wayB E x l y = true
  | 0, x, y, h => ⟨[], by simp, h⟩
  | k + 1, x, y, h => by
    unfold cloTo at h
    rw [Bool.or_eq_true, Bool.and_eq_true] at h
    rcases h with h | ⟨h1, h2⟩
    · obtain ⟨l, hl, hw⟩ := cloTo_way k x y h
      exact ⟨l, fun a ha => by have := hl a ha; omega, hw⟩
    · obtain ⟨l1, hl1, hw1⟩ := cloTo_way k x k h1
      obtain ⟨l2, hl2, hw2⟩ := cloTo_way k k y h2
      refine ⟨l1 ++ k :: l2, fun a ha => ?_, by rw [wayB_append, hw1, hw2]; rfl⟩
      simp only [List.mem_append, List.mem_cons] at ha
      rcases ha with ha | rfl | ha
      · have := hl1 a ha; omega
      · omega
      · have := hl2 a ha; omega
theorem way_cloTo {E : Edges} : ∀ (k : Nat) (m : Nat) (l : List Nat) (x y : Nat), l.length ≤ m → (∀ a ∈ l, a < k) → wayB E x l y = true → cloTo E k x y = true := by
  intro k
  induction k with
  | zero =>
    intro m l x y _ hl hw
    cases l with
    | nil => exact hw
    | cons a l => exact absurd (hl a (by simp)) (by omega)
  | succ k ihk =>
    intro m
    induction m with
    | zero =>
      intro l x y hm hl hw
      obtain rfl : l = [] := List.eq_nil_of_length_eq_zero (by omega)
      unfold cloTo
      rw [ihk 0 [] x y (by simp) (by simp) hw]
      rfl
    | succ m ihm =>
      intro l x y hm hl hw
      by_cases hk : k ∈ l
      · obtain ⟨a, b, rfl, hka⟩ := split_first hk
        rw [wayB_append, Bool.and_eq_true] at hw
        have h1 := ihk a.length a x k (Nat.le_refl _) (fun c hc => by
          have := hl c (by simp [hc])
          have : c ≠ k := fun e => hka (e ▸ hc)
          omega) hw.1
        have h2 := ihm b k y (by simp at hm; omega) (fun c hc => hl c (by simp [hc])) hw.2
        unfold cloTo at h2 ⊢
        rw [Bool.or_eq_true, Bool.and_eq_true] at h2
        have h3 : cloTo E k k y = true := by rcases h2 with h | h; exact h; exact h.2
        rw [h1, h3]
        simp
      · unfold cloTo
        rw [ihk l.length l x y (Nat.le_refl _) (fun c hc => by
          have := hl c hc
          have : c ≠ k := fun e => hk (e ▸ hc)
          omega) hw]
        rfl
/-- All ways over n nodes. -/
def cloE (n : Nat) (E : Edges) : Edges := cloTo E n
theorem cloE_edge {n : Nat} {E : Edges} {x y : Nat} (h : E x y = true) : cloE n E x y = true := way_cloTo n 0 [] x y (by simp) (by simp) h
theorem cloE_trans {n : Nat} {E : Edges} {x y z : Nat} (hy : y < n) (h1 : cloE n E x y = true) (h2 : cloE n E y z = true) : cloE n E x z = true := by
  obtain ⟨a, ha, wa⟩ := cloTo_way n x y h1
  obtain ⟨b, hb, wb⟩ := cloTo_way n y z h2
  refine way_cloTo n _ (a ++ y :: b) x z (Nat.le_refl _) (fun c hc => ?_) (by rw [wayB_append, wa, wb]; rfl)
  simp only [List.mem_append, List.mem_cons] at hc
  rcases hc with hc | rfl | hc
  · exact ha c hc
  · exact hy
  · exact hb c hc
/-- What rises along each edge rises along each way. -/
theorem cloE_rank {n : Nat} {E : Edges} (f : Nat → Nat) (h : ∀ x y, x < n → y < n → E x y = true → f x < f y) : ∀ (l : List Nat) (x y : Nat), x < n → y < n → (∀ a ∈ l, a < n) → wayB E x l y = true → f x < f y
  | [], x, y, hx, hy, _, hw => h x y hx hy hw
  | a :: l, x, y, hx, hy, hl, hw => by
    have hw' : (E x a && wayB E a l y) = true := hw
    rw [Bool.and_eq_true] at hw'
    have ha := hl a (by simp)
    have h1 := h x a hx ha hw'.1
    have h2 := cloE_rank f h l a y ha hy (fun b hb => hl b (by simp [hb])) hw'.2
    omega
/-- Does some way lead back? -/
def cycB (n : Nat) (E : Edges) : Bool := (List.range n).any fun x => cloE n E x x
theorem cyc_rank {n : Nat} {E : Edges} (f : Nat → Nat) (h : ∀ x y, x < n → y < n → E x y = true → f x < f y) : cycB n E = false := by
  unfold cycB
  rw [List.any_eq_false]
  intro x hx hc
  obtain ⟨l, hl, hw⟩ := cloTo_way n x x hc
  have := cloE_rank f h l x x (List.mem_range.1 hx) (List.mem_range.1 hx) hl hw
  omega
end Go.Inq

namespace Go.Inq

theorem sub_len : ∀ (A B : List Nat), A.Nodup → (∀ x ∈ A, x ∈ B) → A.length ≤ B.length
  | [], _, _, _ => Nat.zero_le _
  | a :: A, B, hn, h => by
    rw [List.nodup_cons] at hn
    have h1 := sub_len A (B.erase a) hn.2 fun x hx => (List.mem_erase_of_ne (fun e : x = a => hn.1 (by rw [← e]; exact hx))).2 (h x (by simp [hx]))
    rw [List.length_erase_of_mem (h a (by simp))] at h1
    have := List.length_pos_of_mem (h a (by simp))
    simp
    omega
theorem nextT_spec {n : Nat} {E : Edges} {l : List Nat} {v : Nat} (h : nextT n E l = some v) : v < n ∧ v ∉ l ∧ ∀ x, x < n → E x v = true → x ∈ l := by
  unfold nextT at h
  have h1 := List.find?_some h
  have h2 := List.mem_of_find?_eq_some h
  simp only [Bool.and_eq_true, Bool.not_eq_true', List.all_eq_true, List.mem_range, Bool.or_eq_true, List.contains_iff_mem] at h1
  refine ⟨by simpa using h2, fun hv => ?_, fun x hx he => ?_⟩
  · have := h1.1
    rw [List.contains_iff_mem.2 hv] at this
    cases this
  · rcases h1.2 x hx with g | g
    · rw [he] at g; cases g
    · exact g
theorem nextT_stuck {n : Nat} {E : Edges} {l : List Nat} (h : nextT n E l = none) {v : Nat} (hv : v < n) (hl : v ∉ l) : ∃ x, x < n ∧ x ∉ l ∧ E x v = true := by
  unfold nextT at h
  rw [List.find?_eq_none] at h
  have h1 := h v (List.mem_range.2 hv)
  have hc : l.contains v = false := by
    rw [Bool.eq_false_iff]; intro e; exact hl (List.contains_iff_mem.1 e)
  rw [hc] at h1
  simp only [Bool.not_false, Bool.true_and, List.all_eq_true, List.mem_range, Classical.not_forall] at h1
  obtain ⟨x, hx, h2⟩ := h1
  simp only [Bool.or_eq_true, Bool.not_eq_true', List.contains_iff_mem, not_or] at h2
  exact ⟨x, hx, h2.2, by simpa using h2.1⟩
/-- What an order's beginning is. -/
structure TopoL (n : Nat) (E : Edges) (l : List Nat) : Prop where
  nd : l.Nodup
  lt : ∀ x ∈ l, x < n
  up : ∀ y ∈ l, ∀ x, x < n → E x y = true → x ∈ l ∧ l.idxOf x < l.idxOf y
theorem orderTo_topo {n : Nat} {E : Edges} : ∀ (k : Nat) (l : List Nat), orderTo n E k = some l → TopoL n E l
  | 0, l, h => by
    unfold orderTo at h
    injection h with h
    subst h
    exact ⟨List.nodup_nil, by simp, by simp⟩
  | k + 1, l, h => by
    unfold orderTo at h
    split at h
    · cases h
    · rename_i l0 h0
      split at h
      · cases h
      · rename_i v hv
        injection h with h
        subst h
        have ih := orderTo_topo k l0 h0
        obtain ⟨h1, h2, h3⟩ := nextT_spec hv
        refine ⟨?_, fun x hx => ?_, fun y hy x hx he => ?_⟩
        · rw [List.nodup_append]
          refine ⟨ih.nd, by simp, fun a ha b hb e => ?_⟩
          simp at hb
          subst hb
          exact h2 (e ▸ ha)
        · rw [List.mem_append, List.mem_singleton] at hx
          rcases hx with hx | rfl
          · exact ih.lt x hx
          · exact h1
        · rw [List.mem_append, List.mem_singleton] at hy
          rcases hy with hy | rfl
          · obtain ⟨g1, g2⟩ := ih.up y hy x hx he
            exact ⟨List.mem_append.2 (.inl g1), by rw [List.idxOf_append, List.idxOf_append, if_pos g1, if_pos hy]; exact g2⟩
          · have g1 := h3 x hx he
            refine ⟨List.mem_append.2 (.inl g1), ?_⟩
            rw [List.idxOf_append, List.idxOf_append, if_pos g1, if_neg h2]
            have := List.idxOf_lt_length_of_mem g1
            omega
theorem orderT_some_cyc {n : Nat} {E : Edges} {o : List Nat} (h : orderT n E = some o) : cycB n E = false := by
  have ht := orderTo_topo n o h
  have hl := orderTo_len h
  have hall : ∀ y, y < n → y ∈ o := fun y hy => by
    refine Classical.byContradiction fun hno => ?_
    have := sub_len (y :: o) (List.range n) (List.nodup_cons.2 ⟨hno, ht.nd⟩) (fun x hx => by
      rw [List.mem_cons] at hx
      rw [List.mem_range]
      rcases hx with rfl | hx
      · exact hy
      · exact ht.lt x hx)
    simp at this
    omega
  exact cyc_rank (fun x => o.idxOf x) fun x y hx hy he => (ht.up y (hall y hy) x hx he).2
/-- Where each of some has one of them ahead, some way leads back. -/
theorem back_cyc {n : Nat} {E : Edges} (R : Nat → Prop) (hR : ∀ v, R v → v < n) (hp : ∀ v, R v → ∃ x, R x ∧ E x v = true) : ∀ (m : Nat) (v : Nat), R v → ((List.range n).filter fun x => cloE n E x v).length ≤ m → cycB n E = true
  | m, v, hv, hm => by
    obtain ⟨x, hx, he⟩ := hp v hv
    by_cases hc : cloE n E x x = true
    · unfold cycB
      rw [List.any_eq_true]
      exact ⟨x, List.mem_range.2 (hR x hx), hc⟩
    · have hlt : ((List.range n).filter fun y => cloE n E y x).length + 1 ≤ ((List.range n).filter fun y => cloE n E y v).length := by
        have := sub_len (x :: (List.range n).filter fun y => cloE n E y x) ((List.range n).filter fun y => cloE n E y v) (List.nodup_cons.2 ⟨fun h => hc (List.mem_filter.1 h).2, List.Pairwise.filter _ List.nodup_range⟩) (fun y hy => by
          rw [List.mem_cons] at hy
          rw [List.mem_filter, List.mem_range]
          rcases hy with rfl | hy
          · exact ⟨hR y hx, cloE_edge he⟩
          · rw [List.mem_filter, List.mem_range] at hy
            exact ⟨hy.1, cloE_trans (hR x hx) hy.2 (cloE_edge he)⟩)
        simpa using this
      match m, hm with
      | 0, hm => omega
      | m + 1, hm => exact back_cyc R hR hp m x hx (by omega)
theorem orderTo_stuck {n : Nat} {E : Edges} : ∀ k, orderTo n E k = none → ∃ j l, j < k ∧ orderTo n E j = some l ∧ nextT n E l = none
  | 0, h => by unfold orderTo at h; cases h
  | k + 1, h => by
    unfold orderTo at h
    split at h
    · rename_i h0
      obtain ⟨j, l, h1, h2⟩ := orderTo_stuck k h0
      exact ⟨j, l, by omega, h2⟩
    · rename_i l0 h0
      split at h
      · rename_i hv
        exact ⟨k, l0, by omega, h0, hv⟩
      · cases h
theorem orderT_none_cyc {n : Nat} {E : Edges} (h : orderT n E = none) : cycB n E = true := by
  obtain ⟨j, l, hj, hl, hx⟩ := orderTo_stuck n h
  have ht := orderTo_topo j l hl
  have hlen := orderTo_len hl
  obtain ⟨v, hv, hvl⟩ : ∃ v, v < n ∧ v ∉ l := by
    refine Classical.byContradiction fun hno => ?_
    have := sub_len (List.range n) l List.nodup_range fun x hx => Classical.byContradiction fun hn => hno ⟨x, List.mem_range.1 hx, hn⟩
    simp at this
    omega
  refine back_cyc (fun u => u < n ∧ u ∉ l) (fun u hu => hu.1) (fun u hu => ?_) _ v ⟨hv, hvl⟩ (Nat.le_refl _)
  obtain ⟨x, h1, h2, h3⟩ := nextT_stuck hx hu.1 hu.2
  exact ⟨x, ⟨h1, h2⟩, h3⟩
/-- An order there is just if no way leads back. -/
theorem orderT_cyc (n : Nat) (E : Edges) : (orderT n E).isSome = !cycB n E := by
  cases h : orderT n E with
  | none => rw [orderT_none_cyc h]; rfl
  | some o => rw [orderT_some_cyc h]; rfl
end Go.Inq

namespace Go.Inq

theorem wwE_mono {l l' : List Cho} (h : ∀ c ∈ l, c ∈ l') {x y : Nat} (he : wwE l x y = true) : wwE l' x y = true := by
  unfold wwE at he ⊢
  rw [List.any_eq_true] at he ⊢
  obtain ⟨c, hc, h2⟩ := he
  exact ⟨c, h c hc, h2⟩
theorem rwE_mono {H : List Txn} {l l' : List Cho} (h : ∀ c ∈ l, c ∈ l') {x y : Nat} (he : rwE H l x y = true) : rwE H l' x y = true := by
  unfold rwE at he ⊢
  rw [Bool.or_eq_true] at he ⊢
  rcases he with he | he
  · exact .inl he
  · rw [List.any_eq_true] at he ⊢
    obtain ⟨c, hc, h2⟩ := he
    exact .inr ⟨c, h c hc, h2⟩
theorem fullE_mono {H : List Txn} {level : Int} {l l' : List Cho} (h : ∀ c ∈ l, c ∈ l') {x y : Nat} (he : fullE H level l x y = true) : fullE H level l' x y = true := by
  have hd : ∀ a b, orE (pastE H) (wwE l) a b = true → orE (pastE H) (wwE l') a b = true := fun a b g => by
    unfold orE at g ⊢
    rw [Bool.or_eq_true] at g ⊢
    exact g.imp id (wwE_mono h)
  show (orE (pastE H) (wwE l') x y || (if level = 1 then thenE H.length (orE (pastE H) (wwE l')) (rwE H l') else rwE H l') x y) = true
  have he' : (orE (pastE H) (wwE l) x y || (if level = 1 then thenE H.length (orE (pastE H) (wwE l)) (rwE H l) else rwE H l) x y) = true := he
  rw [Bool.or_eq_true] at he' ⊢
  rcases he' with g | g
  · exact .inl (hd x y g)
  · right
    by_cases hl : level = 1
    · rw [if_pos hl] at g ⊢
      unfold thenE at g ⊢
      rw [List.any_eq_true] at g ⊢
      obtain ⟨b, hb, h2⟩ := g
      rw [Bool.and_eq_true] at h2
      exact ⟨b, hb, by rw [hd x b h2.1, rwE_mono h h2.2]; rfl⟩
    · rw [if_neg hl] at g ⊢
      exact rwE_mono h g
theorem wayB_mono {E F : Edges} (h : ∀ x y, E x y = true → F x y = true) : ∀ (l : List Nat) (x y : Nat), wayB E x l y = true → wayB F x l y = true
  | [], x, y, hw => h x y hw
  | a :: l, x, y, hw => by
    have hw' : (E x a && wayB E a l y) = true := hw
    rw [Bool.and_eq_true] at hw'
    show (F x a && wayB F a l y) = true
    rw [h x a hw'.1, wayB_mono h l a y hw'.2]
    rfl
theorem cyc_mono {n : Nat} {E F : Edges} (h : ∀ x y, E x y = true → F x y = true) (hc : cycB n E = true) : cycB n F = true := by
  unfold cycB at hc ⊢
  rw [List.any_eq_true] at hc ⊢
  obtain ⟨x, hx, h2⟩ := hc
  obtain ⟨l, hl, hw⟩ := cloTo_way n x x h2
  exact ⟨x, hx, way_cloTo n l.length l x x (Nat.le_refl _) hl (wayB_mono h l x x hw)⟩
/-- Does nothing lead back? -/
def goodB (H : List Txn) (level : Int) (l : List Cho) : Bool := !cycB H.length (fullE H level l)
theorem good_less {H : List Txn} {level : Int} {l l' : List Cho} (h : ∀ c ∈ l, c ∈ l') (hg : goodB H level l' = true) : goodB H level l = true := by
  unfold goodB at hg ⊢
  rw [Bool.not_eq_true'] at hg ⊢
  rw [← Bool.not_eq_true] at hg ⊢
  exact fun hc => hg (cyc_mono (fun x y => fullE_mono h) hc)
theorem good_order (H : List Txn) (level : Int) (l : List Cho) : (orderT H.length (fullE H level l)).isSome = goodB H level l := orderT_cyc _ _
end Go.Inq

namespace Go.Proofs.YtjomijnbnbideaaGreatDoor
open Go.RowKit Go.Inq
set_option maxHeartbeats 1000000
attribute [local go_sem ↓] Go.wp_at_zero Go.wp_at_succ

theorem testBit_div (s i : Nat) : decide (s / 2 ^ i % 2 = 1) = s.testBit i := by
  rw [Nat.testBit_eq_decide_div_mod_eq]
theorem pow_63 {i : Nat} (h : i ≤ 63) : 2 ^ i ≤ 9223372036854775808 := by
  have := Nat.pow_le_pow_right (n := 2) (by decide) h
  simpa using this
theorem with_add {s i : Nat} (hs : s < 18446744073709551616) (hi : i ≤ 63) (h : s.testBit i = false) : s + 2 ^ i = s ||| 2 ^ i := by
  have hp := pow_63 hi
  have hand : BitVec.ofNat 65 s &&& BitVec.ofNat 65 (2 ^ i) = 0#65 := by
    refine BitVec.eq_of_toNat_eq ?_
    rw [BitVec.toNat_and, BitVec.toNat_ofNat, BitVec.toNat_ofNat, Nat.mod_eq_of_lt (by omega), Nat.mod_eq_of_lt (by omega)]
    refine Nat.eq_of_testBit_eq fun j => ?_
    rw [Nat.testBit_and, Nat.testBit_two_pow]
    by_cases e : i = j
    · subst e; simp [h]
    · simp [e]
  have h1 := congrArg BitVec.toNat (BitVec.add_eq_or_of_and_eq_zero _ _ hand)
  have e1 : (BitVec.ofNat 65 s).toNat = s := by rw [BitVec.toNat_ofNat]; exact Nat.mod_eq_of_lt (by omega)
  have e2 : (BitVec.ofNat 65 (2 ^ i)).toNat = 2 ^ i := by rw [BitVec.toNat_ofNat]; exact Nat.mod_eq_of_lt (by omega)
  rw [BitVec.toNat_add, BitVec.toNat_or, e1, e2, Nat.mod_eq_of_lt (by omega)] at h1
  exact h1
/-- A power of two. -/
def pow2 (n : Nat) : Nat := 2 ^ n
theorem rin10_any (i : Int) (w : World) : Calls Tryz.prog 217 #[.int .i64 i] w fun e w' => e = .returned (.bool (decide (0 ≤ i) && decide (i ≤ 63))) ∧ w = w' := by
  by_cases h0 : 0 ≤ i
  · have h1 : decide (i ≥ 0) = true := by simpa using h0
    have h2 : decide (0 ≤ i) = true := by simpa using h0
    go_enter Tryz.func217, Tryz.ntmps217
    go_wp2
    go_ret
    exact ⟨by simp [h2], rfl⟩
  · have h1 : decide (i ≥ 0) = false := by simpa using h0
    have h2 : decide (0 ≤ i) = false := by simpa using h0
    clear h0
    go_enter Tryz.func217, Tryz.ntmps217
    go_wp2
    go_ret
    exact ⟨by simp [h2], rfl⟩
theorem rpow10_any (n : Nat) (hn : n ≤ 63) (w : World) : Calls Tryz.prog 218 #[.int .i64 (n : Int)] w fun e w' => e = .returned (.int .u64 (pow2 n : Nat)) ∧ w = w' := by
  go_enter Tryz.func218, Tryz.ntmps218
  go_wp2
  go_loop [3, 4] (fun s3 s4 => ∃ k : Nat, k ≤ n ∧ s4 = .int .i64 k ∧ ∃ x : Nat, s3 = .int .u64 x ∧ Hid (x = pow2 k)) (fun _ s4 => n - (intOf s4).toNat)
  case atStart => exact ⟨0, Nat.zero_le _, by go_num, 1, by go_num, hide rfl⟩
  case round =>
    obtain ⟨k, hk, rfl, x, rfl, hx⟩ := hrel
    have hk1 : (0 : Int) ≤ (k : Int) := Int.natCast_nonneg _
    by_cases hlt : k < n
    · have hx2 : x ≤ 9223372036854775807 := by
        rw [hx.out]
        unfold pow2
        have := Nat.pow_lt_pow_right (a := 2) (by decide) (show k < 63 by omega)
        have h63 : (2 : Nat) ^ 63 = 9223372036854775808 := by decide
        omega
      have hxs : Hid (x + x = pow2 (k + 1)) := hide (by rw [hx.out]; unfold pow2; rw [Nat.pow_succ]; omega)
      replace hx := hide hx
      have hwr : IntKind.u64.wrap ((x : Int) + (x : Int)) = ((x + x : Nat) : Int) := by rw [IntKind.wrap_u64]; omega
      go_wp2
      go_round
      case rel => exact ⟨k + 1, by omega, by go_num, x + x, by go_num, hxs⟩
      case measure => simp [intOf]; omega
    · obtain rfl : k = n := by omega
      go_wp2
      go_ret
      exact ⟨by rw [hx.out]; rfl, rfl⟩
theorem rhas10_any (s : Nat) (hs : s < 18446744073709551616) (i : Int) (w : World) : Calls Tryz.prog 186 #[.int .u64 s, .int .i64 i] w fun e w' => e = .returned (.bool (hasB s i)) ∧ w = w' := by
  by_cases hi : 0 ≤ i ∧ i ≤ 63
  · obtain ⟨n, rfl⟩ : ∃ n : Nat, i = n := ⟨i.toNat, by omega⟩
    have hn : n ≤ 63 := by omega
    have hb : (decide ((0 : Int) ≤ (n : Int)) && decide ((n : Int) ≤ 63)) = true := by simp; omega
    have hr := hide (hasB_nat s n)
    have hq := hide (testBit_div s n)
    clear hi
    go_enter Tryz.func186, Tryz.ntmps186
    go_wp2_with fail
    refine (rin10_any (n : Int) _).mono ?_
    rw [hb]
    rintro e w1 ⟨rfl, rfl⟩
    go_wp2_with fail
    refine (rpow10_any n hn _).mono ?_
    rintro e w1 ⟨rfl, rfl⟩
    have hp : Hid (pow2 n = 2 ^ n) := hide rfl
    have hp0 : 0 < pow2 n := Nat.two_pow_pos n
    generalize pow2 n = p at *
    have hp1 : ((p : Int) == 0) = false := by rw [beq_eq_false_iff_ne]; omega
    have hw : Hid (IntKind.u64.wrap ((s : Int) / (p : Int)) = ((s / p : Nat) : Int)) := hide (by
      have h1 : s / p ≤ s := Nat.div_le_self _ _
      have e : (s : Int) / (p : Int) = ((s / p : Nat) : Int) := (Int.natCast_ediv s p).symm
      rw [e]
      generalize s / p = q at *
      rw [IntKind.wrap_u64]
      omega)
    go_wp2
    go_ret
    refine ⟨ret_bool ?_, rfl⟩
    rw [hr.out, ← hq.out, ← hp.out, hw.out]
    generalize s / p = q
    rw [Int.tmod_eq_emod_of_nonneg (Int.natCast_nonneg _), Bool.eq_iff_iff]
    simp
    omega
  · have hb : (decide (0 ≤ i) && decide (i ≤ 63)) = false := by
      rw [Bool.and_eq_false_iff]
      simp
      omega
    have hr : Hid (hasB s i = false) := hide (by
      unfold hasB
      by_cases h0 : 0 ≤ i
      · rw [Nat.testBit_lt_two_pow (Nat.lt_of_lt_of_le hs (by
          have : (2 : Nat) ^ 64 ≤ 2 ^ i.toNat := Nat.pow_le_pow_right (by decide) (by omega)
          omega))]
        simp
      · simp [h0])
    clear hi
    go_enter Tryz.func186, Tryz.ntmps186
    go_wp2_with fail
    refine (rin10_any i _).mono ?_
    rw [hb]
    rintro e w1 ⟨rfl, rfl⟩
    go_wp2
    go_ret
    exact ⟨by rw [hr.out]; rfl, rfl⟩
theorem rwith10_any (s : Nat) (hs : s < 18446744073709551616) (i : Int) (w : World) : Calls Tryz.prog 181 #[.int .u64 s, .int .i64 i] w fun e w' => e = .returned (.int .u64 (withB s i : Nat)) ∧ w = w' := by
  cases hh : hasB s i with
  | true =>
    have hr : Hid (withB s i = s) := hide (by
      unfold hasB at hh
      rw [Bool.and_eq_true, decide_eq_true_eq] at hh
      unfold withB bitN
      by_cases h : i < 64
      · rw [if_pos ⟨hh.1, h⟩]
        refine Nat.eq_of_testBit_eq fun j => ?_
        rw [Nat.testBit_or, Nat.testBit_two_pow]
        by_cases e : i.toNat = j
        · subst e; simp [hh.2]
        · simp [e]
      · rw [if_neg (by omega), Nat.or_zero])
    have hc := hide (rhas10_any s hs i)
    rw [hh] at hc
    replace hh := hide hh
    go_enter Tryz.func181, Tryz.ntmps181
    go_wp2_with fail
    refine (hc.out _).mono ?_
    rintro e w1 ⟨rfl, rfl⟩
    go_wp2
    go_ret
    exact ⟨by rw [hr.out]; rfl, rfl⟩
  | false =>
    have hc := hide (rhas10_any s hs i)
    rw [hh] at hc
    by_cases hi : 0 ≤ i ∧ i ≤ 63
    · obtain ⟨n, rfl⟩ : ∃ n : Nat, i = n := ⟨i.toNat, by omega⟩
      have hn : n ≤ 63 := by omega
      have hb : (decide ((0 : Int) ≤ (n : Int)) && decide ((n : Int) ≤ 63)) = true := by simp; omega
      have hbit : s.testBit n = false := by rw [← hasB_nat]; exact hh
      have hadd := with_add hs hn hbit
      have hr : Hid (withB s (n : Int) = s + pow2 n) := hide (by unfold withB; rw [bitN_in (by omega) (by omega), Int.toNat_natCast, ← hadd]; rfl)
      have hlt : s + pow2 n < 18446744073709551616 := by rw [← hr.out]; exact withB_lt hs _
      replace hadd := hide hadd
      clear hi hh hbit
      go_enter Tryz.func181, Tryz.ntmps181
      go_wp2_with fail
      refine (hc.out _).mono ?_
      rintro e w1 ⟨rfl, rfl⟩
      go_wp2_with fail
      refine (rin10_any (n : Int) _).mono ?_
      rw [hb]
      rintro e w1 ⟨rfl, rfl⟩
      go_wp2_with fail
      refine (rpow10_any n hn _).mono ?_
      rintro e w1 ⟨rfl, rfl⟩
      generalize pow2 n = p at *
      have hw : IntKind.u64.wrap ((s : Int) + (p : Int)) = ((s + p : Nat) : Int) := by rw [IntKind.wrap_u64]; omega
      go_wp2
      go_ret
      exact ⟨by rw [hr.out]; first | rfl | simp, rfl⟩
    · have hb : (decide (0 ≤ i) && decide (i ≤ 63)) = false := by
        rw [Bool.and_eq_false_iff]
        simp
        omega
      have hr : Hid (withB s i = s) := hide (by unfold withB bitN; rw [if_neg (by omega), Nat.or_zero])
      clear hi hh
      go_enter Tryz.func181, Tryz.ntmps181
      go_wp2_with fail
      refine (hc.out _).mono ?_
      rintro e w1 ⟨rfl, rfl⟩
      go_wp2_with fail
      refine (rin10_any i _).mono ?_
      rw [hb]
      rintro e w1 ⟨rfl, rfl⟩
      go_wp2
      go_ret
      exact ⟨by rw [hr.out]; rfl, rfl⟩
end Go.Proofs.YtjomijnbnbideaaGreatDoor

namespace Go.Proofs.YtjomijnbnbideaaGreatDoor
open Go.RowKit Go.Inq
set_option maxHeartbeats 4000000
attribute [local go_sem ↓] Go.wp_at_zero Go.wp_at_succ

/-- A row of sets that grows. -/
def OwnU (w : World) (base : Nat) (v : Value) (l : List Nat) : Prop := w.ownsRow base 145 1 v l.length (l.map encU).flatten
theorem encU_one12 (x : Nat) : ∀ u ∈ encU x, u.oneCell' = true := by intro u hu; simp [encU] at hu; subst hu; rfl
theorem OwnU.form {w : World} {base : Nat} {v : Value} {l : List Nat} (h : OwnU w base v l) : ∃ A c, v = .slice A l.length c := own_slice h
/-- A reference's graph: rows of the call's own, with room perhaps. -/
def RG (W : World) (base n : Nat) (E : Edges) (v : Value) : Prop :=
  (n = 0 ∧ v = .slice none 0 0) ∨ ∃ g cap cur, v = .slice (some ⟨g, 0, none⟩) n cap ∧ base ≤ g ∧ Blk W g 145 cur ∧ n ≤ cap ∧ cap ≤ maxLen ∧ cur.size = cap ∧ ∀ i, i < n → cur[i]? = some (.int .u64 (setB (E i) n : Nat))
theorem RG.of_own {W : World} {base n : Nat} {E : Edges} {v : Value} (h : OwnU W base v (rowsG n E)) : RG W base n E v := by
  obtain ⟨h1, h2⟩ := h
  rw [rowsG_length] at h2
  rcases h2 with ⟨h3, h4⟩ | ⟨g, cap, cur, h3, h4, h5, h6, h7, h8, h9⟩
  · exact .inl ⟨h4, h3⟩
  · refine .inr ⟨g, cap, cur, h3, h4, h5, h6, h7, by rw [h8]; simp, fun i hi => ?_⟩
    have h10 : (cur.toList.take (n * 1))[i]? = some (.int .u64 (setB (E i) n : Nat)) := by
      rw [h9]
      have : ∀ l : List Nat, (l.map encU).flatten = l.map fun x : Nat => Value.int .u64 x := fun l => by
        induction l with
        | nil => rfl
        | cons a l ih => simp [encU] at ih ⊢; exact ih
      rw [this, List.getElem?_map, List.getElem?_eq_getElem (by rw [rowsG_length]; exact hi), rowsG_at hi]
      rfl
    rw [List.getElem?_take] at h10
    split at h10
    · simpa using h10
    · cases h10
theorem rowsG_no (n : Nat) : rowsG n noE = List.replicate n 0 := by
  unfold rowsG
  rw [List.eq_replicate_iff]
  refine ⟨by simp, fun x hx => ?_⟩
  obtain ⟨a, _, rfl⟩ := List.mem_map.1 hx
  refine Nat.eq_of_testBit_eq fun j => ?_
  rw [testBit_setB]
  simp [noE]
/-- What New tells: a graph with no edge, in memory of its own. -/
def OutR (w : World) (n : Nat) (E : Edges) (e : Ending) (w' : World) : Prop := ∃ v, e = .returned (.agg #[.int .i64 n, v]) ∧ RG w' w.heap.size n E v ∧ Below w.heap.size w w'
set_option maxRecDepth 100000 in
theorem rnew12_any (n : Nat) (hn : n ≤ 64) (w : World) : Calls Tryz.prog 180 #[.int .i64 (n : Int)] w (OutR w n noE) := by
  obtain ⟨iu, hiu, hi1, hi2, hi3⟩ := info_parts infoU12
  go_enter Tryz.func180, Tryz.ntmps180
  go_upto_region 2 with fail
  obtain ⟨W0, hW0⟩ : ∃ W0, (w.alloc (.cells #[.int .i64 0, .slice none 0 0] 124)).alloc (.cells #[.int .i64 n, .slice none 0 0] 124) = W0 := ⟨_, rfl⟩
  have hb := below_two hW0
  have k1 := Blk.two1 hW0
  have k2 := Blk.two2 hW0
  have s0 := size_two hW0
  rw [hW0]
  clear hW0
  replace s0 := hide s0
  go_wp2_with fail
  go_loopw [4] (fun s4 wr => ∃ k : Nat, k ≤ n ∧ s4 = .int .i64 k ∧ ∃ v, Blk wr w.heap.size 124 #[.int .i64 0, .slice none 0 0] ∧ Blk wr (w.heap.size + 1) 124 #[.int .i64 n, v] ∧ OwnU wr (w.heap.size + 2) v (List.replicate k 0) ∧ Below w.heap.size w wr) (fun s4 _ => n - (intOf s4).toNat)
  case atStart => exact ⟨0, Nat.zero_le _, by go_num, _, k1, k2, World.ownsRow_nil _ _ _ _, hb⟩
  case round =>
    obtain ⟨k, hk, rfl, v, m1, m2, hown, hbr⟩ := hrel
    obtain ⟨Wr, rfl⟩ : ∃ Wr, Wr = wr := ⟨_, rfl⟩
    have hk1 : (0 : Int) ≤ (k : Int) := Int.natCast_nonneg _
    obtain ⟨A, c, rfl⟩ := OwnU.form hown
    have c0 := m2.cell 0
    have c1 := m2.cell 1
    have f1 := m2.frozen 1
    have m2l := m2.lt
    simp only [List.getElem?_toArray, List.getElem?_cons_zero, List.getElem?_cons_succ] at c0 c1
    by_cases hlt : k < n
    · have hki : (k : Int) < (n : Int) := by omega
      have hll : (List.replicate k 0).length = k := List.length_replicate
      have hkD : (List.replicate k (0 : Nat)).length + 1 ≤ maxLen := by unfold maxLen; simp; omega
      have hkb : ((List.replicate k (0 : Nat)).length + 1) * 8 ≤ 140737488355328 := by simp; omega
      have hsn : Hid (List.replicate k (0 : Nat) ++ [0] = List.replicate (k + 1) 0) := hide (by rw [List.replicate_succ'])
      clear hll
      generalize List.replicate k (0 : Nat) = D at *
      have hsz : w.heap.size + 2 ≤ Wr.heap.size := by omega
      have hfar : ∀ g, (Value.slice A D.length c).ownBlock = some g → w.heap.size + 2 ≤ g := fun g hg => (hown.lt g hg).1
      replace hown := hide hown
      replace hfar := hide hfar
      go_upto_region 5 with fail
      go_wp2_with (at_builtin; go_loud (refine wpList_push (enc := encU) rfl (.tmp 13) (.tmp 14) 54 rfl (w.heap.size + 2) 145 iu _ 1 8 Tryz.underlying54 hiu hi1 hi2 hi3 rfl (by decide) (.slice A D.length c) D rfl hown.out (fun _ => rfl) 0 _ rfl rfl encU_one12 hkD hkb hsz w w.heap.size (by omega) hbr ?_); intro v1 w6 hown1 hg1 hb1 hat1; have j1 := (m1.alloc (.cells #[.int .u64 0] 145)).grown hg1 (fun e => by have := hfar.out _ e.symm; omega); have j2 := (m2.alloc (.cells #[.int .u64 0] 145)).grown hg1 (fun e => by have := hfar.out _ e.symm; omega); have d1 := j2.cell 1; have g1 := j2.frozen 1; simp only [List.getElem?_toArray, List.getElem?_cons_zero, List.getElem?_cons_succ] at d1; obtain ⟨A6, c6, rfl⟩ := OwnU.form hown1)
      go_roundw
      case rel =>
        refine ⟨k + 1, by omega, by go_num, .slice A6 (D ++ [0]).length c6, j1.far (p := ⟨w.heap.size + 1, 1, none⟩) (show w.heap.size ≠ w.heap.size + 1 by omega) _, ?_, ?_, hb1.setCell (p := ⟨w.heap.size + 1, 1, none⟩) (by simp) _⟩
        · have := j2.set_ 1 (.slice A6 (D ++ [0]).length c6)
          simpa using this
        · rw [← hsn.out]
          exact own_setCell hown1 (p := ⟨w.heap.size + 1, 1, none⟩) (fun e => by have h := (World.ownsRow.lt hown1 (w.heap.size + 1) e).1; omega) _
      case measure => simp [intOf]; omega
    · obtain rfl : k = n := by omega
      have d0 := m1.cell 0
      have d1 := m1.cell 1
      have g0 := m1.frozen 0
      have g1 := m1.frozen 1
      simp only [List.getElem?_toArray, List.getElem?_cons_zero, List.getElem?_cons_succ] at d0 d1
      rw [List.length_replicate] at hown
      have hlr : (List.replicate k (0 : Nat)).length = k := List.length_replicate
      have hq := (m1.set_ 0 (.int .i64 k)).set_ 1 (.slice A k c)
      simp only [List.setIfInBounds_toArray, List.set_cons_zero, List.set_cons_succ] at hq
      have y0 := hq.cell 0
      have y1 := hq.cell 1
      simp only [List.getElem?_toArray, List.getElem?_cons_zero, List.getElem?_cons_succ] at y0 y1
      have hO : Hid (OwnU Wr (w.heap.size + 2) (.slice A k c) (rowsG k noE)) := hide (by rw [rowsG_no]; exact hown)
      replace hlr := hide hlr
      go_wp2_with fail
      refine bodyPost_ret (v := .agg #[.int .i64 k, .slice A k c]) (by simp [results, Tryz.results180, go_sem, y0, y1]) rfl ⟨_, rfl, RG.of_own ?_, (hbr.setCell (p := ⟨w.heap.size, 0, none⟩) (by simp) _).setCell (p := ⟨w.heap.size, 1, none⟩) (by simp) _⟩
      have h1 := own_setCell (own_setCell hO.out (p := ⟨w.heap.size, 0, none⟩) (fun e => by have h := (hO.out.lt _ e).1; dsimp only at h; omega) (.int .i64 k)) (p := ⟨w.heap.size, 1, none⟩) (fun e => by have h := (hO.out.lt _ e).1; dsimp only at h; omega) (.slice A k c)
      exact own_base' h1 (by omega)
theorem hasB_setB {p : Nat → Bool} {n b : Nat} (hb : b < n) : hasB (setB p n) (b : Int) = p b := by
  rw [hasB_nat, testBit_setB]; simp [hb]
theorem RG.gr {W : World} {base n : Nat} {E : Edges} {v : Value} (h : RG W base n E v) (hn : n ≤ 64) {K : Nat → Prop} (hK : ∀ g, base ≤ g → g < W.heap.size → K g) : ∃ A c, v = .slice A n c ∧ GrS W K n A c E := by
  rcases h with ⟨h1, rfl⟩ | ⟨g, cap, cur, rfl, h2, h3, h4, h5, h6, h7⟩
  · subst h1
    exact ⟨none, 0, rfl, GrS.zero _ _ _ _ _⟩
  · refine ⟨_, cap, rfl, ⟨?_, hn⟩⟩
    refine ⟨some ⟨g, 0, none⟩, cap, (rowsG n E).map encU, by rw [rowsG_length], by rw [rowsG_length]; exact h4, by simp, fun i cs x g1 g2 => ?_, fun _ => ⟨g, 0, rfl, hK g h2 h3.lt, fun i j cs u g1 g2 => ?_⟩⟩
    · rw [List.getElem?_map, g2] at g1
      injection g1 with g1
      exact ⟨by rw [← g1]; rfl, g1.symm⟩
    · rw [List.getElem?_map] at g1
      cases hx : (rowsG n E)[i]? with
      | none => rw [hx] at g1; cases g1
      | some x =>
        rw [hx] at g1
        injection g1 with g1
        subst g1
        obtain ⟨hi, he⟩ := List.getElem?_eq_some_iff.1 hx
        have hi' : i < n := by rw [rowsG_length] at hi; exact hi
        rw [rowsG_at hi'] at he
        cases j with
        | succ j => simp [encU] at g2
        | zero =>
          simp [encU] at g2
          subst g2
          have := (h3.cell i).trans (h7 i hi')
          rw [he] at this
          simpa using this
/-- One more edge, by a store. -/
theorem RG.add {W : World} {base n : Nat} {E : Edges} {g cap : Nat} (h : RG W base n E (.slice (some ⟨g, 0, none⟩) n cap)) {x y : Nat} (hx : x < n) (hy : y < n) (hn : n ≤ 64) :
    RG (W.setCell ⟨g, x, none⟩ (.int .u64 (withB (setB (E x) n) (y : Int) : Nat))) base n (orE E (oneE x y)) (.slice (some ⟨g, 0, none⟩) n cap) := by
  rcases h with ⟨h1, h2⟩ | ⟨g', cap', cur, h1, h2, h3, h4, h5, h6, h7⟩
  · cases h2
  · simp only [Value.slice.injEq, Option.some.injEq, Addr.mk.injEq, and_true, true_and] at h1
    obtain ⟨rfl, rfl⟩ := h1
    refine .inr ⟨g, cap, _, rfl, h2, h3.set_ x _, h4, h5, by simp [h6], fun i hi => ?_⟩
    rw [setB_with hy hn]
    by_cases e : i = x
    · subst e
      rw [Array.getElem?_setIfInBounds_self_of_lt (by omega)]
      congr 3
      refine setB_congr fun b hb => ?_
      simp [orE, oneE]
    · rw [Array.getElem?_setIfInBounds_ne (by omega), h7 i hi]
      congr 3
      refine setB_congr fun b hb => ?_
      simp [orE, oneE, e]
set_option maxRecDepth 100000 in
theorem rhas12_any (n : Nat) (A : Option Addr) (c : Nat) (E : Edges) (a b : Nat) (K : Nat → Prop) (w : World) (h : GrS w K n A c E) (hK : ∀ b, K b → b < w.heap.size) (ha : a < n) (hb : b < n) :
    Calls Tryz.prog 130 #[.agg #[.int .i64 n, .slice A n c], .int .i64 (a : Int), .int .i64 (b : Int)] w fun e w' => e = .returned (.bool (E a b)) ∧ Below w.heap.size w w' := by
  have hn64 := h.n64
  obtain ⟨g, off, rfl, hg, hc⟩ := h.at_ ha
  have hgl := hK _ hg
  have hB : Below w.heap.size w (w.alloc (.cells #[.int .i64 n, .slice (some ⟨g, off, none⟩) n c] 124)) := (Below.refl _ _).alloc (Nat.le_refl _) _
  have hc2 := (hB.cell (p := ⟨g, off + a, none⟩) hgl).trans hc
  have hai : (a : Int) < (n : Int) := by omega
  have ha0 : (0 : Int) ≤ (a : Int) := Int.natCast_nonneg _
  have hr := hide (hasB_setB (p := E a) hb)
  have hs := setB_64 (p := E a) hn64
  generalize setB (E a) n = x at *
  clear h
  replace hB := hide hB
  go_enter Tryz.func130, Tryz.ntmps130
  go_wp2_with fail
  refine (rhas10_any x hs (b : Int) _).mono ?_
  rw [hr.out]
  rintro e w1 ⟨rfl, rfl⟩
  go_wp2
  go_ret
  exact ⟨rfl, hB.out⟩
end Go.Proofs.YtjomijnbnbideaaGreatDoor

namespace Go.Proofs.YtjomijnbnbideaaGreatDoor
open Go.RowKit Go.Inq
set_option maxHeartbeats 4000000
attribute [local go_sem ↓] Go.wp_at_zero Go.wp_at_succ

theorem hasB_beyond {p : Nat → Bool} {n b : Nat} (hb : n ≤ b) : hasB (setB p n) (b : Int) = false := by
  rw [hasB_nat, testBit_setB]; simp; omega
set_option maxRecDepth 100000 in
theorem rright12_any (n : Nat) (A : Option Addr) (c : Nat) (E : Edges) (K : Nat → Prop) (w : World) (h : GrS w K n A c E) (hK : ∀ b, K b → b < w.heap.size) :
    Calls Tryz.prog 128 #[.agg #[.int .i64 n, .slice A n c]] w fun e w' => e = .returned (.bool true) ∧ Below w.heap.size w w' := by
  have hn64 := h.n64
  have hB : Below w.heap.size w (w.alloc (.cells #[.int .i64 n, .slice A n c] 124)) := (Below.refl _ _).alloc (Nat.le_refl _) _
  have kG := Blk.new w 124 #[.int .i64 n, .slice A n c]
  have hg := hide (h.keep (Agree.below hB hK) (fun b hb => hb))
  have h0 : decide ((n : Int) < 0) = false := by simp
  have h1 : decide ((n : Int) > 64) = false := by simp; omega
  clear h
  go_enter Tryz.func128, Tryz.ntmps128
  go_upto_region 1 with fail
  generalize w.alloc (.cells #[.int .i64 n, .slice A n c] 124) = W at *
  have c0 := kG.cell 0
  have c1 := kG.cell 1
  simp only [List.getElem?_toArray, List.getElem?_cons_zero, List.getElem?_cons_succ] at c0 c1
  replace hB := hide hB
  clear kG
  go_wp2_with fail
  go_loop [3] (fun s3 => ∃ i : Nat, i ≤ n ∧ s3 = .int .i64 i) (fun s3 => n - (intOf s3).toNat)
  case atStart => exact ⟨0, Nat.zero_le _, by go_num⟩
  case round =>
    obtain ⟨i, hi, rfl⟩ := hrel
    have hi1 : (0 : Int) ≤ (i : Int) := Int.natCast_nonneg _
    by_cases hlt : i < n
    · have hi2 : (i : Int) < (n : Int) := by omega
      obtain ⟨g, off, rfl, hgk, hc⟩ := hg.out.at_ hlt
      have hs := setB_64 (p := E i) hn64
      have hbe := hide (fun b hb => hasB_beyond (p := E i) (n := n) (b := b) hb)
      generalize setB (E i) n = x at *
      go_wp2_with fail
      go_loop [4] (fun s4 => ∃ k : Nat, n ≤ k ∧ k ≤ 64 ∧ s4 = .int .i64 k) (fun s4 => 64 - (intOf s4).toNat)
      case atStart => exact ⟨n, Nat.le_refl _, hn64, rfl⟩
      case round =>
        obtain ⟨k, hk, hk64, rfl⟩ := hrel
        have hk1 : (0 : Int) ≤ (k : Int) := Int.natCast_nonneg _
        by_cases hkl : k < 64
        · have hk2 : decide ((k : Int) < 64) = true := by simp; omega
          have hf := hide (hbe.out k hk)
          go_wp2_with fail
          refine (rhas10_any x hs (k : Int) _).mono ?_
          rw [hf.out]
          rintro e w1 ⟨rfl, rfl⟩
          go_wp2
          go_round
          case rel => exact ⟨k + 1, by omega, by omega, by go_num⟩
          case measure => simp [intOf]; omega
        · have hk2 : decide ((k : Int) < 64) = false := by simp; omega
          go_wp2
          go_round
          case rel => exact ⟨i + 1, by omega, by go_num⟩
          case measure => simp [intOf]; omega
    · obtain rfl : i = n := by omega
      go_wp2
      go_ret
      exact ⟨rfl, hB.out⟩
end Go.Proofs.YtjomijnbnbideaaGreatDoor

namespace Go.Proofs.YtjomijnbnbideaaGreatDoor
open Go.RowKit Go.Inq

theorem below_drew {B : Nat} {w w1 : World} (h : Below B w w1) : Below B w w1.drew := h.trans ⟨rfl, rfl, rfl, Nat.le_refl _, fun _ _ => rfl⟩
theorem RG.keep {W W' : World} {B n : Nat} {E : Edges} {v : Value} (h : RG W B n E v) (hk : ∀ g, B ≤ g → g < W.heap.size → W'.heap[g]? = W.heap[g]?) : RG W' B n E v := by
  rcases h with h | ⟨g, cap, cur, h1, h2, h3, r⟩
  · exact .inl h
  · exact .inr ⟨g, cap, cur, h1, h2, (hk g h2 h3.lt).trans h3, r⟩
theorem RG.below {W W' : World} {B B' n : Nat} {E : Edges} {v : Value} (h : RG W B n E v) (hb : Below B' W W') (hB : W.heap.size ≤ B') : RG W' B n E v := h.keep fun g _ hg => hb.block g (by omega)
theorem RG.alloc {W : World} {B n : Nat} {E : Edges} {v : Value} (h : RG W B n E v) (o : Obj) : RG (W.alloc o) B n E v := h.keep fun g _ hg => Below.heap_alloc W o g hg
theorem RG.far {W : World} {B n : Nat} {E : Edges} {v : Value} (h : RG W B n E v) {p : Addr} (hp : p.block < B) (u : Value) : RG (W.setCell p u) B n E v := h.keep fun g hg _ => Below.heap_setCell W p u g (by omega)
theorem RG.drew {W : World} {B n : Nat} {E : Edges} {v : Value} (h : RG W B n E v) : RG W.drew B n E v := h.keep fun _ _ _ => rfl
theorem RG.base {W : World} {B B' n : Nat} {E : Edges} {v : Value} (h : RG W B n E v) (hB : B' ≤ B) : RG W B' n E v := by
  rcases h with h | ⟨g, cap, cur, h1, h2, r⟩
  · exact .inl h
  · exact .inr ⟨g, cap, cur, h1, by omega, r⟩
theorem RG.congr {W : World} {base n : Nat} {E F : Edges} {v : Value} (h : RG W base n E v) (hE : ∀ a b, a < n → b < n → E a b = F a b) : RG W base n F v := by
  rcases h with h | ⟨g, cap, cur, h1, h2, h3, h4, h5, h6, h7⟩
  · exact .inl h
  · exact .inr ⟨g, cap, cur, h1, h2, h3, h4, h5, h6, fun i hi => by rw [h7 i hi]; congr 3; exact setB_congr fun b hb => hE i b hi hb⟩

/-- A variable p that holds a graph: its rows are the call's own, from B on, and made ahead of p. -/
structure RGP (W : World) (B p n : Nat) (E : Edges) (A : Option Addr) (c : Nat) : Prop where
  box : Blk W p 124 #[.int .i64 n, .slice A n c]
  rg : RG W B n E (.slice A n c)
  lt : ∀ g, A = some g → g.block < p
  n64 : n ≤ 64
section
variable {W W' : World} {B p n : Nat} {E F : Edges} {A : Option Addr} {c : Nat}
theorem RGP.plt (h : RGP W B p n E A c) : p < W.heap.size := h.box.lt
theorem RGP.c0 (h : RGP W B p n E A c) : W.cell? ⟨p, 0, none⟩ = some (.int .i64 n) := by simpa using h.box.cell 0
theorem RGP.c1 (h : RGP W B p n E A c) : W.cell? ⟨p, 1, none⟩ = some (.slice A n c) := by simpa using h.box.cell 1
theorem RGP.below (h : RGP W B p n E A c) {B' : Nat} (hb : Below B' W W') (hB : W.heap.size ≤ B') : RGP W' B p n E A c :=
  ⟨h.box.below hb (Nat.lt_of_lt_of_le h.plt hB), h.rg.below hb hB, h.lt, h.n64⟩
theorem RGP.alloc (h : RGP W B p n E A c) (o : Obj) : RGP (W.alloc o) B p n E A c := ⟨h.box.alloc o, h.rg.alloc o, h.lt, h.n64⟩
theorem RGP.drew (h : RGP W B p n E A c) : RGP W.drew B p n E A c := ⟨h.box.drew, h.rg.drew, h.lt, h.n64⟩
theorem RGP.drewN (h : RGP W B p n E A c) (k : Nat) : RGP (W.drewN k) B p n E A c := ⟨h.box.drewN k, h.rg.keep fun _ _ _ => rfl, h.lt, h.n64⟩
theorem RGP.congr (h : RGP W B p n E A c) (hE : ∀ a b, a < n → b < n → E a b = F a b) : RGP W B p n F A c := ⟨h.box, h.rg.congr hE, h.lt, h.n64⟩
/-- Rows, of a graph with nodes. -/
structure RGX (W : World) (B p n x : Nat) (E : Edges) (g c : Nat) : Prop where
  box : RGP W B p n E (some ⟨g, 0, none⟩) c
  c0 : W.cell? ⟨p, 0, none⟩ = some (.int .i64 n)
  c1 : W.cell? ⟨p, 1, none⟩ = some (.slice (some ⟨g, 0, none⟩) n c)
  at_ : W.cell? ⟨g, x, none⟩ = some (.int .u64 (setB (E x) n : Nat))
  fr : W.frozen? ⟨g, x, none⟩ = false
  gp : g < p
  gl : g < W.heap.size
  B : B ≤ g
  h64 : setB (E x) n < 18446744073709551616
theorem RGP.at_ (h : RGP W B p n E A c) {x : Nat} (hx : x < n) : ∃ g, A = some ⟨g, 0, none⟩ ∧ RGX W B p n x E g c := by
  rcases h.rg with ⟨h1, _⟩ | ⟨g, cap, cur, h1, h2, h3, h4, h5, h6, h7⟩
  · omega
  · simp only [Value.slice.injEq, true_and] at h1
    obtain ⟨rfl, rfl⟩ := h1
    exact ⟨g, rfl, h, h.c0, h.c1, (h3.cell x).trans (h7 x hx), h3.frozen x, h.lt _ rfl, h3.lt, h2, setB_64 h.n64⟩
theorem RGX.add {x : Nat} {g : Nat} (h : RGX W B p n x E g c) {y : Nat} (hx : x < n) (hy : y < n) :
    RGP (W.setCell ⟨g, x, none⟩ (.int .u64 (withB (setB (E x) n) (y : Int) : Nat))) B p n (orE E (oneE x y)) (some ⟨g, 0, none⟩) c :=
  ⟨h.box.box.far (p := ⟨g, x, none⟩) (Nat.ne_of_gt h.gp) _, h.box.rg.add hx hy h.box.n64, h.box.lt, h.box.n64⟩
end
/-- The edges of rows ahead of x, and of row x ahead of y. -/
def uptoE (E : Edges) (x y : Nat) : Edges := fun a b => E a b && (decide (a < x) || (decide (a = x) && decide (b < y)))
theorem uptoE_zero (E : Edges) : uptoE E 0 0 = noE := by
  funext a b; simp [uptoE, noE]
theorem uptoE_step {E : Edges} {x y : Nat} (h : E x y = true) : uptoE E x (y + 1) = orE (uptoE E x y) (oneE x y) := by
  funext a b
  unfold uptoE orE oneE
  rw [Bool.eq_iff_iff]
  simp
  constructor
  · rintro ⟨h1, h2 | ⟨h2, h3⟩⟩
    · exact .inl ⟨h1, .inl h2⟩
    · rcases Nat.lt_or_ge b y with g | g
      · exact .inl ⟨h1, .inr ⟨h2, g⟩⟩
      · exact .inr ⟨h2, by omega⟩
  · rintro (⟨h1, h2 | ⟨h2, h3⟩⟩ | ⟨rfl, rfl⟩)
    · exact ⟨h1, .inl h2⟩
    · exact ⟨h1, .inr ⟨h2, by omega⟩⟩
    · exact ⟨h, .inr ⟨rfl, by omega⟩⟩
theorem uptoE_skip {E : Edges} {x y : Nat} (h : E x y = false) : uptoE E x (y + 1) = uptoE E x y := by
  funext a b
  unfold uptoE
  rw [Bool.eq_iff_iff]
  simp
  intro h1
  constructor
  · rintro (h2 | ⟨rfl, h3⟩)
    · exact .inl h2
    · rcases Nat.lt_or_ge b y with g | g
      · exact .inr ⟨rfl, g⟩
      · obtain rfl : b = y := by omega
        rw [h] at h1; cases h1
  · rintro (h2 | ⟨rfl, h3⟩)
    · exact .inl h2
    · exact .inr ⟨rfl, by omega⟩
theorem uptoE_row {E : Edges} {x n a b : Nat} (hb : b < n) : uptoE E x n a b = uptoE E (x + 1) 0 a b := by
  unfold uptoE
  rw [Bool.eq_iff_iff]
  simp
  intro _
  omega
theorem uptoE_all {E : Edges} {n a b : Nat} (ha : a < n) : uptoE E n 0 a b = E a b := by
  unfold uptoE; simp [ha]
end Go.Proofs.YtjomijnbnbideaaGreatDoor
