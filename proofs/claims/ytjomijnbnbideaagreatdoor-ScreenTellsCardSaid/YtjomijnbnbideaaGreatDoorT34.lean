/-
  Walks: layer 15's reference: how far it is to a node.
-/
import Derived.Test.YtjomijnbnbideaaGreatDoorT33
import Derived.Test.YtjomijnbnbideaaGreatDoorT14
set_option linter.unusedVariables false
set_option linter.unusedSimpArgs false
namespace Go.Proofs.YtjomijnbnbideaaGreatDoor
open Go.RowKit Go.Inq
set_option maxHeartbeats 4000000
attribute [local go_sem ↓] Go.wp_at_zero Go.wp_at_succ

/-- A row of numbers in a block of its own, told number by number. -/
def RowD (w : World) (g cap n : Nat) (D : Nat → Nat) : Prop := ∃ cur : Array Value, Blk w g 3 cur ∧ cur.size = cap ∧ n ≤ cap ∧ cap ≤ maxLen ∧ ∀ x, x < n → cur[x]? = some (.int .i64 ((D x : Nat) : Int))
theorem RowD.of {w : World} {base : Nat} {v : Value} {n : Nat} {D : Nat → Nat} (h : OwnI w base v (intsN ((List.range n).map D))) (hn : 0 < n) : ∃ g cap, base ≤ g ∧ v = .slice (some ⟨g, 0, none⟩) n cap ∧ RowD w g cap n D := by
  have hl : (intsN ((List.range n).map D)).length = n := by simp [intsN]
  unfold OwnI at h
  rw [hl] at h
  rcases h.2 with ⟨_, h2⟩ | ⟨g, cap, cur, hv, hg, hb, h1, h2, h3, h4⟩
  · omega
  · refine ⟨g, cap, hg, hv, cur, hb, by simpa using h3, h1, h2, fun x hx => ?_⟩
    have e1 : (((intsN ((List.range n).map D)).map Go.Inq.encI).flatten)[x]? = some (.int .i64 ((D x : Nat) : Int)) := by
      have : ((intsN ((List.range n).map D)).map Go.Inq.encI).flatten = (List.range n).map fun y => Value.int .i64 ((D y : Nat) : Int) := by
        unfold intsN
        rw [List.map_map, List.map_map]
        induction List.range n with
        | nil => rfl
        | cons a l ih => simp [Go.Inq.encI] at ih ⊢; exact ih
      rw [this, List.getElem?_map, List.getElem?_range hx]; rfl
    rw [← h4, List.getElem?_take] at e1
    have hx1 : x < n * 1 := by omega
    rw [if_pos hx1] at e1
    simpa using e1
theorem RowD.below {w w' : World} {g cap n : Nat} {D : Nat → Nat} (h : RowD w g cap n D) {B : Nat} (hb : Below B w w') (hg : g < B) : RowD w' g cap n D := by
  obtain ⟨cur, h1, h2⟩ := h
  exact ⟨cur, h1.below hb hg, h2⟩
theorem RowD.lt {w : World} {g cap n : Nat} {D : Nat → Nat} (h : RowD w g cap n D) : g < w.heap.size := by obtain ⟨cur, h1, -⟩ := h; exact h1.lt
theorem RowD.cell {w : World} {g cap n : Nat} {D : Nat → Nat} (h : RowD w g cap n D) {x : Nat} (hx : x < n) : w.cell? ⟨g, x, none⟩ = some (.int .i64 ((D x : Nat) : Int)) ∧ w.frozen? ⟨g, x, none⟩ = false := by
  obtain ⟨cur, h1, h2, h3, h4, h5⟩ := h
  exact ⟨(h1.cell x).trans (h5 x hx), h1.frozen x⟩
theorem RowD.put {w : World} {g cap n : Nat} {D F : Nat → Nat} {x : Nat} {u : Value} (h : RowD w g cap n D) (hx : x < n) (hu : u = .int .i64 ((F x : Nat) : Int)) (hF : ∀ y, y < n → y ≠ x → F y = D y) : RowD (w.setCell ⟨g, x, none⟩ u) g cap n F := by
  obtain ⟨cur, h1, h2, h3, h4, h5⟩ := h
  refine ⟨_, h1.set_ x u, by simpa using h2, h3, h4, fun y hy => ?_⟩
  by_cases e : y = x
  · subst e
    rw [hu, Array.getElem?_setIfInBounds_self_of_lt (by omega)]
  · rw [hF y hy e, ← h5 y hy, Array.getElem?_setIfInBounds_ne (Ne.symm e)]
theorem RowD.congr {w : World} {g cap n : Nat} {D F : Nat → Nat} (h : RowD w g cap n D) (hF : ∀ y, y < n → F y = D y) : RowD w g cap n F := by
  obtain ⟨cur, h1, h2, h3, h4, h5⟩ := h
  exact ⟨cur, h1, h2, h3, h4, fun x hx => by rw [hF x hx]; exact h5 x hx⟩
/-- In round k, behind the first x nodes; of one more node behind its first y neighbours. -/
def farM (n : Nat) (E : Edges) (v k x : Nat) (y : Nat) : Nat := if y < x then farC n E v (k + 1) y else farC n E v k y
def farN (n : Nat) (E : Edges) (v k x m : Nat) (y : Nat) : Nat := if y = x then (if farC n E v k x ≠ 0 then farC n E v k x else if ((List.range m).any fun z => E x z && decide (farC n E v k z = k)) = true then k + 1 else 0) else farM n E v k x y
theorem farN_zero {n : Nat} {E : Edges} {v k x y : Nat} : farN n E v k x 0 y = farM n E v k x y := by
  unfold farN
  by_cases e : y = x
  · subst e
    rw [if_pos rfl]
    unfold farM
    rw [if_neg (Nat.lt_irrefl y)]
    by_cases h : farC n E v k y = 0
    · have hh : ¬ farC n E v k y ≠ 0 := fun q => q h
      rw [if_neg hh, h]; rfl
    · rw [if_pos h]
  · rw [if_neg e]
theorem farC_range {n : Nat} {E : Edges} {v k x : Nat} (hx : x < n) : frontK n E v (k + 1) x = (List.range n).any fun z => E x z && decide (farC n E v (k + 1) z = k + 1) := by
  show ((List.range n).any fun y => E x y && decide (farK n E v k y = k + 1)) = _
  rw [Bool.eq_iff_iff, List.any_eq_true, List.any_eq_true]
  constructor
  · rintro ⟨y, hy, h⟩
    refine ⟨y, hy, ?_⟩
    have : farC n E v (k + 1) y = farK n E v k y := by unfold farC; rw [if_pos (List.mem_range.1 hy)]
    rw [this]; exact h
  · rintro ⟨y, hy, h⟩
    refine ⟨y, hy, ?_⟩
    have : farC n E v (k + 1) y = farK n E v k y := by unfold farC; rw [if_pos (List.mem_range.1 hy)]
    rw [this] at h; exact h
/-- A row whose neighbours are all seen, or which is told already, is that of the next node. -/
theorem farN_end {n : Nat} {E : Edges} {v k x m y : Nat} (hk : 0 < k) (hx : x < n) (hm : m ≤ n) (h : m = n ∨ farN n E v k x m x ≠ 0) : farN n E v k x m y = farM n E v k (x + 1) y := by
  by_cases e : y = x
  · subst e
    have e1 : farM n E v k (y + 1) y = farC n E v (k + 1) y := by unfold farM; rw [if_pos (by omega)]
    rw [e1, farC_next hx]
    unfold farN at h ⊢
    rw [if_pos rfl] at h ⊢
    by_cases h0 : farC n E v k y = 0
    · have hh : ¬ farC n E v k y ≠ 0 := fun q => q h0
      rw [if_neg hh] at h ⊢
      rw [if_neg hh]
      obtain ⟨j, rfl⟩ : ∃ j, k = j + 1 := ⟨k - 1, by omega⟩
      rw [farC_range hx]
      rcases h with rfl | h
      · rfl
      · cases q : (List.range m).any fun z => E y z && decide (farC n E v (j + 1) z = j + 1) with
        | false => rw [q] at h; simp at h
        | true =>
          have : ((List.range n).any fun z => E y z && decide (farC n E v (j + 1) z = j + 1)) = true := by
            rw [List.any_eq_true] at q ⊢
            obtain ⟨z, hz, hq⟩ := q
            exact ⟨z, List.mem_range.2 (by have := List.mem_range.1 hz; omega), hq⟩
          rw [this]
    · rw [if_pos h0, if_pos h0]
  · unfold farN
    rw [if_neg e]
    unfold farM
    by_cases e2 : y < x
    · rw [if_pos e2, if_pos (by omega)]
    · rw [if_neg e2, if_neg (by omega)]
theorem farN_step {n : Nat} {E : Edges} {v k x m : Nat} (h0 : farN n E v k x m x = 0) : (E x m && decide (farC n E v k m = k)) = false → ∀ y, farN n E v k x (m + 1) y = farN n E v k x m y := by
  intro h y
  unfold farN
  by_cases e : y = x
  · rw [if_pos e, if_pos e, List.range_succ, List.any_append]
    simp only [List.any_cons, List.any_nil, h, Bool.or_false]
  · rw [if_neg e, if_neg e]
theorem farN_hit {n : Nat} {E : Edges} {v k x m : Nat} (h0 : farN n E v k x m x = 0) : (E x m && decide (farC n E v k m = k)) = true → farN n E v k x (m + 1) x = k + 1 ∧ ∀ y, y ≠ x → farN n E v k x (m + 1) y = farN n E v k x m y := by
  intro h
  constructor
  · unfold farN at h0 ⊢
    rw [if_pos rfl] at h0 ⊢
    have hz : farC n E v k x = 0 := by
      by_cases q : farC n E v k x = 0
      · exact q
      · rw [if_pos q] at h0; exact absurd h0 q
    have hh : ¬ farC n E v k x ≠ 0 := fun q => q hz
    rw [if_neg hh, List.range_succ, List.any_append]
    simp only [List.any_cons, List.any_nil, h, Bool.or_true, Bool.or_false, if_true]
  · intro y e
    unfold farN
    rw [if_neg e, if_neg e]
/-- A node that another one leads to, at the round's start, is told as it was; one that was told in this round is told k + 1. -/
theorem farN_at {n : Nat} {E : Edges} {v k x m z : Nat} (hk : 0 < k) (hz : z < n) : decide (farN n E v k x m z = k) = decide (farC n E v k z = k) := by
  have key : farN n E v k x m z = farC n E v k z ∨ (farC n E v k z = 0 ∧ (farN n E v k x m z = k + 1)) := by
    unfold farN
    by_cases e : z = x
    · subst e
      rw [if_pos rfl]
      by_cases h : farC n E v k z = 0
      · have hh : ¬ farC n E v k z ≠ 0 := fun q => q h
        rw [if_neg hh]
        split
        · exact .inr ⟨h, rfl⟩
        · exact .inl h.symm
      · rw [if_pos h]; exact .inl rfl
    · rw [if_neg e]
      unfold farM
      split
      · rw [farC_next hz]
        by_cases h : farC n E v k z = 0
        · have hh : ¬ farC n E v k z ≠ 0 := fun q => q h
          rw [if_neg hh]
          split
          · exact .inr ⟨h, rfl⟩
          · exact .inl h.symm
        · rw [if_pos h]; exact .inl rfl
      · exact .inl rfl
  rcases key with e | ⟨e1, e2⟩
  · rw [e]
  · rw [e1, e2, decide_eq_false (by omega), decide_eq_false (by omega)]
theorem far_fin {n : Nat} {E : Edges} {v : Nat} (hn : 0 < n) (x : Nat) : farA n E v x = farC n E v n x := by
  unfold farA farC
  split
  · obtain ⟨j, rfl⟩ : ∃ j, n = j + 1 := ⟨n - 1, by omega⟩
    rfl
  · rfl
theorem far_one {n : Nat} {E : Edges} {v x : Nat} (hx : x < n) : farC n E v 1 x = if E x v = true then 1 else 0 := by
  unfold farC
  rw [if_pos hx]
  rfl
set_option maxRecDepth 100000 in
theorem rfar15_any (n : Nat) (A : Option Addr) (c : Nat) (E : Edges) (v : Nat) (K : Nat → Prop) (w : World) (h : GrS w K n A c E) (hK : ∀ b, K b → b < w.heap.size) (hv : v < n) :
    Calls Tryz.prog 129 #[.agg #[.int .i64 n, .slice A n c], .int .i64 (v : Int)] w fun e w' => ∃ g cap, e = .returned (.slice (some ⟨g, 0, none⟩) n cap) ∧ w.heap.size ≤ g ∧ RowD w' g cap n (farA n E v) ∧ Below w.heap.size w w' := by
  obtain ⟨ii, hii, hi1, hi2, hi3⟩ := info_parts infoI10
  have hn64 := h.n64
  obtain ⟨W, hW⟩ : ∃ W, w.alloc (.cells #[.int .i64 n, .slice A n c] 124) = W := ⟨_, rfl⟩
  have hB := below_allocEq (Below.refl w.heap.size w) hW (Nat.le_refl _)
  have kG := Blk.newEq hW
  have hsz := hB.size
  have hsz1 := size_allocEq hW
  have hg := hide (fun W' (hb : Below w.heap.size w W') => rhas12_any n A c E)
  have hgr : Hid (∀ W', Below w.heap.size w W' → ∀ a b, a < n → b < n → Calls Tryz.prog 130 #[.agg #[.int .i64 n, .slice A n c], .int .i64 (a : Int), .int .i64 (b : Int)] W' fun e w' => e = .returned (.bool (E a b)) ∧ Below W'.heap.size W' w') :=
    hide (fun W' hb a b ha hb' => rhas12_any n A c E a b K W' (h.keep (Agree.below hb hK) (fun b h => h)) (fun b h => Nat.lt_of_lt_of_le (hK b h) hb.size) ha hb')
  have hv0 : (0 : Int) ≤ (v : Int) := Int.natCast_nonneg _
  clear h hg
  go_enter Tryz.func129, Tryz.ntmps129
  go_upto_region 3 with fail
  try rw [hW]
  clear hW
  go_loopw [5, 6] (fun s5 s6 wr => ∃ x : Nat, x ≤ n ∧ s6 = .int .i64 x ∧ OwnI wr W.heap.size s5 (intsN ((List.range x).map (farC n E v 1))) ∧ Below W.heap.size W wr) (fun _ s6 _ => n - (intOf s6).toNat)
  case atStart => exact ⟨0, Nat.zero_le _, by go_num, OwnI.nil _ _, Below.refl _ _⟩
  case round =>
    obtain ⟨x, hx, rfl, hown, hbr⟩ := hrel
    obtain ⟨Wr, rfl⟩ : ∃ Wr, Wr = wr := ⟨_, rfl⟩
    have hx0 : (0 : Int) ≤ (x : Int) := Int.natCast_nonneg _
    have kr := kG.below hbr kG.lt
    have c0 := kr.cell 0
    have c1 := kr.cell 1
    simp only [List.getElem?_toArray, List.getElem?_cons_zero, List.getElem?_cons_succ] at c0 c1
    by_cases hlt : x < n
    · have hx1 : (x : Int) < (n : Int) := by omega
      have hbw := hB.trans (hbr.mono hsz)
      have hhc := hide (hgr.out Wr hbw x v hlt hv)
      have hlen : (intsN ((List.range x).map (farC n E v 1))).length = x := by simp [intsN]
      have hit : Hid (∀ b, E x v = b → intsN ((List.range x).map (farC n E v 1)) ++ [if b = true then (1 : Int) else 0] = intsN ((List.range (x + 1)).map (farC n E v 1))) := hide (by
        rintro b rfl
        rw [List.range_succ, List.map_append]
        unfold intsN
        rw [List.map_append, List.map_cons, List.map_cons, far_one hlt]
        cases E x v <;> rfl)
      obtain ⟨Ao, co, rfl⟩ := OwnI.form hown
      rw [hlen] at hown
      have hDl : (intsN ((List.range x).map (farC n E v 1))).length ≤ 64 := by rw [hlen]; omega
      obtain ⟨b, hb⟩ : ∃ b, E x v = b := ⟨_, rfl⟩
      have hit2 := hide (hit.out b hb)
      clear hit
      rw [hb] at hhc
      clear hb
      generalize intsN ((List.range x).map (farC n E v 1)) = D at *
      have hkD : D.length + 1 ≤ maxLen := by unfold maxLen; omega
      have hkb : (D.length + 1) * 8 ≤ 140737488355328 := by omega
      go_wp2_with fail
      refine hhc.out.mono ?_
      rintro e w2 ⟨rfl, hb2⟩
      have hbr2 := hbr.trans (hb2.mono hbr.size)
      have hown2 := hide (own_below hown hb2 (Nat.le_refl _))
      have hsw : W.heap.size ≤ w2.heap.size := hbr2.size
      clear hhc hown c0 c1 kr
      cases b with
      | true =>
        replace hit2 : Hid (D ++ [(1 : Int)] = _) := hit2
        go_wp2_with (at_builtin; go_loud (refine wpList_push (enc := Go.Inq.encI) rfl (.tmp 24) (.tmp 26) 27 rfl W.heap.size 3 ii _ 1 8 Tryz.underlying27 hii hi1 hi2 hi3 rfl (by decide) (.slice Ao x co) D rfl hown2.out (fun _ => rfl) (1 : Int) _ rfl rfl Go.Inq.encI_one hkD hkb hsw W W.heap.size (Nat.le_refl _) hbr2 ?_); intro v1 w6 hown1 hg1 hbz hat1)
        go_roundw
        case rel => exact ⟨x + 1, by omega, by go_num, by rw [← hit2.out]; exact hown1, hbz⟩
        case measure => simp [intOf]; omega
      | false =>
        replace hit2 : Hid (D ++ [(0 : Int)] = _) := hit2
        go_wp2_with (at_builtin; go_loud (refine wpList_push (enc := Go.Inq.encI) rfl (.tmp 24) (.tmp 26) 27 rfl W.heap.size 3 ii _ 1 8 Tryz.underlying27 hii hi1 hi2 hi3 rfl (by decide) (.slice Ao x co) D rfl hown2.out (fun _ => rfl) (0 : Int) _ rfl rfl Go.Inq.encI_one hkD hkb hsw W W.heap.size (Nat.le_refl _) hbr2 ?_); intro v1 w6 hown1 hg1 hbz hat1)
        go_roundw
        case rel => exact ⟨x + 1, by omega, by go_num, by rw [← hit2.out]; exact hown1, hbz⟩
        case measure => simp [intOf]; omega
    · obtain rfl : x = n := by omega
      obtain ⟨g, cap, hg, rfl, hR⟩ := RowD.of hown (by omega)
      have hbw := hB.trans (hbr.mono hsz)
      have hgw : w.heap.size + 1 ≤ g := by omega
      have hgl := hR.lt
      have hn0 : 0 < x := by omega
      clear hown hg hv0 hB hv
      go_wp2_with fail
      go_loopw [9] (fun s9 wr => ∃ k : Nat, 1 ≤ k ∧ k ≤ x ∧ s9 = .int .i64 k ∧ RowD wr g cap x (farC x E v k) ∧ Blk wr w.heap.size 124 #[.int .i64 x, .slice A x c] ∧ Below w.heap.size w wr) (fun s9 _ => x - (intOf s9).toNat)
      case atStart => exact ⟨1, Nat.le_refl _, hn0, by go_num, hR, kr, hbw⟩
      case round =>
        clear hR kr hbw c0 c1 hbr hgl
        obtain ⟨k, hk1, hkx, rfl, hR, kr, hbw⟩ := hrel
        obtain ⟨Wk, rfl⟩ : ∃ Wk, Wk = wr := ⟨_, rfl⟩
        have c0 := kr.cell 0
        simp only [List.getElem?_toArray, List.getElem?_cons_zero, List.getElem?_cons_succ] at c0
        have hk0 : (0 : Int) ≤ (k : Int) := Int.natCast_nonneg _
        by_cases hkt : k < x
        · have hk2 : (k : Int) < (x : Int) := by omega
          have hR0 : RowD Wk g cap x (farM x E v k 0) := hR.congr fun y _ => by unfold farM; rw [if_neg (Nat.not_lt_zero y)]
          clear hR
          go_wp2_with fail
          go_loopw [10] (fun s10 wr => ∃ p : Nat, p ≤ x ∧ s10 = .int .i64 p ∧ RowD wr g cap x (farM x E v k p) ∧ Blk wr w.heap.size 124 #[.int .i64 x, .slice A x c] ∧ Below w.heap.size w wr) (fun s10 _ => x - (intOf s10).toNat)
          case atStart => exact ⟨0, Nat.zero_le _, by go_num, hR0, kr, hbw⟩
          case round =>
            clear hR0 kr hbw c0
            obtain ⟨p, hp, rfl, hR, kr, hbw⟩ := hrel
            obtain ⟨Wp, rfl⟩ : ∃ Wp, Wp = wr := ⟨_, rfl⟩
            have c0 := kr.cell 0
            simp only [List.getElem?_toArray, List.getElem?_cons_zero, List.getElem?_cons_succ] at c0
            have hp0 : (0 : Int) ≤ (p : Int) := Int.natCast_nonneg _
            by_cases hpt : p < x
            · have hp2 : (p : Int) < (x : Int) := by omega
              have hR0 : RowD Wp g cap x (farN x E v k p 0) := hR.congr fun y _ => farN_zero
              clear hR
              go_wp2_with fail
              go_loopw [11] (fun s11 wr => ∃ m : Nat, m ≤ x ∧ s11 = .int .i64 m ∧ RowD wr g cap x (farN x E v k p m) ∧ Blk wr w.heap.size 124 #[.int .i64 x, .slice A x c] ∧ Below w.heap.size w wr) (fun s11 _ => x - (intOf s11).toNat)
              case atStart => exact ⟨0, Nat.zero_le _, by go_num, hR0, kr, hbw⟩
              case round =>
                clear hR0 kr hbw c0
                obtain ⟨m, hm, rfl, hR, kr, hbw⟩ := hrel
                obtain ⟨Wm, rfl⟩ : ∃ Wm, Wm = wr := ⟨_, rfl⟩
                have c0 := kr.cell 0
                have c1 := kr.cell 1
                simp only [List.getElem?_toArray, List.getElem?_cons_zero, List.getElem?_cons_succ] at c0 c1
                have hm0 : (0 : Int) ≤ (m : Int) := Int.natCast_nonneg _
                obtain ⟨dp, fp⟩ := hR.cell hpt
                by_cases hmt : m < x
                · have hm2 : (m : Int) < (x : Int) := by omega
                  by_cases hz : farN x E v k p m p = 0
                  · have hzb : ((farN x E v k p m p : Int) == 0) = true := by simp [hz]
                    have hhc := hide (hgr.out Wm hbw p m hpt hmt)
                    obtain ⟨b, hb⟩ : ∃ b, E p m = b := ⟨_, rfl⟩
                    rw [hb] at hhc
                    have hst := hide (fun q => farN_step (n := x) (E := E) (v := v) (k := k) (x := p) (m := m) hz q)
                    have hht := hide (fun q => farN_hit (n := x) (E := E) (v := v) (k := k) (x := p) (m := m) hz q)
                    have hat := farN_at (n := x) (E := E) (v := v) (k := k) (x := p) (m := m) (z := m) (by omega) hmt
                    rw [hb, ← hat] at hst hht
                    clear hat hb hz
                    obtain ⟨dm, -⟩ := hR.cell hmt
                    go_upto_region 20 with fail
                    refine hhc.out.mono ?_
                    rintro e w2 ⟨rfl, hb2⟩
                    have hbw2 := hbw.trans (hb2.mono hbw.size)
                    replace kr := kr.below hb2 kr.lt
                    replace hR := hR.below hb2 hR.lt
                    have hgl := hR.lt
                    clear dm dp fp c0 c1 hhc hb2 hbw
                    obtain ⟨dm, -⟩ := hR.cell hmt
                    obtain ⟨dp, fp⟩ := hR.cell hpt
                    cases b with
                    | false =>
                      have hR2 := hR.congr (F := farN x E v k p (m + 1)) fun y _ => hst.out rfl y
                      clear hst hht
                      go_wp2
                      go_roundw
                      case rel => exact ⟨m + 1, by omega, by go_num, hR2, kr, hbw2⟩
                      case measure => simp [intOf]; omega
                    | true =>
                      rw [Bool.true_and] at hst hht
                      by_cases hq : farN x E v k p m m = k
                      · have hqb : ((farN x E v k p m m : Int) == (k : Int)) = true := by simp [hq]
                        obtain ⟨h1, h2⟩ := hht.out (decide_eq_true hq)
                        have hR2 := hR.put (F := farN x E v k p (m + 1)) (u := .int .i64 ((k : Int) + 1)) hpt (by rw [h1]; rfl) (fun y _ e => h2 y e)
                        have kr2 := kr.far (p := ⟨g, p, none⟩) (show w.heap.size ≠ g by omega) (.int .i64 ((k : Int) + 1))
                        have hbw3 := hbw2.setCell (p := ⟨g, p, none⟩) (show w.heap.size ≤ g by omega) (.int .i64 ((k : Int) + 1))
                        clear hst hht hq h1 h2
                        go_wp2
                        go_roundw
                        case rel => exact ⟨m + 1, by omega, by go_num, hR2, kr2, hbw3⟩
                        case measure => simp [intOf]; omega
                      · have hqb : ((farN x E v k p m m : Int) == (k : Int)) = false := by rw [beq_eq_false_iff_ne]; omega
                        have hR2 := hR.congr (F := farN x E v k p (m + 1)) fun y _ => hst.out (decide_eq_false hq) y
                        clear hst hht hq
                        go_wp2
                        go_roundw
                        case rel => exact ⟨m + 1, by omega, by go_num, hR2, kr, hbw2⟩
                        case measure => simp [intOf]; omega
                  · have hzb : ((farN x E v k p m p : Int) == 0) = false := by rw [beq_eq_false_iff_ne]; omega
                    have hR2 : RowD Wm g cap x (farM x E v k (p + 1)) := hR.congr fun y _ => (farN_end (by omega) hpt hm (.inr hz)).symm
                    clear hz
                    go_wp2
                    go_roundw
                    case rel => exact ⟨p + 1, by omega, by go_num, hR2, kr, hbw⟩
                    case measure => simp [intOf]; omega
                · obtain rfl : m = x := by omega
                  have hR2 : RowD Wm g cap m (farM m E v k (p + 1)) := hR.congr fun y _ => (farN_end (by omega) hpt hm (.inl rfl)).symm
                  go_wp2
                  go_roundw
                  case rel => exact ⟨p + 1, by omega, by go_num, hR2, kr, hbw⟩
                  case measure => simp [intOf]; omega
            · obtain rfl : p = x := by omega
              have hR2 : RowD Wp g cap p (farC p E v (k + 1)) := hR.congr fun y hy => by unfold farM; rw [if_pos hy]
              go_wp2
              go_roundw
              case rel => exact ⟨k + 1, by omega, by omega, by go_num, hR2, kr, hbw⟩
              case measure => simp [intOf]; omega
        · obtain rfl : k = x := by omega
          have hR2 := hR.congr (F := farA k E v) fun y _ => far_fin hn0 y
          go_wp2
          go_ret
          exact ⟨g, cap, rfl, by omega, hR2, hbw⟩
end Go.Proofs.YtjomijnbnbideaaGreatDoor
