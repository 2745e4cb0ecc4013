/-
  Walks: layer 30: what an order's beginning decides.
-/
import Derived.Test.YtjomijnbnbideaaGreatDoorC08
set_option linter.unusedVariables false
set_option linter.unusedSimpArgs false
namespace Go.Proofs.YtjomijnbnbideaaGreatDoor
open Go.RowKit Go.Inq
set_option maxHeartbeats 1000000
attribute [local go_sem ↓] Go.wp_at_zero Go.wp_at_succ

theorem idxI_some {l : List Int} {x : Int} {i : Nat} (h : l.idxOf? x = some i) : idxI l x = i := by
  unfold idxI
  have : l.findIdx? (· == x) = some i := h
  rw [this]
theorem idxI_no {l : List Int} {x : Int} (h : l.idxOf? x = none) : idxI l x = -1 := by
  unfold idxI
  have : l.findIdx? (· == x) = none := h
  rw [this]
theorem turnC_none {path : List Int} {p : Cho} (h1 : idxI path p.a < 0) (h2 : idxI path p.b < 0) : turnC path p = none := by
  unfold turnC
  cases ha : path.idxOf? p.a with
  | some i => rw [idxI_some ha] at h1; omega
  | none =>
    cases hb : path.idxOf? p.b with
    | some i => rw [idxI_some hb] at h2; omega
    | none => rfl
theorem turnC_turn {path : List Int} {p : Cho} (h0 : ¬ (idxI path p.a < 0 ∧ idxI path p.b < 0)) (h : idxI path p.a < 0 ∨ (0 ≤ idxI path p.b ∧ idxI path p.b < idxI path p.a)) : turnC path p = some ⟨p.key, p.b, p.a⟩ := by
  unfold turnC
  cases ha : path.idxOf? p.a with
  | some i =>
    rw [idxI_some ha] at h h0
    cases hb : path.idxOf? p.b with
    | some j =>
      rw [idxI_some hb] at h h0
      dsimp only
      rw [if_pos (by omega)]
    | none => rw [idxI_no hb] at h; omega
  | none =>
    rw [idxI_no ha] at h h0
    cases hb : path.idxOf? p.b with
    | some j => rfl
    | none => rw [idxI_no hb] at h0; omega
theorem turnC_same {path : List Int} {p : Cho} (h : ¬ (idxI path p.a < 0 ∨ (0 ≤ idxI path p.b ∧ idxI path p.b < idxI path p.a))) : turnC path p = some p := by
  unfold turnC
  cases ha : path.idxOf? p.a with
  | some i =>
    rw [idxI_some ha] at h
    cases hb : path.idxOf? p.b with
    | some j =>
      rw [idxI_some hb] at h
      dsimp only
      rw [if_neg (by omega)]
    | none => rfl
  | none => rw [idxI_no ha] at h; omega
theorem dec_snoc (path : List Int) (l : List Cho) (x : Cho) : (l ++ [x]).filterMap (turnC path) = l.filterMap (turnC path) ++ (match turnC path x with | some y => [y] | none => []) := by
  rw [List.filterMap_append]
  congr 1
  cases h : turnC path x <;> simp [h]
theorem own_base' {w : World} {base base' : Nat} {e : TypeId} {size n : Nat} {v : Value} {xs : List Value} (h : w.ownsRow base e size v n xs) (hb : base' ≤ base) : w.ownsRow base' e size v n xs := by
  refine ⟨h.1, ?_⟩
  rcases h.2 with h2 | ⟨g, cap, cur, hv, hg, r⟩
  · exact .inl h2
  · exact .inr ⟨g, cap, cur, hv, Nat.le_trans hb hg, r⟩
set_option maxRecDepth 100000 in
theorem dec30_any (A : Option Addr) (c : Nat) (H : List Txn) (Ap : Option Addr) (cp : Nat) (path : List Int) (w : World) (h : TxnS w (Old w) (.slice A H.length c) H) (hn : SmallH H) (hr : rightH H = true) (hP : IntS w (Old w) (.slice Ap path.length cp) path) (hpl : path.length ≤ 1000000000) :
    Calls Tryz.prog 60 #[.agg #[.slice A H.length c], .slice Ap path.length cp] w (OutC w (decW H path)) := by
  obtain ⟨ic, hic, hi1, hi2, hi3⟩ := info_parts infoC9
  obtain ⟨W0, hW0⟩ : ∃ W0, w.alloc (.cells #[.slice A H.length c] 24) = W0 := ⟨_, rfl⟩
  have hB := below_allocEq (Below.refl w.heap.size w) hW0 (Nat.le_refl _)
  have k0 := Blk.newEq hW0
  have hT := hide (h.below hB)
  have hP0 := hide (hP.below hB)
  have c0 := k0.cell 0
  simp only [List.getElem?_toArray, List.getElem?_cons_zero, List.getElem?_cons_succ] at c0
  have hLn := pairsL_len hr
  have hdef : Hid (decW H path = (pairsL H).filterMap (turnC path)) := hide rfl
  replace hn := hide hn
  replace hr := hide hr
  clear h hP k0
  go_enter Tryz.func60, Tryz.ntmps60
  go_wp2_with fail
  clear hW0 c0
  refine (pairs9_any A c H _ hT.out hn.out hr.out).mono ?_
  rintro e w1 ⟨vL, rfl, hLO, hb1⟩
  have hP1 := hide (hP0.out.below hb1)
  have hL := hide (hLO.sl (K := Old w1) (fun g _ h => h))
  obtain ⟨AL, cL, rfl⟩ := hLO.form
  have hb := hB.trans (hb1.mono hB.size)
  clear hLO hb1 hB hT hP0
  generalize pairsL H = L at *
  go_wp2_with fail
  go_loopw [5, 13] (fun s5 s13 wr => ∃ k : Nat, k ≤ L.length ∧ s13 = .int .i64 k ∧ OwnC wr w1.heap.size s5 ((L.take k).filterMap (turnC path)) ∧ Below w1.heap.size w1 wr) (fun _ s13 _ => L.length - (intOf s13).toNat)
  case atStart => exact ⟨0, Nat.zero_le _, by go_num, OwnC.nil _ _, Below.refl _ _⟩
  case round =>
    obtain ⟨k, hk, rfl, hown, hbr⟩ := hrel
    have hk1 : (0 : Int) ≤ (k : Int) := Int.natCast_nonneg _
    have hbF := hb.trans (hbr.mono hb.size)
    by_cases hlt : k < L.length
    · have hil2 : (k : Int) < (L.length : Int) := by omega
      obtain ⟨b, off, rfl, _, d0, d1, d2⟩ := (hL.out.below hbr).at_ hlt
      have hst := hide (dec_snoc path (L.take k) L[k])
      rw [← take_snoc' hlt] at hst
      have hnon := hide (turnC_none (path := path) (p := L[k]))
      have htur := hide (turnC_turn (path := path) (p := L[k]))
      have hsam := hide (turnC_same (path := path) (p := L[k]))
      have hll : ((L.take k).filterMap (turnC path)).length ≤ k := Nat.le_trans (List.length_filterMap_le _ _) (by rw [List.length_take]; omega)
      generalize hDe : (L.take (k + 1)).filterMap (turnC path) = D' at *
      generalize (L.take k).filterMap (turnC path) = D at *
      generalize L[k] = p at *
      obtain ⟨key, a, b2⟩ := p
      dsimp only at *
      obtain ⟨W2, hW2⟩ : ∃ W2, wr.alloc (.cells #[.int .i64 key, .int .i64 a, .int .i64 b2] 49) = W2 := ⟨_, rfl⟩
      have hB2 := below_allocEq (Below.refl wr.heap.size wr) hW2 (Nat.le_refl _)
      have n0 := Blk.newEq hW2
      have e0 := n0.cell 0
      have e1 := n0.cell 1
      have e2 := n0.cell 2
      simp only [List.getElem?_toArray, List.getElem?_cons_zero, List.getElem?_cons_succ] at e0 e1 e2
      have hP2 := hide ((hP1.out.below hbr).below hB2)
      obtain ⟨As, cs, rfl⟩ := hown.form
      have hown2 : OwnC W2 w1.heap.size _ D := own_below hown hB2 (Nat.le_refl _)
      have hbW := hbr.trans (hB2.mono hbr.size)
      have hsW := hB2.size
      have hrs := hbr.size
      have hfar := hide (fun g hg => (hown.lt g hg).2)
      clear hown hbr hbF
      have hca := hide (fun W z (hq : IntS W (Old W2) (.slice Ap path.length cp) path) => (index_int Ap cp path z (Old W2) W hq (by unfold maxLen; omega)).mono fun _ _ h => (⟨h.1, h.2.symm⟩ : _ ∧ _))
      replace n0 := hide n0
      go_wp2_with fail
      go_quiet ((go_at_call 115; exact Calls.quiet_of_same (hca.out _ _ (hP2.out.keep (Agree.drewN _ _ _) (fun _ h => h)))))
      generalize idxI path a = x at *
      generalize idxI path b2 = y at *
      have hkD : D.length + 1 ≤ maxLen := by unfold maxLen; omega
      have hkb : (D.length + 1) * 24 ≤ 140737488355328 := by omega
      have hj : decide (x < 0) = decide (x < 0) := rfl
      by_cases hn2 : x < 0 ∧ y < 0
      · have q1 : decide (x < 0) = true := by simpa using hn2.1
        have q2 : decide (y < 0) = true := by simpa using hn2.2
        have hD : D' = D := by rw [hst.out, hnon.out hn2.1 hn2.2, List.append_nil]
        rw [hD] at hDe
        replace hDe := hide hDe
        clear hn2 htur hsam hnon hst hD
        go_wp2
        go_roundw
        case rel => exact ⟨k + 1, by omega, by go_num, by rw [hDe.out]; exact own_drewN hown2 _, hbW.trans ⟨rfl, rfl, rfl, Nat.le_refl _, fun _ _ => rfl⟩⟩
        case measure => simp [intOf]; omega
      · by_cases ht : x < 0 ∨ (0 ≤ y ∧ y < x)
        · have hD : D' = D ++ [⟨key, b2, a⟩] := by rw [hst.out, htur.out hn2 ht]
          rw [hD] at hDe
          replace hDe := hide hDe
          replace hn2 := hide hn2
          replace ht := hide ht
          clear htur hsam hnon hst hD
          have hne1 : (Value.slice As D.length cs).ownBlock ≠ some wr.heap.size := fun e => Nat.lt_irrefl _ (hfar.out _ e)
          have hown3 : (((W2.drewN nq).setCell ⟨wr.heap.size, 1, none⟩ (.int .i64 b2)).setCell ⟨wr.heap.size, 2, none⟩ (.int .i64 a)).ownsRow w1.heap.size 49 3 (.slice As D.length cs) D.length (D.map encC).flatten :=
            own_setCell (own_setCell (own_drewN hown2 nq) (p := ⟨wr.heap.size, 1, none⟩) hne1 _) (p := ⟨wr.heap.size, 2, none⟩) hne1 _
          have hbX : Below w1.heap.size w1 (((W2.drewN nq).setCell ⟨wr.heap.size, 1, none⟩ (.int .i64 b2)).setCell ⟨wr.heap.size, 2, none⟩ (.int .i64 a)) :=
            ((hbW.trans ⟨rfl, rfl, rfl, Nat.le_refl _, fun _ _ => rfl⟩ : Below w1.heap.size w1 (W2.drewN nq)).setCell (p := ⟨wr.heap.size, 1, none⟩) hrs _).setCell (p := ⟨wr.heap.size, 2, none⟩) hrs _
          clear hne1
          have f1 := n0.out.frozen 1
          have f2 := n0.out.frozen 2
          by_cases q1 : x < 0
          · have q1b : decide (x < 0) = true := by simpa using q1
            have q2b : decide (y < 0) = false := by have := hn2.out; simp; omega
            clear q1
            go_wp2_with (at_builtin; go_loud (refine wpList_push (enc := encC) rfl (.tmp 48) (.tmp 50) 61 rfl w1.heap.size 49 ic _ 3 24 Tryz.underlying61 hic hi1 hi2 hi3 rfl (by decide) (.slice As D.length cs) D rfl hown3 (fun _ => rfl) (⟨key, b2, a⟩ : Cho) _ rfl (by first | rfl | (simp [Act.eval]; done) | (simp; rfl)) encC_one hkD hkb (by simp; omega) w1 w1.heap.size (Nat.le_refl _) hbX ?_); intro v1 w6 hown1 hg1 hb1 hat1)
            go_roundw
            case rel => exact ⟨k + 1, by omega, by go_num, by rw [hDe.out]; exact hown1, hb1⟩
            case measure => simp [intOf]; omega
          · have q1b : decide (x < 0) = false := by simpa using q1
            have q3b : decide (y ≥ 0) = true := by have := ht.out; simp; omega
            have q4b : decide (y < x) = true := by have := ht.out; simp; omega
            clear q1
            go_wp2_with (at_builtin; go_loud (refine wpList_push (enc := encC) rfl (.tmp 48) (.tmp 50) 61 rfl w1.heap.size 49 ic _ 3 24 Tryz.underlying61 hic hi1 hi2 hi3 rfl (by decide) (.slice As D.length cs) D rfl hown3 (fun _ => rfl) (⟨key, b2, a⟩ : Cho) _ rfl (by first | rfl | (simp [Act.eval]; done) | (simp; rfl)) encC_one hkD hkb (by simp; omega) w1 w1.heap.size (Nat.le_refl _) hbX ?_); intro v1 w6 hown1 hg1 hb1 hat1)
            go_roundw
            case rel => exact ⟨k + 1, by omega, by go_num, by rw [hDe.out]; exact hown1, hb1⟩
            case measure => simp [intOf]; omega
        · have hD : D' = D ++ [⟨key, a, b2⟩] := by rw [hst.out, hsam.out ht]
          rw [hD] at hDe
          replace hDe := hide hDe
          replace ht := hide ht
          clear htur hsam hnon hst hD
          have q1b : decide (x < 0) = false := by have := ht.out; simp; omega
          by_cases q3 : 0 ≤ y
          · have q3b : decide (y ≥ 0) = true := by simpa using q3
            have q4b : decide (y < x) = false := by have := ht.out; simp; omega
            clear q3
            go_wp2_with (at_builtin; go_loud (refine wpList_push (enc := encC) rfl (.tmp 48) (.tmp 50) 61 rfl w1.heap.size 49 ic _ 3 24 Tryz.underlying61 hic hi1 hi2 hi3 rfl (by decide) (.slice As D.length cs) D rfl (own_drewN hown2 _) (fun _ => rfl) (⟨key, a, b2⟩ : Cho) _ rfl rfl encC_one hkD hkb (Nat.le_trans hrs hsW) w1 w1.heap.size (Nat.le_refl _) (hbW.trans ⟨rfl, rfl, rfl, Nat.le_refl _, fun _ _ => rfl⟩) ?_); intro v1 w6 hown1 hg1 hb1 hat1)
            go_roundw
            case rel => exact ⟨k + 1, by omega, by go_num, by rw [hDe.out]; exact hown1, hb1⟩
            case measure => simp [intOf]; omega
          · have q3b : decide (y ≥ 0) = false := by simpa using q3
            clear q3
            go_wp2_with (at_builtin; go_loud (refine wpList_push (enc := encC) rfl (.tmp 48) (.tmp 50) 61 rfl w1.heap.size 49 ic _ 3 24 Tryz.underlying61 hic hi1 hi2 hi3 rfl (by decide) (.slice As D.length cs) D rfl (own_drewN hown2 _) (fun _ => rfl) (⟨key, a, b2⟩ : Cho) _ rfl rfl encC_one hkD hkb (Nat.le_trans hrs hsW) w1 w1.heap.size (Nat.le_refl _) (hbW.trans ⟨rfl, rfl, rfl, Nat.le_refl _, fun _ _ => rfl⟩) ?_); intro v1 w6 hown1 hg1 hb1 hat1)
            go_roundw
            case rel => exact ⟨k + 1, by omega, by go_num, by rw [hDe.out]; exact hown1, hb1⟩
            case measure => simp [intOf]; omega
    · obtain rfl : k = L.length := by omega
      rw [List.take_length] at hown
      clear hL hP1
      go_wp2
      go_ret
      exact ⟨_, rfl, by rw [hdef.out]; exact own_base' hown hb.size, hbF⟩
end Go.Proofs.YtjomijnbnbideaaGreatDoor
