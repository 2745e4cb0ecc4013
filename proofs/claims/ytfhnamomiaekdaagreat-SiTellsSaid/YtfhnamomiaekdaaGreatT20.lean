/-
  Walks: the reference of layer 8: Writes, one, Right.
-/
import Derived.Test.YtfhnamomiaekdaaGreatT01
import Derived.Test.YtfhnamomiaekdaaGreatT03
set_option linter.unusedVariables false
set_option linter.unusedSimpArgs false
namespace Go.Proofs.YtfhnamomiaekdaaGreat
open Go.RowKit Go.Inq
set_option maxHeartbeats 4000000
attribute [local go_sem ↓] Go.wp_at_zero Go.wp_at_succ

theorem writes08_any (ts : Int) (A : Option Addr) (c : Nat) (l : List Int) (vr : Value) (x : Int) (K : Nat → Prop) (w : World) (h : IntS w K (.slice A l.length c) l) (hK : ∀ b, K b → b < w.heap.size) (hn : l.length ≤ maxLen) :
    Calls Tryz.prog 51 #[.agg #[.int .i64 ts, .slice A l.length c, vr], .int .i64 x] w fun e w' => e = .returned (.bool (l.contains x)) ∧ Below w.heap.size w w' := by
  unfold maxLen at hn
  have hA : Below w.heap.size w (w.alloc (.cells #[.int .i64 ts, .slice A l.length c, vr] 86)) := (Below.refl _ _).alloc (Nat.le_refl _) _
  have kt : Blk (w.alloc (.cells #[.int .i64 ts, .slice A l.length c, vr] 86)) w.heap.size 86 #[.int .i64 ts, .slice A l.length c, vr] := Blk.new _ _ _
  have h1 := IntS.keep h (Agree.below hA hK) (fun b h => h)
  have y0 := kt.cell 1
  simp only [List.getElem?_toArray, List.getElem?_cons_zero, List.getElem?_cons_succ] at y0
  have hno : (∀ j (hj : j < l.length), l[j] ≠ x) → l.contains x = false := fun g => by
    rw [← Bool.not_eq_true, List.contains_iff_mem]
    intro hm
    obtain ⟨j, hj, e⟩ := List.getElem_of_mem hm
    exact g j hj e
  have hyes : ∀ j (hj : j < l.length), x = l[j] → l.contains x = true := fun j hj e => by
    rw [List.contains_iff_mem, e]; exact List.getElem_mem hj
  generalize l.contains x = cb at *
  replace hno := hide hno
  replace hyes := hide hyes
  go_enter Tryz.func51, Tryz.ntmps51
  go_wp2_with fail
  generalize w.alloc (.cells #[.int .i64 ts, .slice A l.length c, vr] 86) = W at *
  go_loop [5] (fun s5 => ∃ k : Nat, k ≤ l.length ∧ s5 = .int .i64 k ∧ Hid (∀ j (hj : j < l.length), j < k → l[j] ≠ x)) (fun s5 => l.length - (intOf s5).toNat)
  case atStart => exact ⟨0, Nat.zero_le _, by go_num, fun j hj h => absurd h (by omega)⟩
  case round =>
    obtain ⟨k, hk, rfl, hall⟩ := hrel
    have hk1 : (0 : Int) ≤ (k : Int) := Int.natCast_nonneg _
    by_cases hlt : k < l.length
    · have hi2 : (k : Int) < (l.length : Int) := by omega
      obtain ⟨b, off, rfl, _, hc⟩ := h1.at_ hlt
      have hh := hide (fun g => hyes.out k hlt g)
      have hst : Hid (l[k] ≠ x → ∀ j (hj : j < l.length), j < k + 1 → l[j] ≠ x) := fun g j hj hjk => by
        by_cases e : j = k
        · subst e; exact g
        · exact hall.out j hj (by omega)
      clear hall
      by_cases he : x = l[k]
      · have hb : (l[k] == x) = true := by simpa using he.symm
        have hr := hide (hh.out he)
        clear he hh hst
        go_wp2
        go_ret
        exact ⟨by rw [hr.out]; rfl, hA⟩
      · have hb : (l[k] == x) = false := by simpa using fun e => he e.symm
        have hn2 := hide (hst.out (fun e => he e.symm))
        clear he hh hst
        go_wp2
        go_round
        case rel => exact ⟨k + 1, by omega, by go_num, hn2⟩
        case measure => simp [intOf]; omega
    · have hr := hide (hno.out fun j hj => hall.out j hj (by omega))
      go_wp2
      go_ret
      exact ⟨by rw [hr.out]; rfl, hA⟩

theorem txF_no_w {H : List Txn} {n : Nat} (h : n < H.length) {j : Nat} (hj : j < H[n].writes.length) (hb : wF H[n].writes j = false) : (txF H n).all id = false := by
  rw [txF_at h]
  refine pre_false (List.prefix_refl _) (List.mem_append.2 (.inl (List.mem_append.2 (.inl ?_))))
  unfold wFs
  exact List.mem_map.2 ⟨j, by simpa using hj, hb⟩
theorem txF_no_r {H : List Txn} {n : Nat} (h : n < H.length) {j : Nat} (hj : j < H[n].reads.length) (hb : rF H n H[n].reads j = false) : (txF H n).all id = false := by
  rw [txF_at h]
  refine pre_false (List.prefix_refl _) (List.mem_append.2 (.inl (List.mem_append.2 (.inr ?_))))
  unfold rFs
  exact List.mem_map.2 ⟨j, by simpa using hj, hb⟩
theorem txF_no_s {H : List Txn} {n : Nat} (h : n < H.length) (hb : belowB H[n].sess 8 = false) : (txF H n).all id = false := by
  rw [txF_at h]
  exact pre_false (List.prefix_refl _) (List.mem_append.2 (.inr (by simp [hb])))
theorem txF_yes {H : List Txn} {n : Nat} (h : n < H.length) (hs : belowB H[n].sess 8 = true) (hw : ∀ j, j < H[n].writes.length → wF H[n].writes j = true) (hr : ∀ j, j < H[n].reads.length → rF H n H[n].reads j = true) : (txF H n).all id = true := by
  rw [txF_at h, List.all_append, List.all_append]
  have h1 : (wFs H[n].writes H[n].writes.length).all id = true := by
    rw [List.all_eq_true]
    intro b hb
    unfold wFs at hb
    obtain ⟨j, hj, rfl⟩ := List.mem_map.1 hb
    exact hw j (by simpa using hj)
  have h2 : (rFs H n H[n].reads H[n].reads.length).all id = true := by
    rw [List.all_eq_true]
    intro b hb
    unfold rFs at hb
    obtain ⟨j, hj, rfl⟩ := List.mem_map.1 hb
    exact hr j (by simpa using hj)
  rw [h1, h2]
  simp [hs]
/-- A key behind good ones: good just if it is a key, and greater than the one ahead. -/
theorem wF_first {l : List Int} (h : 0 < l.length) : wF l 0 = (decide (0 ≤ l[0]) && decide (l[0] < 16)) := by
  rw [wF_at h, show l.take 0 = [] from rfl, lastK_nil]
  congr 1
theorem wF_next {l : List Int} {m : Nat} (h : m + 1 < l.length) : wF l (m + 1) = (decide (l[m] < l[m + 1]) && decide (l[m + 1] < 16)) := by
  rw [wF_at h, List.take_succ_eq_append_getElem (by omega), lastK_snoc]
theorem wF_pos {l : List Int} : ∀ {m : Nat} (h : m < l.length), (∀ j, j ≤ m → wF l j = true) → 0 ≤ l[m]
  | 0, h, hall => by
    have := hall 0 (Nat.le_refl _)
    rw [wF_first h, Bool.and_eq_true, decide_eq_true_eq] at this
    exact this.1
  | m + 1, h, hall => by
    have ih := wF_pos (m := m) (by omega) fun j hj => hall j (by omega)
    have := hall (m + 1) (Nat.le_refl _)
    rw [wF_next h, Bool.and_eq_true, decide_eq_true_eq] at this
    omega
theorem rF_key {H : List Txn} {n : Nat} {l : List It} {j : Nat} (h : j < l.length) : rF H n l j = (wF (l.map (·.a)) j && thereB H n l[j]) := by
  rw [rF_at h, wF_at (by rw [List.length_map]; exact h), List.getElem_map, List.map_take]
theorem wF_is {l : List Int} {i : Nat} (h : i < l.length) (hall : ∀ j, j < i → wF l j = true) : wF l i = true ↔ 0 ≤ l[i] ∧ l[i] < 16 ∧ ∀ m (hm : m + 1 = i), l[m]'(by omega) < l[i] := by
  cases i with
  | zero =>
    rw [wF_first h, Bool.and_eq_true, decide_eq_true_eq, decide_eq_true_eq]
    exact ⟨fun g => ⟨g.1, g.2, fun m hm => by omega⟩, fun g => ⟨g.1, g.2.1⟩⟩
  | succ m =>
    have hp := wF_pos (m := m) (by omega) fun j hj => hall j (by omega)
    rw [wF_next h, Bool.and_eq_true, decide_eq_true_eq, decide_eq_true_eq]
    refine ⟨fun g => ⟨by omega, g.2, fun m' hm => ?_⟩, fun g => ⟨g.2.2 m rfl, g.2.1⟩⟩
    obtain rfl : m' = m := by omega
    exact g.1
theorem belowN {B : Nat} {w W : World} (h : Below B w W) (n : Nat) : Below B w (W.drewN n) := h.trans ⟨rfl, rfl, rfl, Nat.le_refl _, fun _ _ => rfl⟩
/-- A history's row as long as a slice may be. -/
def LenH (l : List Txn) : Prop := l.length ≤ 9223372036854775807 ∧ ∀ t ∈ l, t.writes.length ≤ 9223372036854775807 ∧ t.reads.length ≤ 9223372036854775807
theorem SmallH.len {l : List Txn} (h : SmallH l) : LenH l := ⟨by have := h.1; omega, fun t ht => by have := h.2 t ht; omega⟩
set_option maxHeartbeats 16000000 in
set_option maxRecDepth 100000 in
theorem one08_any (A : Option Addr) (c : Nat) (H : List Txn) (n : Nat) (w : World) (h : TxnS w (Old w) (.slice A H.length c) H) (hn : n < H.length) (hs : LenH H) :
    Calls Tryz.prog 97 #[.agg #[.slice A H.length c], .int .i64 n] w fun e w' => e = .returned (.bool ((txF H n).all id)) ∧ Below w.heap.size w w' := by
  have hH := hs.1
  obtain ⟨hsw, hsr⟩ := hs.2 _ (List.getElem_mem hn)
  have hAll := hide (fun m hm => (hs.2 _ (List.getElem_mem (l := H) (n := m) hm)).1)
  have hnw := hide (fun j hj hb => txF_no_w hn (j := j) hj hb)
  have hnr := hide (fun j hj hb => txF_no_r hn (j := j) hj hb)
  have hns := hide (fun hb => txF_no_s hn hb)
  have hyes := hide (fun a b c => txF_yes hn a b c)
  obtain ⟨b, off, Aw, cw, Ar, cr, rfl, hbK, d0, d1, d2, hws, hrs⟩ := TxnS.at_ h hn
  generalize ht : H[n] = t at *
  replace ht := hide ht
  obtain ⟨ts, ws, rs⟩ := t
  dsimp only at *
  have hW1 : Below w.heap.size w (w.alloc (.cells #[.slice (some ⟨b, off, none⟩) H.length c] 24)) := (Below.refl _ _).alloc (Nat.le_refl _) _
  have kH : Blk (w.alloc (.cells #[.slice (some ⟨b, off, none⟩) H.length c] 24)) w.heap.size 24 #[.slice (some ⟨b, off, none⟩) H.length c] := Blk.new _ _ _
  have e0 := (hW1.cell (p := ⟨b, off + n * 3, none⟩) hbK).trans d0
  have e1 := (hW1.cell (p := ⟨b, off + n * 3 + 1, none⟩) hbK).trans d1
  have e2 := (hW1.cell (p := ⟨b, off + n * 3 + 2, none⟩) hbK).trans d2
  have z0 := kH.cell 0
  simp only [List.getElem?_toArray, List.getElem?_cons_zero] at z0
  have hB2 := hW1.alloc hW1.size (.cells #[.int .i64 ts, .slice Aw ws.length cw, .slice Ar rs.length cr] 86)
  have kT : Blk ((w.alloc (.cells #[.slice (some ⟨b, off, none⟩) H.length c] 24)).alloc (.cells #[.int .i64 ts, .slice Aw ws.length cw, .slice Ar rs.length cr] 86)) (w.heap.size + 1) 86 #[.int .i64 ts, .slice Aw ws.length cw, .slice Ar rs.length cr] := by
    have := Blk.new (w.alloc (.cells #[.slice (some ⟨b, off, none⟩) H.length c] 24)) 86 #[.int .i64 ts, .slice Aw ws.length cw, .slice Ar rs.length cr]
    simp only [World.size_alloc] at this
    exact this
  have kH2 := kH.alloc (.cells #[.int .i64 ts, .slice Aw ws.length cw, .slice Ar rs.length cr] 86)
  have hn1 : (0 : Int) ≤ (n : Int) := Int.natCast_nonneg _
  have hn2 : (n : Int) < (H.length : Int) := by omega
  have t0 := kT.cell 0
  simp only [List.getElem?_toArray, List.getElem?_cons_zero] at t0
  by_cases g0 : ts < 0
  · have g0b : decide (ts < 0) = true := by simpa using g0
    have hno := hide (hns.out (by simp [belowB]; omega))
    go_enter Tryz.func97, Tryz.ntmps97
    go_wp2
    go_ret
    exact ⟨by rw [hno.out]; rfl, hB2⟩
  have g0b : decide (ts < 0) = false := by simpa using g0
  by_cases g1 : 7 < ts
  · have g1b : decide (ts > 7) = true := by simpa using g1
    have hno := hide (hns.out (by simp [belowB]; omega))
    go_enter Tryz.func97, Tryz.ntmps97
    go_wp2
    go_ret
    exact ⟨by rw [hno.out]; rfl, hB2⟩
  have g1b : decide (ts > 7) = false := by simpa using g1
  have hyes2 := hide (hyes.out (by simp [belowB]; omega))
  clear hyes hns
  go_enter Tryz.func97, Tryz.ntmps97
  go_wp2_with fail
  clear d0 d1 d2 e0 e1 e2 z0 t0 g0b g1b kH hW1
  generalize (w.alloc (.cells #[.slice (some ⟨b, off, none⟩) H.length c] 24)).alloc (.cells #[.int .i64 ts, .slice Aw ws.length cw, .slice Ar rs.length cr] 86) = W2 at *
  go_loopw [6] (fun s6 wr => ∃ i : Nat, i ≤ ws.length ∧ s6 = .int .i64 i ∧ Hid (∀ j, j < i → wF ws j = true) ∧ Below w.heap.size w wr ∧ Blk wr (w.heap.size + 1) 86 #[.int .i64 ts, .slice Aw ws.length cw, .slice Ar rs.length cr] ∧ Blk wr w.heap.size 24 #[.slice (some ⟨b, off, none⟩) H.length c]) (fun s6 _ => ws.length - (intOf s6).toNat)
  case atStart => exact ⟨0, Nat.zero_le _, by go_num, fun j h => absurd h (by omega), hB2, kT, kH2⟩
  case round =>
    clear hB2 kT kH2
    obtain ⟨i, hi, rfl, hall, hb, kT, kH⟩ := hrel
    have hi1 : (0 : Int) ≤ (i : Int) := Int.natCast_nonneg _
    have e1 := kT.cell 1
    simp only [List.getElem?_toArray, List.getElem?_cons_zero, List.getElem?_cons_succ] at e1
    by_cases hlt : i < ws.length
    · have hi2 : (i : Int) < (ws.length : Int) := by omega
      have hW := IntS.keep hws (Agree.below hb fun b h => h) (fun b h => h)
      have hcm := hide (fun m (hm : m < ws.length) => IntS.at_ hW hm)
      obtain ⟨bw, ow, rfl, hbw, ec⟩ := IntS.at_ hW hlt
      have hwf := wF_is hlt hall.out
      have hbad := hide (fun g => hnw.out i hlt g)
      have hgo : Hid (wF ws i = true → ∀ j, j < i + 1 → wF ws j = true) := fun g j hj => by
        by_cases e : j = i
        · subst e; exact g
        · exact hall.out j (by omega)
      by_cases k1 : ws[i] < 0
      · have k1b : decide (ws[i] < 0) = true := by simpa using k1
        replace hwf := hide hwf
        have hno := hide (hbad.out (by rw [← Bool.not_eq_true, hwf.out]; intro g; have := g.1; omega))
        clear hbad hwf hgo
        go_wp2_with fail
        go_quiet (fail)
        go_wp2
        go_ret
        exact ⟨by rw [hno.out]; rfl, belowN hb nq⟩
      · have k1b : decide (ws[i] < 0) = false := by simpa using k1
        by_cases k2 : 15 < ws[i]
        · have k2b : decide (ws[i] > 15) = true := by simpa using k2
          replace hwf := hide hwf
          have hno := hide (hbad.out (by rw [← Bool.not_eq_true, hwf.out]; intro g; have := g.2.1; omega))
          clear hbad hwf hgo
          go_wp2_with fail
          go_quiet (fail)
          go_wp2
          go_ret
          exact ⟨by rw [hno.out]; rfl, belowN hb nq⟩
        · have k2b : decide (ws[i] > 15) = false := by simpa using k2
          by_cases hi0 : i = 0
          · have k3b : decide ((i : Int) > 0) = false := by simp; omega
            have k3c : decide (0 < i) = false := by simp; omega
            replace hwf := hide hwf
            replace hi0 := hide hi0
            have hgo2 := hide (hgo.out (hwf.out.2 ⟨by omega, by omega, fun m hm => by have := hi0.out; omega⟩))
            clear hbad hwf hgo
            go_wp2_with fail
            go_quiet (fail)
            go_wp2
            go_roundw
            case rel => exact ⟨i + 1, by omega, by go_num, hgo2, belowN hb nq, kT, kH⟩
            case measure => simp [intOf]; omega
          · obtain ⟨m, hm⟩ : ∃ m, m + 1 = i := ⟨i - 1, by omega⟩
            have k3b : decide ((i : Int) > 0) = true := by simp; omega
            have k3c : decide (0 < i) = true := by simp; omega
            have k3d : 0 < i := by omega
            have hq : IntKind.i64.wrap ((i : Int) - 1) = (m : Int) := by rw [IntKind.wrap_i64]; omega
            have hm1 : (0 : Int) ≤ (m : Int) := Int.natCast_nonneg _
            have hm2 : (m : Int) < (ws.length : Int) := by omega
            obtain ⟨bw', ow', hA, _, em⟩ := hcm.out m (by omega)
            injection hA with hA
            injection hA with hA1 hA2
            subst hA1 hA2
            have hmi := hide hm
            by_cases k4 : ws[i] ≤ ws[m]'(by omega)
            · have k4b : decide ((ws[m]'(by omega)) ≥ ws[i]) = true := by simpa using k4
              replace hwf := hide hwf
              have hno := hide (hbad.out (by rw [← Bool.not_eq_true, hwf.out]; intro g; have := g.2.2 m hmi.out; omega))
              clear hbad hwf hgo
              go_wp2_with fail
              go_quiet (fail)
              go_wp2
              go_ret
              exact ⟨by rw [hno.out]; rfl, belowN hb nq⟩
            · have k4b : decide ((ws[m]'(by omega)) ≥ ws[i]) = false := by simpa using k4
              replace hwf := hide hwf
              have hgo2 := hide (hgo.out (hwf.out.2 ⟨by omega, by omega, fun m' hm' => by obtain rfl : m' = m := by { have := hmi.out; omega }; omega⟩))
              clear hbad hwf hgo
              go_wp2_with fail
              go_quiet (fail)
              go_wp2
              go_roundw
              case rel => exact ⟨i + 1, by omega, by go_num, hgo2, belowN hb nq, kT, kH⟩
              case measure => simp [intOf]; omega
    · obtain rfl : i = ws.length := by omega
      have hyes3 := hide (fun hr => hyes2.out hall.out hr)
      have e2 := kT.cell 2
      simp only [List.getElem?_toArray, List.getElem?_cons_zero, List.getElem?_cons_succ] at e2
      go_wp2
      clear e1 e2 hall hyes2 hi hlt hi1
      go_loopw [7] (fun s7 wr => ∃ i : Nat, i ≤ rs.length ∧ s7 = .int .i64 i ∧ Hid (∀ j, j < i → rF H n rs j = true) ∧ Below w.heap.size w wr ∧ Blk wr (w.heap.size + 1) 86 #[.int .i64 ts, .slice Aw ws.length cw, .slice Ar rs.length cr] ∧ Blk wr w.heap.size 24 #[.slice (some ⟨b, off, none⟩) H.length c]) (fun s7 _ => rs.length - (intOf s7).toNat)
      case atStart => exact ⟨0, Nat.zero_le _, by go_num, fun j h => absurd h (by omega), hb, kT, kH⟩
      case round =>
        clear hb kT kH
        obtain ⟨i, hi, rfl, hall, hb, kT, kH⟩ := hrel
        have hi1 : (0 : Int) ≤ (i : Int) := Int.natCast_nonneg _
        have e2 := kT.cell 2
        simp only [List.getElem?_toArray, List.getElem?_cons_zero, List.getElem?_cons_succ] at e2
        by_cases hlt : i < rs.length
        · have hi2 : (i : Int) < (rs.length : Int) := by omega
          have hR := ItS.keep hrs (Agree.below hb fun b h => h) (fun b h => h)
          have hcm := hide (fun m (hm : m < rs.length) => ItS.at_ hR hm)
          obtain ⟨br, or_, rfl, hbr, ec0, ec1⟩ := ItS.at_ hR hlt
          have hrk := hide (rF_key (H := H) (n := n) hlt)
          have hwf := wF_is (l := rs.map (·.a)) (i := i) (by rw [List.length_map]; exact hlt) fun j hj => by
            have := hall.out j hj
            rw [rF_key (by omega), Bool.and_eq_true] at this
            exact this.1
          rw [List.getElem_map] at hwf
          have hth := hide (thereB_iff H n rs[i])
          have hbad := hide (fun g => hnr.out i hlt g)
          have hgo : Hid (rF H n rs i = true → ∀ j, j < i + 1 → rF H n rs j = true) := fun g j hj => by
            by_cases e : j = i
            · subst e; exact g
            · exact hall.out j (by omega)
          have hmk := hide (fun m (hm : m < rs.length) => List.getElem_map (fun x : It => x.a) (l := rs) (i := m) (h := by rw [List.length_map]; exact hm))
          generalize hrx : rs[i] = x at *
          replace hrx := hide hrx
          obtain ⟨xa, xb⟩ := x
          dsimp only at ec0 ec1 hwf hth
          have hbA := hb.alloc hb.size (.cells #[.int .i64 xa, .int .i64 xb] 83)
          have kTA := kT.alloc (.cells #[.int .i64 xa, .int .i64 xb] 83)
          have kHA := kH.alloc (.cells #[.int .i64 xa, .int .i64 xb] 83)
          have kX := Blk.new wr 83 #[.int .i64 xa, .int .i64 xb]
          have u0 := kX.cell 0
          have u1 := kX.cell 1
          have y2 := kTA.cell 2
          have z0 := kHA.cell 0
          simp only [List.getElem?_toArray, List.getElem?_cons_zero, List.getElem?_cons_succ] at u0 u1 y2 z0
          replace hwf := hide hwf
          go_wp2_with fail
          clear ec0 ec1 e2 hb kT kH
          generalize hWA : wr.alloc (.cells #[.int .i64 xa, .int .i64 xb] 83) = WA at *
          replace hcm := hide (fun m (hm : m < rs.length) => ItS.at_ (ItS.keep hrs (Agree.below hbA fun b h => h) (fun b h => h)) hm)
          clear hWA hR
          generalize wr.heap.size = N8 at *
          by_cases k1 : xa < 0
          · have k1b : decide (xa < 0) = true := by simpa using k1
            have hno := hide (hbad.out (by rw [hrk.out, Bool.and_eq_false_iff]; left; rw [← Bool.not_eq_true, hwf.out]; intro g; have := g.1; omega))
            clear hbad hwf hgo hth hrk
            go_quiet (fail)
            go_wp2
            go_ret
            exact ⟨by rw [hno.out]; rfl, belowN hbA nq⟩
          · have k1b : decide (xa < 0) = false := by simpa using k1
            by_cases k2 : 15 < xa
            · have k2b : decide (xa > 15) = true := by simpa using k2
              have hno := hide (hbad.out (by rw [hrk.out, Bool.and_eq_false_iff]; left; rw [← Bool.not_eq_true, hwf.out]; intro g; have := g.2.1; omega))
              clear hbad hwf hgo hth hrk
              go_quiet (fail)
              go_wp2
              go_ret
              exact ⟨by rw [hno.out]; rfl, belowN hbA nq⟩
            · have k2b : decide (xa > 15) = false := by simpa using k2
              by_cases hi0 : i = 0
              · have k3b : decide ((i : Int) > 0) = false := by simp; omega
                have k3c : decide (0 < i) = false := by simp; omega
                have hwt := hide (hwf.out.2 ⟨by omega, by omega, fun m hm => by omega⟩)
                clear hi0
                by_cases g5 : xb < -1
                · have g5b : decide (xb < -1) = true := by simpa using g5
                  have hno := hide (hbad.out (by rw [hrk.out, Bool.and_eq_false_iff]; right; rw [← Bool.not_eq_true, hth.out]; exact fun g => g.elim (fun e => by omega) (fun ⟨k, hk, e, _⟩ => by omega)))
                  clear hbad hwf hgo hth hrk
                  go_quiet (fail)
                  go_wp2
                  go_ret
                  exact ⟨by rw [hno.out]; rfl, belowN hbA nq⟩
                · have g5b : decide (xb < -1) = false := by simpa using g5
                  by_cases g6 : (H.length : Int) ≤ xb
                  · have g6b : decide (xb ≥ (H.length : Int)) = true := by simpa using g6
                    have hno := hide (hbad.out (by rw [hrk.out, Bool.and_eq_false_iff]; right; rw [← Bool.not_eq_true, hth.out]; exact fun g => g.elim (fun e => by omega) (fun ⟨k, hk, e, _⟩ => by omega)))
                    clear hbad hwf hgo hth hrk
                    go_quiet (fail)
                    go_wp2
                    go_ret
                    exact ⟨by rw [hno.out]; rfl, belowN hbA nq⟩
                  · have g6b : decide (xb ≥ (H.length : Int)) = false := by simpa using g6
                    by_cases g7 : xb = (n : Int)
                    · have g7b : (xb == (n : Int)) = true := by simpa using g7
                      replace g7 := hide g7
                      have hno := hide (hbad.out (by rw [hrk.out, Bool.and_eq_false_iff]; right; rw [← Bool.not_eq_true, hth.out]; have g7 := g7.out; exact fun g => g.elim (fun e => by omega) (fun ⟨k, hk, e, hkn, _⟩ => by omega)))
                      clear hbad hwf hgo hth hrk
                      go_quiet (fail)
                      go_wp2
                      go_ret
                      exact ⟨by rw [hno.out]; rfl, belowN hbA nq⟩
                    · have g7b : (xb == (n : Int)) = false := by simpa using g7
                      by_cases g8 : xb < 0
                      · have g8b : decide (xb < 0) = true := by simpa using g8
                        have hgo2 := hide (hgo.out (by rw [hrk.out, hwt.out, hth.out.2 (.inl (by omega))]; rfl))
                        clear hbad hwf hgo hth hrk hwt
                        go_quiet (fail)
                        go_wp2
                        go_roundw
                        case rel => exact ⟨i + 1, by omega, by go_num, hgo2, belowN hbA nq, kTA, kHA⟩
                        case measure => simp [intOf]; omega
                      · have g8b : decide (xb < 0) = false := by simpa using g8
                        have hm' : xb.toNat < H.length := by omega
                        have hm3 : 0 ≤ xb := by omega
                        have hm4 : xb < (H.length : Int) := by omega
                        obtain ⟨b', off', Aw', cw', Ar', cr', hA', hbK', p0, p1, p2, hws', _⟩ := TxnS.at_ (TxnS.keep h (Agree.below hbA fun b h => h) (fun b h => h)) hm'
                        injection hA' with hA'
                        injection hA' with hA1 hA2
                        subst hA1 hA2
                        have hl' := hAll.out xb.toNat hm'
                        have hrf : rF H n rs i = (H[xb.toNat].writes.contains xa) := by
                          rw [hrk.out, hwt.out, Bool.true_and, Bool.eq_iff_iff, hth.out, List.contains_iff_mem]
                          refine ⟨?_, fun g => .inr ⟨xb.toNat, hm', by omega, by omega, g⟩⟩
                          rintro (e | ⟨k, hk, e, _, g⟩)
                          · omega
                          · obtain rfl : k = xb.toNat := by omega
                            exact g
                        have hbad2 := hide (fun (g : H[xb.toNat].writes.contains xa = false) => hbad.out (hrf.trans g))
                        have hgo2 := hide (fun (g : H[xb.toNat].writes.contains xa = true) => hgo.out (hrf.trans g))
                        clear hbad hwf hgo hth hrk hwt hrf g5 g6 g7
                        generalize H[xb.toNat].writes = ws' at *
                        generalize H[xb.toNat].sess = ts' at *
                        go_quiet (fail)
                        go_wp2_with fail
                        refine wp_region_plan [0, 1, 2, 3, 4, 5, 6, 7] [8, 9] (by kernel_rfl) (by kernel_rfl) (fun _ _ d _ _ h => by cases d <;> exact h) ?_
                        simp only [List.filterMap_cons, List.filterMap_nil, List.getElem?_cons_zero, List.getElem?_cons_succ]
                        repeat still_step
                        refine wpStill_nil ?_
                        go_wp2_with fail
                        refine (writes08_any ts' Aw' cw' ws' _ xa (Old w) (WA.drewN (nq + 1)) (IntS.keep hws' (Agree.drewN _ _ _) (fun b h => h)) (fun b h => Nat.lt_of_lt_of_le h hbA.size) (by unfold maxLen; omega)).mono ?_
                        rintro e W9 ⟨rfl, hb9⟩
                        have kT9 := Blk.below (w := WA) kTA ⟨hb9.os, hb9.tape, hb9.output, hb9.size, hb9.block⟩ kTA.lt
                        have kH9 := Blk.below (w := WA) kHA ⟨hb9.os, hb9.tape, hb9.output, hb9.size, hb9.block⟩ kHA.lt
                        have hbF := (belowN hbA (nq + 1)).trans (hb9.mono hbA.size)
                        generalize ws'.contains xa = cb at *
                        cases cb with
                        | false =>
                          have hno := hide (hbad2.out rfl)
                          go_wp2
                          go_ret
                          exact ⟨by rw [hno.out]; rfl, hbF⟩
                        | true =>
                          have hgo3 := hide (hgo2.out rfl)
                          go_wp2
                          go_roundw
                          case rel => exact ⟨i + 1, by omega, by go_num, hgo3, hbF, kT9, kH9⟩
                          case measure => simp [intOf]; omega
              · obtain ⟨m, hm⟩ : ∃ m, m + 1 = i := ⟨i - 1, by omega⟩
                have k3b : decide ((i : Int) > 0) = true := by simp; omega
                have k3c : decide (0 < i) = true := by simp; omega
                have k3d : 0 < i := by omega
                have hq : IntKind.i64.wrap ((i : Int) - 1) = (m : Int) := by rw [IntKind.wrap_i64]; omega
                have hm1 : (0 : Int) ≤ (m : Int) := Int.natCast_nonneg _
                have hm2 : (m : Int) < (rs.length : Int) := by omega
                obtain ⟨bw', ow', hA, _, em, _⟩ := hcm.out m (by omega)
                injection hA with hA
                injection hA with hA1 hA2
                subst hA1 hA2
                have hme := hmk.out m (by omega)
                generalize (rs[m]'(by omega)).a = pv at *
                replace hme := hide hme
                have hmi := hide hm
                clear hi0
                by_cases k4 : xa ≤ pv
                · have k4b : decide (pv ≥ xa) = true := by simpa using k4
                  have hno := hide (hbad.out (by rw [hrk.out, Bool.and_eq_false_iff]; left; rw [← Bool.not_eq_true, hwf.out]; intro g; have := g.2.2 m hmi.out; rw [hme.out] at this; omega))
                  clear hbad hwf hgo hth hrk
                  go_quiet (fail)
                  go_wp2
                  go_ret
                  exact ⟨by rw [hno.out]; rfl, belowN hbA nq⟩
                · have k4b : decide (pv ≥ xa) = false := by simpa using k4
                  have hwt := hide (hwf.out.2 ⟨by omega, by omega, fun m' hm' => by
                    obtain rfl : m' = m := by have := hmi.out; omega
                    rw [hme.out]; omega⟩)
                  by_cases g5 : xb < -1
                  · have g5b : decide (xb < -1) = true := by simpa using g5
                    have hno := hide (hbad.out (by rw [hrk.out, Bool.and_eq_false_iff]; right; rw [← Bool.not_eq_true, hth.out]; exact fun g => g.elim (fun e => by omega) (fun ⟨k, hk, e, _⟩ => by omega)))
                    clear hbad hwf hgo hth hrk
                    go_quiet (fail)
                    go_wp2
                    go_ret
                    exact ⟨by rw [hno.out]; rfl, belowN hbA nq⟩
                  · have g5b : decide (xb < -1) = false := by simpa using g5
                    by_cases g6 : (H.length : Int) ≤ xb
                    · have g6b : decide (xb ≥ (H.length : Int)) = true := by simpa using g6
                      have hno := hide (hbad.out (by rw [hrk.out, Bool.and_eq_false_iff]; right; rw [← Bool.not_eq_true, hth.out]; exact fun g => g.elim (fun e => by omega) (fun ⟨k, hk, e, _⟩ => by omega)))
                      clear hbad hwf hgo hth hrk
                      go_quiet (fail)
                      go_wp2
                      go_ret
                      exact ⟨by rw [hno.out]; rfl, belowN hbA nq⟩
                    · have g6b : decide (xb ≥ (H.length : Int)) = false := by simpa using g6
                      by_cases g7 : xb = (n : Int)
                      · have g7b : (xb == (n : Int)) = true := by simpa using g7
                        replace g7 := hide g7
                        have hno := hide (hbad.out (by rw [hrk.out, Bool.and_eq_false_iff]; right; rw [← Bool.not_eq_true, hth.out]; have g7 := g7.out; exact fun g => g.elim (fun e => by omega) (fun ⟨k, hk, e, hkn, _⟩ => by omega)))
                        clear hbad hwf hgo hth hrk
                        go_quiet (fail)
                        go_wp2
                        go_ret
                        exact ⟨by rw [hno.out]; rfl, belowN hbA nq⟩
                      · have g7b : (xb == (n : Int)) = false := by simpa using g7
                        by_cases g8 : xb < 0
                        · have g8b : decide (xb < 0) = true := by simpa using g8
                          have hgo2 := hide (hgo.out (by rw [hrk.out, hwt.out, hth.out.2 (.inl (by omega))]; rfl))
                          clear hbad hwf hgo hth hrk hwt
                          go_quiet (fail)
                          go_wp2
                          go_roundw
                          case rel => exact ⟨i + 1, by omega, by go_num, hgo2, belowN hbA nq, kTA, kHA⟩
                          case measure => simp [intOf]; omega
                        · have g8b : decide (xb < 0) = false := by simpa using g8
                          have hm' : xb.toNat < H.length := by omega
                          have hm3 : 0 ≤ xb := by omega
                          have hm4 : xb < (H.length : Int) := by omega
                          obtain ⟨b', off', Aw', cw', Ar', cr', hA', hbK', p0, p1, p2, hws', _⟩ := TxnS.at_ (TxnS.keep h (Agree.below hbA fun b h => h) (fun b h => h)) hm'
                          injection hA' with hA'
                          injection hA' with hA1 hA2
                          subst hA1 hA2
                          have hl' := hAll.out xb.toNat hm'
                          have hrf : rF H n rs i = (H[xb.toNat].writes.contains xa) := by
                            rw [hrk.out, hwt.out, Bool.true_and, Bool.eq_iff_iff, hth.out, List.contains_iff_mem]
                            refine ⟨?_, fun g => .inr ⟨xb.toNat, hm', by omega, by omega, g⟩⟩
                            rintro (e | ⟨k, hk, e, _, g⟩)
                            · omega
                            · obtain rfl : k = xb.toNat := by omega
                              exact g
                          have hbad2 := hide (fun (g : H[xb.toNat].writes.contains xa = false) => hbad.out (hrf.trans g))
                          have hgo2 := hide (fun (g : H[xb.toNat].writes.contains xa = true) => hgo.out (hrf.trans g))
                          clear hbad hwf hgo hth hrk hwt hrf g5 g6 g7
                          generalize H[xb.toNat].writes = ws' at *
                          generalize H[xb.toNat].sess = ts' at *
                          go_quiet (fail)
                          go_wp2_with fail
                          refine wp_region_plan [0, 1, 2, 3, 4, 5, 6, 7] [8, 9] (by kernel_rfl) (by kernel_rfl) (fun _ _ d _ _ h => by cases d <;> exact h) ?_
                          simp only [List.filterMap_cons, List.filterMap_nil, List.getElem?_cons_zero, List.getElem?_cons_succ]
                          repeat still_step
                          refine wpStill_nil ?_
                          go_wp2_with fail
                          refine (writes08_any ts' Aw' cw' ws' _ xa (Old w) (WA.drewN (nq + 1)) (IntS.keep hws' (Agree.drewN _ _ _) (fun b h => h)) (fun b h => Nat.lt_of_lt_of_le h hbA.size) (by unfold maxLen; omega)).mono ?_
                          rintro e W9 ⟨rfl, hb9⟩
                          have kT9 := Blk.below (w := WA) kTA ⟨hb9.os, hb9.tape, hb9.output, hb9.size, hb9.block⟩ kTA.lt
                          have kH9 := Blk.below (w := WA) kHA ⟨hb9.os, hb9.tape, hb9.output, hb9.size, hb9.block⟩ kHA.lt
                          have hbF := (belowN hbA (nq + 1)).trans (hb9.mono hbA.size)
                          generalize ws'.contains xa = cb at *
                          cases cb with
                          | false =>
                            have hno := hide (hbad2.out rfl)
                            go_wp2
                            go_ret
                            exact ⟨by rw [hno.out]; rfl, hbF⟩
                          | true =>
                            have hgo3 := hide (hgo2.out rfl)
                            go_wp2
                            go_roundw
                            case rel => exact ⟨i + 1, by omega, by go_num, hgo3, hbF, kT9, kH9⟩
                            case measure => simp [intOf]; omega
        · obtain rfl : i = rs.length := by omega
          have hr := hide (hyes3.out hall.out)
          go_wp2
          go_ret
          exact ⟨by rw [hr.out]; rfl, hb⟩
end Go.Proofs.YtfhnamomiaekdaaGreat
