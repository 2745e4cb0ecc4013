/-
  Walks: layer 17's reference: who reads from whom.
-/
import Derived.Test.YtjomijnbnbideaaGreatDoorS31
import Derived.Test.YtjomijnbnbideaaGreatDoorS02
import Derived.Test.YtjomijnbnbideaaGreatDoorS04
import Derived.Test.YtjomijnbnbideaaGreatDoorS07
import Derived.Test.YtjomijnbnbideaaGreatDoorS08
import Derived.Test.YtjomijnbnbideaaGreatDoorS14
set_option linter.unusedVariables false
set_option linter.unusedSimpArgs false
namespace Go.Proofs.YtjomijnbnbideaaGreatDoor
open Go.RowKit Go.Inq
set_option maxHeartbeats 8000000
attribute [local go_sem ↓] Go.wp_at_zero Go.wp_at_succ

/-- Who reads from whom, of the readers ahead of t, and the first i reads of t. -/
def wrTo (H : List Txn) (t i : Nat) : Edges := fun a b => decide (a ≠ b) && ((decide (b < t) && (txnAt H b).reads.any fun r => decide (r.b = (a : Int))) || (decide (b = t) && ((txnAt H b).reads.take i).any fun r => decide (r.b = (a : Int))))
theorem wrTo_zero (H : List Txn) : wrTo H 0 0 = noE := by
  funext a b
  simp [wrTo, noE]
theorem wrTo_step {H : List Txn} {t i s : Nat} {R : List It} (hR : (txnAt H t).reads = R) (hi : i < R.length) (hs : R[i].b = (s : Int)) (hst : s ≠ t) : wrTo H t (i + 1) = orE (wrTo H t i) (oneE s t) := by
  subst hR
  funext a b
  unfold wrTo orE oneE
  by_cases e : b = t
  · subst e
    rw [List.take_succ_eq_append_getElem hi, List.any_append]
    simp only [List.any_cons, List.any_nil, Bool.or_false, hs]
    by_cases e2 : a = s
    · subst e2
      simp [hst]
    · have : ¬ ((s : Int) = (a : Int)) := by omega
      simp [e2, this]
  · simp [e]
theorem wrTo_skip {H : List Txn} {t i : Nat} {R : List It} (hR : (txnAt H t).reads = R) (hi : i < R.length) (hs : R[i].b < 0) : wrTo H t (i + 1) = wrTo H t i := by
  subst hR
  funext a b
  unfold wrTo
  by_cases e : b = t
  · subst e
    rw [List.take_succ_eq_append_getElem hi, List.any_append]
    have : ¬ (((txnAt H b).reads[i]).b = (a : Int)) := by omega
    simp [this]
  · simp [e]
theorem wrTo_row {H : List Txn} {t : Nat} {R : List It} (hR : (txnAt H t).reads = R) : wrTo H t R.length = wrTo H (t + 1) 0 := by
  subst hR
  funext a b
  unfold wrTo
  by_cases e : b = t
  · subst e
    rw [List.take_length]
    simp
  · have : decide (b < t + 1) = decide (b < t) := by simp; omega
    simp [e, this]
theorem wrTo_all {H : List Txn} {a b : Nat} (hb : b < H.length) : wrTo H H.length 0 a b = wrE H a b := by
  unfold wrTo wrE
  simp [hb]
set_option maxRecDepth 100000 in
theorem rwr17_any (A : Option Addr) (c : Nat) (H : List Txn) (w : World) (h : TxnS w (Old w) (.slice A H.length c) H) (hr : rightH H = true) (hn : SmallH H) :
    Calls Tryz.prog 183 #[.agg #[.slice A H.length c]] w (OutR w H.length (wrE H)) := by
  have hok := hide (((rightH_iff H).1 hr).2)
  have hn64 : H.length ≤ 64 := by have := ((rightH_iff H).1 hr).1; omega
  clear hr
  go_enter Tryz.func183, Tryz.ntmps183
  go_upto_region 1 with fail
  obtain ⟨W0, hW0⟩ : ∃ W0, (w.alloc (.cells #[.slice A H.length c] 24)).alloc (.cells #[.int .i64 0, .slice none 0 0] 124) = W0 := ⟨_, rfl⟩
  rw [hW0]
  have hb := below_two hW0
  have k1 := Blk.two1 hW0
  have k3 := Blk.two2 hW0
  have s0 := size_two hW0
  have hT := hide (h.below hb)
  clear hW0 h
  have c0 := k1.cell 0
  simp only [List.getElem?_toArray, List.getElem?_cons_zero, List.getElem?_cons_succ] at c0
  replace s0 := hide s0
  go_wp2_with fail
  refine (rnew12_any H.length hn64 W0).mono ?_
  rintro e w1 ⟨v, rfl, hR, hb1⟩
  clear c0
  obtain ⟨Av, cv, rfl, -⟩ := hR.gr hn64 (K := fun _ => True) (fun _ _ _ => trivial)
  go_upto_region 2 with fail
  obtain ⟨W5, hW5⟩ : ∃ W5, w1.alloc (.cells #[.int .i64 (H.length : Int), .slice Av H.length cv] 124) = W5 := ⟨_, rfl⟩
  rw [hW5]
  have hP := RGP.start hR hn64 hW5
  have hs1 := hb1.size
  have hb5 := below_allocEq hb1 hW5 hs1
  clear hW5 hR hb1
  go_wp2_with fail
  go_loopw [4] (fun s4 wr => ∃ x : Nat, x ≤ H.length ∧ s4 = .int .i64 x ∧ RGP wr W0.heap.size w1.heap.size H.length (wrTo H x 0) Av cv ∧ Below W0.heap.size W0 wr) (fun s4 _ => H.length - (intOf s4).toNat)
  case atStart => exact ⟨0, Nat.zero_le _, by go_num, by rw [wrTo_zero]; exact hP, hb5⟩
  case round =>
    obtain ⟨x, hx, rfl, hPr, hbr⟩ := hrel
    have hx1 : (0 : Int) ≤ (x : Int) := Int.natCast_nonneg _
    have c0 := hPr.c0
    have c1 := hPr.c1
    by_cases hlt : x < H.length
    · have hx2 : (x : Int) < (H.length : Int) := by omega
      obtain ⟨bt, ot, Aw, cw, Ar, cr, rfl, hKb, -, -, d2, -, hrs⟩ := hT.out.at_ hlt
      replace d2 := (hbr.cell (p := ⟨bt, ot + x * 3 + 2, none⟩) hKb).trans d2
      have k1q := k1.below hbr k1.lt
      have a0 := k1q.cell 0
      simp only [List.getElem?_toArray, List.getElem?_cons_zero, List.getElem?_cons_succ] at a0
      obtain ⟨R, hR⟩ : ∃ R, H[x].reads = R := ⟨_, rfl⟩
      have hRt : (txnAt H x).reads = R := by rw [txnAt_of hlt]; exact hR
      have hth := hide (fun r (hr : r ∈ R) => (hok.out x hlt).there r (by rw [hR]; exact hr))
      have hR9 : R.length ≤ 1000000 := by rw [← hR]; exact (hn.2 _ (List.getElem_mem hlt)).2
      rw [hR] at hrs d2
      clear hR
      replace hRt := hide hRt
      replace hrs := hide hrs
      go_wp2_with fail
      clear c0 c1 a0 d2 k1q
      go_loopw [6] (fun s6 wq => ∃ i : Nat, i ≤ R.length ∧ s6 = .int .i64 i ∧ RGP wq W0.heap.size w1.heap.size H.length (wrTo H x i) Av cv ∧ Below W0.heap.size W0 wq) (fun s6 _ => R.length - (intOf s6).toNat)
      case atStart => exact ⟨0, Nat.zero_le _, by go_num, hPr, hbr⟩
      case round =>
        obtain ⟨i, hi, rfl, hP4, hb4⟩ := hrel
        have hi1 : (0 : Int) ≤ (i : Int) := Int.natCast_nonneg _
        by_cases hlq : i < R.length
        · have hi2 : (i : Int) < (R.length : Int) := by omega
          obtain ⟨br, orr, rfl, -, -, z1⟩ := (hrs.out.below hb4).at_ hlq
          have hthi := hide (hth.out _ (List.getElem_mem hlq))
          have hst := hide (fun s => wrTo_step (s := s) hRt.out hlq)
          have hsk := hide (wrTo_skip hRt.out hlq)
          generalize R[i] = r at *
          by_cases hneg : r.b < 0
          · have hE2 := hide (hsk.out hneg)
            have hnb : decide (r.b ≥ 0) = false := by simp; omega
            clear hst hsk hthi hneg
            go_wp2
            go_roundw
            case rel => exact ⟨i + 1, by omega, by go_num, by rw [hE2.out]; exact hP4, hb4⟩
            case measure => simp [intOf]; omega
          · obtain ⟨s0, hs0, hsx, hsl⟩ : ∃ s0 : Nat, r.b = (s0 : Int) ∧ s0 ≠ x ∧ s0 < H.length := by
              rcases (thereB_iff H x r).1 hthi.out with e | ⟨k, hk, e, e2, -⟩
              · omega
              · exact ⟨k, e, e2, hk⟩
            rw [hs0] at z1
            have hE2 := hide (hst.out s0 hs0 hsx)
            have hnb : decide ((s0 : Int) ≥ 0) = true := by simp
            have hs1' : (0 : Int) ≤ (s0 : Int) := Int.natCast_nonneg _
            have hs2' : (s0 : Int) < (H.length : Int) := by omega
            go_wp2_with fail
            obtain ⟨g, rfl, hX⟩ := hP4.at_ hsl
            have hP5 := hide (hX.add (y := x) hsl hlt).drew
            have hb5 := hide (below_drew (hb4.setCell (p := ⟨g, s0, none⟩) hX.B (.int .u64 (withB (setB ((wrTo H x i) s0) H.length) (x : Int) : Nat))))
            obtain ⟨-, c0, c1, d0, df, gp, gl, -, h64⟩ := hX
            clear hst hsk hneg hs0 hsx hthi hP4 hb4
            generalize setB ((wrTo H x i) s0) H.length = s at *
            go_upto_region 10 with fail
            refine wp_region_still_tail 19 (by kernel_rfl) (by kernel_rfl) ?_
            simp only [List.take_succ_cons, List.take_zero, List.drop_succ_cons, List.drop_zero]
            repeat still_step
            still_call ((rwith10_any _ h64 _ _).mono fun _ _ h => ⟨h.1, h.2.symm⟩)
            repeat still_step
            refine wpStill_nil ?_
            change wpList _ _ _ _ _ (wr).drew
            go_wp2
            go_roundw
            case rel => exact ⟨i + 1, by omega, by go_num, by rw [hE2.out]; exact hP5.out, hb5.out⟩
            case measure => simp [intOf]; omega
        · obtain rfl : i = R.length := by omega
          rw [wrTo_row hRt.out] at hP4
          clear hPr
          go_wp2
          go_roundw
          case rel => exact ⟨x + 1, by omega, by go_num, hP4, hb4⟩
          case measure => simp [intOf]; omega
    · obtain rfl : x = H.length := by omega
      have hP4 := hPr.congr (F := wrE H) fun a b _ hb => wrTo_all hb
      have k3r := k3.below hbr k3.lt
      have f0 := k3r.frozen 0
      have f1 := k3r.frozen 1
      have e0 := k3r.cell 0
      have e1 := k3r.cell 1
      have hs0 := s0.out
      have hs3 : w.heap.size + 1 < W0.heap.size := k3.lt
      have hR := hide (((hP4.rg.far (p := ⟨w.heap.size + 1, 0, none⟩) hs3 (.int .i64 H.length)).far (p := ⟨w.heap.size + 1, 1, none⟩) hs3 (.slice Av H.length cv)).base (B' := w.heap.size) (by omega))
      have hz := hide (((hb.trans (hbr.mono hb.size)).setCell (p := ⟨w.heap.size + 1, 0, none⟩) (by simp; try omega) (.int .i64 H.length)).setCell (p := ⟨w.heap.size + 1, 1, none⟩) (by simp; try omega) (.slice Av H.length cv))
      have hq := (k3r.set_ 0 (.int .i64 H.length)).set_ 1 (.slice Av H.length cv)
      simp only [List.setIfInBounds_toArray, List.set_cons_zero, List.set_cons_succ] at hq
      have y0 := hq.cell 0
      have y1 := hq.cell 1
      simp only [List.getElem?_toArray, List.getElem?_cons_zero, List.getElem?_cons_succ] at y0 y1 e0 e1
      clear hq hs0 hs3
      go_wp2_with fail
      exact bodyPost_ret (v := .agg #[.int .i64 H.length, .slice Av H.length cv]) (by simp [results, Tryz.results183, go_sem, y0, y1]) rfl ⟨_, rfl, hR.out, hz.out⟩
end Go.Proofs.YtjomijnbnbideaaGreatDoor

namespace Go.Proofs.YtjomijnbnbideaaGreatDoor
open Go.RowKit Go.Inq
set_option maxHeartbeats 4000000
attribute [local go_sem ↓] Go.wp_at_zero Go.wp_at_succ

theorem writes08_any (ts : Int) (A : Option Addr) (c : Nat) (l : List Int) (vr : Value) (x : Int) (K : Nat → Prop) (w : World) (h : IntS w K (.slice A l.length c) l) (hK : ∀ b, K b → b < w.heap.size) (hn : l.length ≤ maxLen) :
    Calls Tryz.prog 163 #[.agg #[.int .i64 ts, .slice A l.length c, vr], .int .i64 x] w fun e w' => e = .returned (.bool (l.contains x)) ∧ Below w.heap.size w w' := by
  unfold maxLen at hn
  have hA : Below w.heap.size w (w.alloc (.cells #[.int .i64 ts, .slice A l.length c, vr] 101)) := (Below.refl _ _).alloc (Nat.le_refl _) _
  have kt : Blk (w.alloc (.cells #[.int .i64 ts, .slice A l.length c, vr] 101)) w.heap.size 101 #[.int .i64 ts, .slice A l.length c, vr] := Blk.new _ _ _
  have h1 := IntS.keep h (Agree.below hA hK) (fun b h => h)
  have y0 := kt.cell 1
  simp only [List.getElem?_toArray, List.getElem?_cons_zero, List.getElem?_cons_succ] at y0
  have hno : (∀ j (hj : j < l.length), l[j] ≠ x) → l.contains x = false := fun g => by
    rw [← Bool.not_eq_true, List.contains_iff_mem]
    intro hm
    obtain ⟨j, hj, e⟩ := List.getElem_of_mem hm
    exact g j hj e
  have hyes : ∀ j (hj : j < l.length), x = l[j] → l.contains x = true := fun j hj e => by
    rw [List.contains_iff_mem, e]; exact List.getElem_mem hj
  generalize l.contains x = cb at *
  replace hno := hide hno
  replace hyes := hide hyes
  go_enter Tryz.func163, Tryz.ntmps163
  go_wp2_with fail
  generalize w.alloc (.cells #[.int .i64 ts, .slice A l.length c, vr] 101) = W at *
  go_loop [5] (fun s5 => ∃ k : Nat, k ≤ l.length ∧ s5 = .int .i64 k ∧ Hid (∀ j (hj : j < l.length), j < k → l[j] ≠ x)) (fun s5 => l.length - (intOf s5).toNat)
  case atStart => exact ⟨0, Nat.zero_le _, by go_num, fun j hj h => absurd h (by omega)⟩
  case round =>
    obtain ⟨k, hk, rfl, hall⟩ := hrel
    have hk1 : (0 : Int) ≤ (k : Int) := Int.natCast_nonneg _
    by_cases hlt : k < l.length
    · have hi2 : (k : Int) < (l.length : Int) := by omega
      obtain ⟨b, off, rfl, _, hc⟩ := h1.at_ hlt
      have hh := hide (fun g => hyes.out k hlt g)
      have hst : Hid (l[k] ≠ x → ∀ j (hj : j < l.length), j < k + 1 → l[j] ≠ x) := fun g j hj hjk => by
        by_cases e : j = k
        · subst e; exact g
        · exact hall.out j hj (by omega)
      clear hall
      by_cases he : x = l[k]
      · have hb : (l[k] == x) = true := by simpa using he.symm
        have hr := hide (hh.out he)
        clear he hh hst
        go_wp2
        go_ret
        exact ⟨by rw [hr.out]; rfl, hA⟩
      · have hb : (l[k] == x) = false := by simpa using fun e => he e.symm
        have hn2 := hide (hst.out (fun e => he e.symm))
        clear he hh hst
        go_wp2
        go_round
        case rel => exact ⟨k + 1, by omega, by go_num, hn2⟩
        case measure => simp [intOf]; omega
    · have hr := hide (hno.out fun j hj => hall.out j hj (by omega))
      go_wp2
      go_ret
      exact ⟨by rw [hr.out]; rfl, hA⟩

theorem txF_no_w {H : List Txn} {n : Nat} (h : n < H.length) {j : Nat} (hj : j < H[n].writes.length) (hb : wF H[n].writes j = false) : (txF H n).all id = false := by
  rw [txF_at h]
  refine pre_false (List.prefix_refl _) (List.mem_append.2 (.inl (List.mem_append.2 (.inl ?_))))
  unfold wFs
  exact List.mem_map.2 ⟨j, by simpa using hj, hb⟩
theorem txF_no_r {H : List Txn} {n : Nat} (h : n < H.length) {j : Nat} (hj : j < H[n].reads.length) (hb : rF H n H[n].reads j = false) : (txF H n).all id = false := by
  rw [txF_at h]
  refine pre_false (List.prefix_refl _) (List.mem_append.2 (.inl (List.mem_append.2 (.inr ?_))))
  unfold rFs
  exact List.mem_map.2 ⟨j, by simpa using hj, hb⟩
theorem txF_no_s {H : List Txn} {n : Nat} (h : n < H.length) (hb : belowB H[n].sess 8 = false) : (txF H n).all id = false := by
  rw [txF_at h]
  exact pre_false (List.prefix_refl _) (List.mem_append.2 (.inr (by simp [hb])))
theorem txF_yes {H : List Txn} {n : Nat} (h : n < H.length) (hs : belowB H[n].sess 8 = true) (hw : ∀ j, j < H[n].writes.length → wF H[n].writes j = true) (hr : ∀ j, j < H[n].reads.length → rF H n H[n].reads j = true) : (txF H n).all id = true := by
  rw [txF_at h, List.all_append, List.all_append]
  have h1 : (wFs H[n].writes H[n].writes.length).all id = true := by
    rw [List.all_eq_true]
    intro b hb
    unfold wFs at hb
    obtain ⟨j, hj, rfl⟩ := List.mem_map.1 hb
    exact hw j (by simpa using hj)
  have h2 : (rFs H n H[n].reads H[n].reads.length).all id = true := by
    rw [List.all_eq_true]
    intro b hb
    unfold rFs at hb
    obtain ⟨j, hj, rfl⟩ := List.mem_map.1 hb
    exact hr j (by simpa using hj)
  rw [h1, h2]
  simp [hs]
/-- A key behind good ones: good just if it is a key, and greater than the one ahead. -/
theorem wF_first {l : List Int} (h : 0 < l.length) : wF l 0 = (decide (0 ≤ l[0]) && decide (l[0] < 16)) := by
  rw [wF_at h, show l.take 0 = [] from rfl, lastK_nil]
  congr 1
theorem wF_next {l : List Int} {m : Nat} (h : m + 1 < l.length) : wF l (m + 1) = (decide (l[m] < l[m + 1]) && decide (l[m + 1] < 16)) := by
  rw [wF_at h, List.take_succ_eq_append_getElem (by omega), lastK_snoc]
theorem wF_pos {l : List Int} : ∀ {m : Nat} (h : m < l.length), (∀ j, j ≤ m → wF l j = true) → 0 ≤ l[m]
  | 0, h, hall => by
    have := hall 0 (Nat.le_refl _)
    rw [wF_first h, Bool.and_eq_true, decide_eq_true_eq] at this
    exact this.1
  | m + 1, h, hall => by
    have ih := wF_pos (m := m) (by omega) fun j hj => hall j (by omega)
    have := hall (m + 1) (Nat.le_refl _)
    rw [wF_next h, Bool.and_eq_true, decide_eq_true_eq] at this
    omega
theorem rF_key {H : List Txn} {n : Nat} {l : List It} {j : Nat} (h : j < l.length) : rF H n l j = (wF (l.map (·.a)) j && thereB H n l[j]) := by
  rw [rF_at h, wF_at (by rw [List.length_map]; exact h), List.getElem_map, List.map_take]
theorem wF_is {l : List Int} {i : Nat} (h : i < l.length) (hall : ∀ j, j < i → wF l j = true) : wF l i = true ↔ 0 ≤ l[i] ∧ l[i] < 16 ∧ ∀ m (hm : m + 1 = i), l[m]'(by omega) < l[i] := by
  cases i with
  | zero =>
    rw [wF_first h, Bool.and_eq_true, decide_eq_true_eq, decide_eq_true_eq]
    exact ⟨fun g => ⟨g.1, g.2, fun m hm => by omega⟩, fun g => ⟨g.1, g.2.1⟩⟩
  | succ m =>
    have hp := wF_pos (m := m) (by omega) fun j hj => hall j (by omega)
    rw [wF_next h, Bool.and_eq_true, decide_eq_true_eq, decide_eq_true_eq]
    refine ⟨fun g => ⟨by omega, g.2, fun m' hm => ?_⟩, fun g => ⟨g.2.2 m rfl, g.2.1⟩⟩
    obtain rfl : m' = m := by omega
    exact g.1
theorem belowN {B : Nat} {w W : World} (h : Below B w W) (n : Nat) : Below B w (W.drewN n) := h.trans ⟨rfl, rfl, rfl, Nat.le_refl _, fun _ _ => rfl⟩
/-- A history's row as long as a slice may be. -/
def LenH (l : List Txn) : Prop := l.length ≤ 9223372036854775807 ∧ ∀ t ∈ l, t.writes.length ≤ 9223372036854775807 ∧ t.reads.length ≤ 9223372036854775807
theorem SmallH.len {l : List Txn} (h : SmallH l) : LenH l := ⟨by have := h.1; omega, fun t ht => by have := h.2 t ht; omega⟩
set_option maxHeartbeats 16000000 in
set_option maxRecDepth 100000 in
theorem one08_any (A : Option Addr) (c : Nat) (H : List Txn) (n : Nat) (w : World) (h : TxnS w (Old w) (.slice A H.length c) H) (hn : n < H.length) (hs : LenH H) :
    Calls Tryz.prog 111 #[.agg #[.slice A H.length c], .int .i64 n] w fun e w' => e = .returned (.bool ((txF H n).all id)) ∧ Below w.heap.size w w' := by
  have hH := hs.1
  obtain ⟨hsw, hsr⟩ := hs.2 _ (List.getElem_mem hn)
  have hAll := hide (fun m hm => (hs.2 _ (List.getElem_mem (l := H) (n := m) hm)).1)
  have hnw := hide (fun j hj hb => txF_no_w hn (j := j) hj hb)
  have hnr := hide (fun j hj hb => txF_no_r hn (j := j) hj hb)
  have hns := hide (fun hb => txF_no_s hn hb)
  have hyes := hide (fun a b c => txF_yes hn a b c)
  obtain ⟨b, off, Aw, cw, Ar, cr, rfl, hbK, d0, d1, d2, hws, hrs⟩ := TxnS.at_ h hn
  generalize ht : H[n] = t at *
  replace ht := hide ht
  obtain ⟨ts, ws, rs⟩ := t
  dsimp only at *
  have hW1 : Below w.heap.size w (w.alloc (.cells #[.slice (some ⟨b, off, none⟩) H.length c] 24)) := (Below.refl _ _).alloc (Nat.le_refl _) _
  have kH : Blk (w.alloc (.cells #[.slice (some ⟨b, off, none⟩) H.length c] 24)) w.heap.size 24 #[.slice (some ⟨b, off, none⟩) H.length c] := Blk.new _ _ _
  have e0 := (hW1.cell (p := ⟨b, off + n * 3, none⟩) hbK).trans d0
  have e1 := (hW1.cell (p := ⟨b, off + n * 3 + 1, none⟩) hbK).trans d1
  have e2 := (hW1.cell (p := ⟨b, off + n * 3 + 2, none⟩) hbK).trans d2
  have z0 := kH.cell 0
  simp only [List.getElem?_toArray, List.getElem?_cons_zero] at z0
  have hB2 := hW1.alloc hW1.size (.cells #[.int .i64 ts, .slice Aw ws.length cw, .slice Ar rs.length cr] 101)
  have kT : Blk ((w.alloc (.cells #[.slice (some ⟨b, off, none⟩) H.length c] 24)).alloc (.cells #[.int .i64 ts, .slice Aw ws.length cw, .slice Ar rs.length cr] 101)) (w.heap.size + 1) 101 #[.int .i64 ts, .slice Aw ws.length cw, .slice Ar rs.length cr] := by
    have := Blk.new (w.alloc (.cells #[.slice (some ⟨b, off, none⟩) H.length c] 24)) 101 #[.int .i64 ts, .slice Aw ws.length cw, .slice Ar rs.length cr]
    simp only [World.size_alloc] at this
    exact this
  have kH2 := kH.alloc (.cells #[.int .i64 ts, .slice Aw ws.length cw, .slice Ar rs.length cr] 101)
  have hn1 : (0 : Int) ≤ (n : Int) := Int.natCast_nonneg _
  have hn2 : (n : Int) < (H.length : Int) := by omega
  have t0 := kT.cell 0
  simp only [List.getElem?_toArray, List.getElem?_cons_zero] at t0
  by_cases g0 : ts < 0
  · have g0b : decide (ts < 0) = true := by simpa using g0
    have hno := hide (hns.out (by simp [belowB]; omega))
    go_enter Tryz.func111, Tryz.ntmps111
    go_wp2
    go_ret
    exact ⟨by rw [hno.out]; rfl, hB2⟩
  have g0b : decide (ts < 0) = false := by simpa using g0
  by_cases g1 : 7 < ts
  · have g1b : decide (ts > 7) = true := by simpa using g1
    have hno := hide (hns.out (by simp [belowB]; omega))
    go_enter Tryz.func111, Tryz.ntmps111
    go_wp2
    go_ret
    exact ⟨by rw [hno.out]; rfl, hB2⟩
  have g1b : decide (ts > 7) = false := by simpa using g1
  have hyes2 := hide (hyes.out (by simp [belowB]; omega))
  clear hyes hns
  go_enter Tryz.func111, Tryz.ntmps111
  go_wp2_with fail
  clear d0 d1 d2 e0 e1 e2 z0 t0 g0b g1b kH hW1
  generalize (w.alloc (.cells #[.slice (some ⟨b, off, none⟩) H.length c] 24)).alloc (.cells #[.int .i64 ts, .slice Aw ws.length cw, .slice Ar rs.length cr] 101) = W2 at *
  go_loopw [6] (fun s6 wr => ∃ i : Nat, i ≤ ws.length ∧ s6 = .int .i64 i ∧ Hid (∀ j, j < i → wF ws j = true) ∧ Below w.heap.size w wr ∧ Blk wr (w.heap.size + 1) 101 #[.int .i64 ts, .slice Aw ws.length cw, .slice Ar rs.length cr] ∧ Blk wr w.heap.size 24 #[.slice (some ⟨b, off, none⟩) H.length c]) (fun s6 _ => ws.length - (intOf s6).toNat)
  case atStart => exact ⟨0, Nat.zero_le _, by go_num, fun j h => absurd h (by omega), hB2, kT, kH2⟩
  case round =>
    clear hB2 kT kH2
    obtain ⟨i, hi, rfl, hall, hb, kT, kH⟩ := hrel
    have hi1 : (0 : Int) ≤ (i : Int) := Int.natCast_nonneg _
    have e1 := kT.cell 1
    simp only [List.getElem?_toArray, List.getElem?_cons_zero, List.getElem?_cons_succ] at e1
    by_cases hlt : i < ws.length
    · have hi2 : (i : Int) < (ws.length : Int) := by omega
      have hW := IntS.keep hws (Agree.below hb fun b h => h) (fun b h => h)
      have hcm := hide (fun m (hm : m < ws.length) => IntS.at_ hW hm)
      obtain ⟨bw, ow, rfl, hbw, ec⟩ := IntS.at_ hW hlt
      have hwf := wF_is hlt hall.out
      have hbad := hide (fun g => hnw.out i hlt g)
      have hgo : Hid (wF ws i = true → ∀ j, j < i + 1 → wF ws j = true) := fun g j hj => by
        by_cases e : j = i
        · subst e; exact g
        · exact hall.out j (by omega)
      by_cases k1 : ws[i] < 0
      · have k1b : decide (ws[i] < 0) = true := by simpa using k1
        replace hwf := hide hwf
        have hno := hide (hbad.out (by rw [← Bool.not_eq_true, hwf.out]; intro g; have := g.1; omega))
        clear hbad hwf hgo
        go_wp2_with fail
        go_quiet (fail)
        go_wp2
        go_ret
        exact ⟨by rw [hno.out]; rfl, belowN hb nq⟩
      · have k1b : decide (ws[i] < 0) = false := by simpa using k1
        by_cases k2 : 15 < ws[i]
        · have k2b : decide (ws[i] > 15) = true := by simpa using k2
          replace hwf := hide hwf
          have hno := hide (hbad.out (by rw [← Bool.not_eq_true, hwf.out]; intro g; have := g.2.1; omega))
          clear hbad hwf hgo
          go_wp2_with fail
          go_quiet (fail)
          go_wp2
          go_ret
          exact ⟨by rw [hno.out]; rfl, belowN hb nq⟩
        · have k2b : decide (ws[i] > 15) = false := by simpa using k2
          by_cases hi0 : i = 0
          · have k3b : decide ((i : Int) > 0) = false := by simp; omega
            have k3c : decide (0 < i) = false := by simp; omega
            replace hwf := hide hwf
            replace hi0 := hide hi0
            have hgo2 := hide (hgo.out (hwf.out.2 ⟨by omega, by omega, fun m hm => by have := hi0.out; omega⟩))
            clear hbad hwf hgo
            go_wp2_with fail
            go_quiet (fail)
            go_wp2
            go_roundw
            case rel => exact ⟨i + 1, by omega, by go_num, hgo2, belowN hb nq, kT, kH⟩
            case measure => simp [intOf]; omega
          · obtain ⟨m, hm⟩ : ∃ m, m + 1 = i := ⟨i - 1, by omega⟩
            have k3b : decide ((i : Int) > 0) = true := by simp; omega
            have k3c : decide (0 < i) = true := by simp; omega
            have k3d : 0 < i := by omega
            have hq : IntKind.i64.wrap ((i : Int) - 1) = (m : Int) := by rw [IntKind.wrap_i64]; omega
            have hm1 : (0 : Int) ≤ (m : Int) := Int.natCast_nonneg _
            have hm2 : (m : Int) < (ws.length : Int) := by omega
            obtain ⟨bw', ow', hA, _, em⟩ := hcm.out m (by omega)
            injection hA with hA
            injection hA with hA1 hA2
            subst hA1 hA2
            have hmi := hide hm
            by_cases k4 : ws[i] ≤ ws[m]'(by omega)
            · have k4b : decide ((ws[m]'(by omega)) ≥ ws[i]) = true := by simpa using k4
              replace hwf := hide hwf
              have hno := hide (hbad.out (by rw [← Bool.not_eq_true, hwf.out]; intro g; have := g.2.2 m hmi.out; omega))
              clear hbad hwf hgo
              go_wp2_with fail
              go_quiet (fail)
              go_wp2
              go_ret
              exact ⟨by rw [hno.out]; rfl, belowN hb nq⟩
            · have k4b : decide ((ws[m]'(by omega)) ≥ ws[i]) = false := by simpa using k4
              replace hwf := hide hwf
              have hgo2 := hide (hgo.out (hwf.out.2 ⟨by omega, by omega, fun m' hm' => by obtain rfl : m' = m := by { have := hmi.out; omega }; omega⟩))
              clear hbad hwf hgo
              go_wp2_with fail
              go_quiet (fail)
              go_wp2
              go_roundw
              case rel => exact ⟨i + 1, by omega, by go_num, hgo2, belowN hb nq, kT, kH⟩
              case measure => simp [intOf]; omega
    · obtain rfl : i = ws.length := by omega
      have hyes3 := hide (fun hr => hyes2.out hall.out hr)
      have e2 := kT.cell 2
      simp only [List.getElem?_toArray, List.getElem?_cons_zero, List.getElem?_cons_succ] at e2
      go_wp2
      clear e1 e2 hall hyes2 hi hlt hi1
      go_loopw [7] (fun s7 wr => ∃ i : Nat, i ≤ rs.length ∧ s7 = .int .i64 i ∧ Hid (∀ j, j < i → rF H n rs j = true) ∧ Below w.heap.size w wr ∧ Blk wr (w.heap.size + 1) 101 #[.int .i64 ts, .slice Aw ws.length cw, .slice Ar rs.length cr] ∧ Blk wr w.heap.size 24 #[.slice (some ⟨b, off, none⟩) H.length c]) (fun s7 _ => rs.length - (intOf s7).toNat)
      case atStart => exact ⟨0, Nat.zero_le _, by go_num, fun j h => absurd h (by omega), hb, kT, kH⟩
      case round =>
        clear hb kT kH
        obtain ⟨i, hi, rfl, hall, hb, kT, kH⟩ := hrel
        have hi1 : (0 : Int) ≤ (i : Int) := Int.natCast_nonneg _
        have e2 := kT.cell 2
        simp only [List.getElem?_toArray, List.getElem?_cons_zero, List.getElem?_cons_succ] at e2
        by_cases hlt : i < rs.length
        · have hi2 : (i : Int) < (rs.length : Int) := by omega
          have hR := ItS.keep hrs (Agree.below hb fun b h => h) (fun b h => h)
          have hcm := hide (fun m (hm : m < rs.length) => ItS.at_ hR hm)
          obtain ⟨br, or_, rfl, hbr, ec0, ec1⟩ := ItS.at_ hR hlt
          have hrk := hide (rF_key (H := H) (n := n) hlt)
          have hwf := wF_is (l := rs.map (·.a)) (i := i) (by rw [List.length_map]; exact hlt) fun j hj => by
            have := hall.out j hj
            rw [rF_key (by omega), Bool.and_eq_true] at this
            exact this.1
          rw [List.getElem_map] at hwf
          have hth := hide (thereB_iff H n rs[i])
          have hbad := hide (fun g => hnr.out i hlt g)
          have hgo : Hid (rF H n rs i = true → ∀ j, j < i + 1 → rF H n rs j = true) := fun g j hj => by
            by_cases e : j = i
            · subst e; exact g
            · exact hall.out j (by omega)
          have hmk := hide (fun m (hm : m < rs.length) => List.getElem_map (fun x : It => x.a) (l := rs) (i := m) (h := by rw [List.length_map]; exact hm))
          generalize hrx : rs[i] = x at *
          replace hrx := hide hrx
          obtain ⟨xa, xb⟩ := x
          dsimp only at ec0 ec1 hwf hth
          have hbA := hb.alloc hb.size (.cells #[.int .i64 xa, .int .i64 xb] 112)
          have kTA := kT.alloc (.cells #[.int .i64 xa, .int .i64 xb] 112)
          have kHA := kH.alloc (.cells #[.int .i64 xa, .int .i64 xb] 112)
          have kX := Blk.new wr 112 #[.int .i64 xa, .int .i64 xb]
          have u0 := kX.cell 0
          have u1 := kX.cell 1
          have y2 := kTA.cell 2
          have z0 := kHA.cell 0
          simp only [List.getElem?_toArray, List.getElem?_cons_zero, List.getElem?_cons_succ] at u0 u1 y2 z0
          replace hwf := hide hwf
          go_wp2_with fail
          clear ec0 ec1 e2 hb kT kH
          generalize hWA : wr.alloc (.cells #[.int .i64 xa, .int .i64 xb] 112) = WA at *
          replace hcm := hide (fun m (hm : m < rs.length) => ItS.at_ (ItS.keep hrs (Agree.below hbA fun b h => h) (fun b h => h)) hm)
          clear hWA hR
          generalize wr.heap.size = N8 at *
          by_cases k1 : xa < 0
          · have k1b : decide (xa < 0) = true := by simpa using k1
            have hno := hide (hbad.out (by rw [hrk.out, Bool.and_eq_false_iff]; left; rw [← Bool.not_eq_true, hwf.out]; intro g; have := g.1; omega))
            clear hbad hwf hgo hth hrk
            go_quiet (fail)
            go_wp2
            go_ret
            exact ⟨by rw [hno.out]; rfl, belowN hbA nq⟩
          · have k1b : decide (xa < 0) = false := by simpa using k1
            by_cases k2 : 15 < xa
            · have k2b : decide (xa > 15) = true := by simpa using k2
              have hno := hide (hbad.out (by rw [hrk.out, Bool.and_eq_false_iff]; left; rw [← Bool.not_eq_true, hwf.out]; intro g; have := g.2.1; omega))
              clear hbad hwf hgo hth hrk
              go_quiet (fail)
              go_wp2
              go_ret
              exact ⟨by rw [hno.out]; rfl, belowN hbA nq⟩
            · have k2b : decide (xa > 15) = false := by simpa using k2
              by_cases hi0 : i = 0
              · have k3b : decide ((i : Int) > 0) = false := by simp; omega
                have k3c : decide (0 < i) = false := by simp; omega
                have hwt := hide (hwf.out.2 ⟨by omega, by omega, fun m hm => by omega⟩)
                clear hi0
                by_cases g5 : xb < -1
                · have g5b : decide (xb < -1) = true := by simpa using g5
                  have hno := hide (hbad.out (by rw [hrk.out, Bool.and_eq_false_iff]; right; rw [← Bool.not_eq_true, hth.out]; exact fun g => g.elim (fun e => by omega) (fun ⟨k, hk, e, _⟩ => by omega)))
                  clear hbad hwf hgo hth hrk
                  go_quiet (fail)
                  go_wp2
                  go_ret
                  exact ⟨by rw [hno.out]; rfl, belowN hbA nq⟩
                · have g5b : decide (xb < -1) = false := by simpa using g5
                  by_cases g6 : (H.length : Int) ≤ xb
                  · have g6b : decide (xb ≥ (H.length : Int)) = true := by simpa using g6
                    have hno := hide (hbad.out (by rw [hrk.out, Bool.and_eq_false_iff]; right; rw [← Bool.not_eq_true, hth.out]; exact fun g => g.elim (fun e => by omega) (fun ⟨k, hk, e, _⟩ => by omega)))
                    clear hbad hwf hgo hth hrk
                    go_quiet (fail)
                    go_wp2
                    go_ret
                    exact ⟨by rw [hno.out]; rfl, belowN hbA nq⟩
                  · have g6b : decide (xb ≥ (H.length : Int)) = false := by simpa using g6
                    by_cases g7 : xb = (n : Int)
                    · have g7b : (xb == (n : Int)) = true := by simpa using g7
                      replace g7 := hide g7
                      have hno := hide (hbad.out (by rw [hrk.out, Bool.and_eq_false_iff]; right; rw [← Bool.not_eq_true, hth.out]; have g7 := g7.out; exact fun g => g.elim (fun e => by omega) (fun ⟨k, hk, e, hkn, _⟩ => by omega)))
                      clear hbad hwf hgo hth hrk
                      go_quiet (fail)
                      go_wp2
                      go_ret
                      exact ⟨by rw [hno.out]; rfl, belowN hbA nq⟩
                    · have g7b : (xb == (n : Int)) = false := by simpa using g7
                      by_cases g8 : xb < 0
                      · have g8b : decide (xb < 0) = true := by simpa using g8
                        have hgo2 := hide (hgo.out (by rw [hrk.out, hwt.out, hth.out.2 (.inl (by omega))]; rfl))
                        clear hbad hwf hgo hth hrk hwt
                        go_quiet (fail)
                        go_wp2
                        go_roundw
                        case rel => exact ⟨i + 1, by omega, by go_num, hgo2, belowN hbA nq, kTA, kHA⟩
                        case measure => simp [intOf]; omega
                      · have g8b : decide (xb < 0) = false := by simpa using g8
                        have hm' : xb.toNat < H.length := by omega
                        have hm3 : 0 ≤ xb := by omega
                        have hm4 : xb < (H.length : Int) := by omega
                        obtain ⟨b', off', Aw', cw', Ar', cr', hA', hbK', p0, p1, p2, hws', _⟩ := TxnS.at_ (TxnS.keep h (Agree.below hbA fun b h => h) (fun b h => h)) hm'
                        injection hA' with hA'
                        injection hA' with hA1 hA2
                        subst hA1 hA2
                        have hl' := hAll.out xb.toNat hm'
                        have hrf : rF H n rs i = (H[xb.toNat].writes.contains xa) := by
                          rw [hrk.out, hwt.out, Bool.true_and, Bool.eq_iff_iff, hth.out, List.contains_iff_mem]
                          refine ⟨?_, fun g => .inr ⟨xb.toNat, hm', by omega, by omega, g⟩⟩
                          rintro (e | ⟨k, hk, e, _, g⟩)
                          · omega
                          · obtain rfl : k = xb.toNat := by omega
                            exact g
                        have hbad2 := hide (fun (g : H[xb.toNat].writes.contains xa = false) => hbad.out (hrf.trans g))
                        have hgo2 := hide (fun (g : H[xb.toNat].writes.contains xa = true) => hgo.out (hrf.trans g))
                        clear hbad hwf hgo hth hrk hwt hrf g5 g6 g7
                        generalize H[xb.toNat].writes = ws' at *
                        generalize H[xb.toNat].sess = ts' at *
                        go_quiet (fail)
                        go_wp2_with fail
                        refine wp_region_plan [0, 1, 2, 3, 4, 5, 6, 7] [8, 9] (by kernel_rfl) (by kernel_rfl) (fun _ _ d _ _ h => by cases d <;> exact h) ?_
                        simp only [List.filterMap_cons, List.filterMap_nil, List.getElem?_cons_zero, List.getElem?_cons_succ]
                        repeat still_step
                        refine wpStill_nil ?_
                        go_wp2_with fail
                        refine (writes08_any ts' Aw' cw' ws' _ xa (Old w) (WA.drewN (nq + 1)) (IntS.keep hws' (Agree.drewN _ _ _) (fun b h => h)) (fun b h => Nat.lt_of_lt_of_le h hbA.size) (by unfold maxLen; omega)).mono ?_
                        rintro e W9 ⟨rfl, hb9⟩
                        have kT9 := Blk.below (w := WA) kTA ⟨hb9.os, hb9.tape, hb9.output, hb9.size, hb9.block⟩ kTA.lt
                        have kH9 := Blk.below (w := WA) kHA ⟨hb9.os, hb9.tape, hb9.output, hb9.size, hb9.block⟩ kHA.lt
                        have hbF := (belowN hbA (nq + 1)).trans (hb9.mono hbA.size)
                        generalize ws'.contains xa = cb at *
                        cases cb with
                        | false =>
                          have hno := hide (hbad2.out rfl)
                          go_wp2
                          go_ret
                          exact ⟨by rw [hno.out]; rfl, hbF⟩
                        | true =>
                          have hgo3 := hide (hgo2.out rfl)
                          go_wp2
                          go_roundw
                          case rel => exact ⟨i + 1, by omega, by go_num, hgo3, hbF, kT9, kH9⟩
                          case measure => simp [intOf]; omega
              · obtain ⟨m, hm⟩ : ∃ m, m + 1 = i := ⟨i - 1, by omega⟩
                have k3b : decide ((i : Int) > 0) = true := by simp; omega
                have k3c : decide (0 < i) = true := by simp; omega
                have k3d : 0 < i := by omega
                have hq : IntKind.i64.wrap ((i : Int) - 1) = (m : Int) := by rw [IntKind.wrap_i64]; omega
                have hm1 : (0 : Int) ≤ (m : Int) := Int.natCast_nonneg _
                have hm2 : (m : Int) < (rs.length : Int) := by omega
                obtain ⟨bw', ow', hA, _, em, _⟩ := hcm.out m (by omega)
                injection hA with hA
                injection hA with hA1 hA2
                subst hA1 hA2
                have hme := hmk.out m (by omega)
                generalize (rs[m]'(by omega)).a = pv at *
                replace hme := hide hme
                have hmi := hide hm
                clear hi0
                by_cases k4 : xa ≤ pv
                · have k4b : decide (pv ≥ xa) = true := by simpa using k4
                  have hno := hide (hbad.out (by rw [hrk.out, Bool.and_eq_false_iff]; left; rw [← Bool.not_eq_true, hwf.out]; intro g; have := g.2.2 m hmi.out; rw [hme.out] at this; omega))
                  clear hbad hwf hgo hth hrk
                  go_quiet (fail)
                  go_wp2
                  go_ret
                  exact ⟨by rw [hno.out]; rfl, belowN hbA nq⟩
                · have k4b : decide (pv ≥ xa) = false := by simpa using k4
                  have hwt := hide (hwf.out.2 ⟨by omega, by omega, fun m' hm' => by
                    obtain rfl : m' = m := by have := hmi.out; omega
                    rw [hme.out]; omega⟩)
                  by_cases g5 : xb < -1
                  · have g5b : decide (xb < -1) = true := by simpa using g5
                    have hno := hide (hbad.out (by rw [hrk.out, Bool.and_eq_false_iff]; right; rw [← Bool.not_eq_true, hth.out]; exact fun g => g.elim (fun e => by omega) (fun ⟨k, hk, e, _⟩ => by omega)))
                    clear hbad hwf hgo hth hrk
                    go_quiet (fail)
                    go_wp2
                    go_ret
                    exact ⟨by rw [hno.out]; rfl, belowN hbA nq⟩
                  · have g5b : decide (xb < -1) = false := by simpa using g5
                    by_cases g6 : (H.length : Int) ≤ xb
                    · have g6b : decide (xb ≥ (H.length : Int)) = true := by simpa using g6
                      have hno := hide (hbad.out (by rw [hrk.out, Bool.and_eq_false_iff]; right; rw [← Bool.not_eq_true, hth.out]; exact fun g => g.elim (fun e => by omega) (fun ⟨k, hk, e, _⟩ => by omega)))
                      clear hbad hwf hgo hth hrk
                      go_quiet (fail)
                      go_wp2
                      go_ret
                      exact ⟨by rw [hno.out]; rfl, belowN hbA nq⟩
                    · have g6b : decide (xb ≥ (H.length : Int)) = false := by simpa using g6
                      by_cases g7 : xb = (n : Int)
                      · have g7b : (xb == (n : Int)) = true := by simpa using g7
                        replace g7 := hide g7
                        have hno := hide (hbad.out (by rw [hrk.out, Bool.and_eq_false_iff]; right; rw [← Bool.not_eq_true, hth.out]; have g7 := g7.out; exact fun g => g.elim (fun e => by omega) (fun ⟨k, hk, e, hkn, _⟩ => by omega)))
                        clear hbad hwf hgo hth hrk
                        go_quiet (fail)
                        go_wp2
                        go_ret
                        exact ⟨by rw [hno.out]; rfl, belowN hbA nq⟩
                      · have g7b : (xb == (n : Int)) = false := by simpa using g7
                        by_cases g8 : xb < 0
                        · have g8b : decide (xb < 0) = true := by simpa using g8
                          have hgo2 := hide (hgo.out (by rw [hrk.out, hwt.out, hth.out.2 (.inl (by omega))]; rfl))
                          clear hbad hwf hgo hth hrk hwt
                          go_quiet (fail)
                          go_wp2
                          go_roundw
                          case rel => exact ⟨i + 1, by omega, by go_num, hgo2, belowN hbA nq, kTA, kHA⟩
                          case measure => simp [intOf]; omega
                        · have g8b : decide (xb < 0) = false := by simpa using g8
                          have hm' : xb.toNat < H.length := by omega
                          have hm3 : 0 ≤ xb := by omega
                          have hm4 : xb < (H.length : Int) := by omega
                          obtain ⟨b', off', Aw', cw', Ar', cr', hA', hbK', p0, p1, p2, hws', _⟩ := TxnS.at_ (TxnS.keep h (Agree.below hbA fun b h => h) (fun b h => h)) hm'
                          injection hA' with hA'
                          injection hA' with hA1 hA2
                          subst hA1 hA2
                          have hl' := hAll.out xb.toNat hm'
                          have hrf : rF H n rs i = (H[xb.toNat].writes.contains xa) := by
                            rw [hrk.out, hwt.out, Bool.true_and, Bool.eq_iff_iff, hth.out, List.contains_iff_mem]
                            refine ⟨?_, fun g => .inr ⟨xb.toNat, hm', by omega, by omega, g⟩⟩
                            rintro (e | ⟨k, hk, e, _, g⟩)
                            · omega
                            · obtain rfl : k = xb.toNat := by omega
                              exact g
                          have hbad2 := hide (fun (g : H[xb.toNat].writes.contains xa = false) => hbad.out (hrf.trans g))
                          have hgo2 := hide (fun (g : H[xb.toNat].writes.contains xa = true) => hgo.out (hrf.trans g))
                          clear hbad hwf hgo hth hrk hwt hrf g5 g6 g7
                          generalize H[xb.toNat].writes = ws' at *
                          generalize H[xb.toNat].sess = ts' at *
                          go_quiet (fail)
                          go_wp2_with fail
                          refine wp_region_plan [0, 1, 2, 3, 4, 5, 6, 7] [8, 9] (by kernel_rfl) (by kernel_rfl) (fun _ _ d _ _ h => by cases d <;> exact h) ?_
                          simp only [List.filterMap_cons, List.filterMap_nil, List.getElem?_cons_zero, List.getElem?_cons_succ]
                          repeat still_step
                          refine wpStill_nil ?_
                          go_wp2_with fail
                          refine (writes08_any ts' Aw' cw' ws' _ xa (Old w) (WA.drewN (nq + 1)) (IntS.keep hws' (Agree.drewN _ _ _) (fun b h => h)) (fun b h => Nat.lt_of_lt_of_le h hbA.size) (by unfold maxLen; omega)).mono ?_
                          rintro e W9 ⟨rfl, hb9⟩
                          have kT9 := Blk.below (w := WA) kTA ⟨hb9.os, hb9.tape, hb9.output, hb9.size, hb9.block⟩ kTA.lt
                          have kH9 := Blk.below (w := WA) kHA ⟨hb9.os, hb9.tape, hb9.output, hb9.size, hb9.block⟩ kHA.lt
                          have hbF := (belowN hbA (nq + 1)).trans (hb9.mono hbA.size)
                          generalize ws'.contains xa = cb at *
                          cases cb with
                          | false =>
                            have hno := hide (hbad2.out rfl)
                            go_wp2
                            go_ret
                            exact ⟨by rw [hno.out]; rfl, hbF⟩
                          | true =>
                            have hgo3 := hide (hgo2.out rfl)
                            go_wp2
                            go_roundw
                            case rel => exact ⟨i + 1, by omega, by go_num, hgo3, hbF, kT9, kH9⟩
                            case measure => simp [intOf]; omega
        · obtain rfl : i = rs.length := by omega
          have hr := hide (hyes3.out hall.out)
          go_wp2
          go_ret
          exact ⟨by rw [hr.out]; rfl, hb⟩
end Go.Proofs.YtjomijnbnbideaaGreatDoor

namespace Go.Proofs.YtjomijnbnbideaaGreatDoor
open Go.RowKit Go.Inq
set_option maxHeartbeats 8000000
attribute [local go_sem ↓] Go.wp_at_zero Go.wp_at_succ

/-- Row t's edges to the first w nodes, where P holds. -/
def rowE (t w : Nat) (P : Nat → Bool) : Edges := fun a b => decide (a = t) && (decide (b < w) && P b)
theorem rowE_zero (E : Edges) (t : Nat) (P : Nat → Bool) : orE E (rowE t 0 P) = E := by
  funext a b; simp [orE, rowE]
theorem rowE_step {E : Edges} {t w : Nat} {P : Nat → Bool} (h : P w = true) : orE E (rowE t (w + 1) P) = orE (orE E (rowE t w P)) (oneE t w) := by
  funext a b
  unfold orE rowE oneE
  by_cases e : b = w
  · subst e; simp [h]
  · have : decide (b < w + 1) = decide (b < w) := by simp; omega
    simp [e, this]
theorem rowE_skip {E : Edges} {t w : Nat} {P : Nat → Bool} (h : P w = false) : orE E (rowE t (w + 1) P) = orE E (rowE t w P) := by
  funext a b
  unfold orE rowE
  by_cases e : b = w
  · subst e; simp [h]
  · have : decide (b < w + 1) = decide (b < w) := by simp; omega
    simp [this]
/-- Does a read see what was there at first, that b writes over? -/
def inP (H : List Txn) (t : Nat) (r : It) (b : Nat) : Bool := decide (t ≠ b) && (decide (r.b = -1) && (txnAt H b).writes.contains r.a)
/-- Who reads what was there at first, of the readers ahead of t, and the first i reads of t. -/
def inTo (H : List Txn) (t i : Nat) : Edges := fun a b => (decide (a < t) && (txnAt H a).reads.any fun r => inP H a r b) || (decide (a = t) && ((txnAt H a).reads.take i).any fun r => inP H a r b)
theorem inTo_zero (H : List Txn) : inTo H 0 0 = noE := by
  funext a b
  simp [inTo, noE]
theorem inTo_step {H : List Txn} {t i : Nat} {R : List It} (hR : (txnAt H t).reads = R) (hi : i < R.length) {n a b : Nat} (hb : b < n) : orE (inTo H t i) (rowE t n (inP H t R[i])) a b = inTo H t (i + 1) a b := by
  subst hR
  unfold orE inTo rowE
  by_cases e : a = t
  · subst e
    rw [List.take_succ_eq_append_getElem hi, List.any_append]
    simp [hb]
  · simp [e]
theorem inTo_row {H : List Txn} {t : Nat} {R : List It} (hR : (txnAt H t).reads = R) : inTo H t R.length = inTo H (t + 1) 0 := by
  subst hR
  funext a b
  unfold inTo
  by_cases e : a = t
  · subst e
    rw [List.take_length]
    simp
  · have : decide (a < t + 1) = decide (a < t) := by simp; omega
    simp [e, this]
theorem inTo_all {H : List Txn} {a b : Nat} (ha : a < H.length) : inTo H H.length 0 a b = initE H a b := by
  unfold inTo initE inP
  simp only [ha, decide_true, Bool.true_and, List.take_zero, List.any_nil, Bool.and_false, Bool.or_false]
  rw [Bool.eq_iff_iff]
  simp only [List.any_eq_true, Bool.and_eq_true]
  constructor
  · rintro ⟨r, h1, h2, h3⟩; exact ⟨h2, r, h1, h3⟩
  · rintro ⟨h2, r, h1, h3⟩; exact ⟨r, h1, h2, h3⟩
set_option maxRecDepth 100000 in
theorem rinit17_any (A : Option Addr) (c : Nat) (H : List Txn) (w : World) (h : TxnS w (Old w) (.slice A H.length c) H) (hr : rightH H = true) (hn : SmallH H) :
    Calls Tryz.prog 184 #[.agg #[.slice A H.length c]] w (OutR w H.length (initE H)) := by
  have hn64 : H.length ≤ 64 := by have := ((rightH_iff H).1 hr).1; omega
  clear hr
  go_enter Tryz.func184, Tryz.ntmps184
  go_upto_region 1 with fail
  obtain ⟨W0, hW0⟩ : ∃ W0, (w.alloc (.cells #[.slice A H.length c] 24)).alloc (.cells #[.int .i64 0, .slice none 0 0] 124) = W0 := ⟨_, rfl⟩
  rw [hW0]
  have hb := below_two hW0
  have k1 := Blk.two1 hW0
  have k3 := Blk.two2 hW0
  have s0 := size_two hW0
  have hT := hide (h.below hb)
  clear hW0 h
  have c0 := k1.cell 0
  simp only [List.getElem?_toArray, List.getElem?_cons_zero, List.getElem?_cons_succ] at c0
  replace s0 := hide s0
  go_wp2_with fail
  refine (rnew12_any H.length hn64 W0).mono ?_
  rintro e w1 ⟨v, rfl, hR, hb1⟩
  clear c0
  obtain ⟨Av, cv, rfl, -⟩ := hR.gr hn64 (K := fun _ => True) (fun _ _ _ => trivial)
  go_upto_region 2 with fail
  obtain ⟨W5, hW5⟩ : ∃ W5, w1.alloc (.cells #[.int .i64 (H.length : Int), .slice Av H.length cv] 124) = W5 := ⟨_, rfl⟩
  rw [hW5]
  have hP := RGP.start hR hn64 hW5
  have hs1 := hb1.size
  have hb5 := below_allocEq hb1 hW5 hs1
  clear hW5 hR hb1
  go_wp2_with fail
  go_loopw [4] (fun s4 wr => ∃ x : Nat, x ≤ H.length ∧ s4 = .int .i64 x ∧ RGP wr W0.heap.size w1.heap.size H.length (inTo H x 0) Av cv ∧ Below W0.heap.size W0 wr) (fun s4 _ => H.length - (intOf s4).toNat)
  case atStart => exact ⟨0, Nat.zero_le _, by go_num, by rw [inTo_zero]; exact hP, hb5⟩
  case round =>
    obtain ⟨x, hx, rfl, hPr, hbr⟩ := hrel
    have hx1 : (0 : Int) ≤ (x : Int) := Int.natCast_nonneg _
    have c0 := hPr.c0
    have c1 := hPr.c1
    by_cases hlt : x < H.length
    · have hx2 : (x : Int) < (H.length : Int) := by omega
      obtain ⟨bt, ot, Aw, cw, Ar, cr, hA, hKb, -, -, d2, -, hrs⟩ := hT.out.at_ hlt
      subst hA
      replace d2 := (hbr.cell (p := ⟨bt, ot + x * 3 + 2, none⟩) hKb).trans d2
      have k1q := k1.below hbr k1.lt
      have a0 := k1q.cell 0
      simp only [List.getElem?_toArray, List.getElem?_cons_zero, List.getElem?_cons_succ] at a0
      obtain ⟨R, hR⟩ : ∃ R, H[x].reads = R := ⟨_, rfl⟩
      have hRt : (txnAt H x).reads = R := by rw [txnAt_of hlt]; exact hR
      have hR9 : R.length ≤ 1000000 := by rw [← hR]; exact (hn.2 _ (List.getElem_mem hlt)).2
      rw [hR] at hrs d2
      clear hR
      replace hRt := hide hRt
      replace hrs := hide hrs
      go_wp2_with fail
      clear c0 c1 a0 d2 k1q
      go_loopw [6] (fun s6 wq => ∃ i : Nat, i ≤ R.length ∧ s6 = .int .i64 i ∧ RGP wq W0.heap.size w1.heap.size H.length (inTo H x i) Av cv ∧ Below W0.heap.size W0 wq) (fun s6 _ => R.length - (intOf s6).toNat)
      case atStart => exact ⟨0, Nat.zero_le _, by go_num, hPr, hbr⟩
      case round =>
        obtain ⟨i, hi, rfl, hPi, hbi⟩ := hrel
        have hi1 : (0 : Int) ≤ (i : Int) := Int.natCast_nonneg _
        by_cases hlq : i < R.length
        · have hi2 : (i : Int) < (R.length : Int) := by omega
          clear hPr
          have hend := hide (fun a b (hb : b < H.length) => inTo_step (a := a) hRt.out hlq hb)
          have hRi : Hid (∀ wq, Below W0.heap.size W0 wq → ∃ b off, Ar = some ⟨b, off, none⟩ ∧ wq.cell? ⟨b, off + i * 2, none⟩ = some (.int .i64 R[i].a) ∧ wq.cell? ⟨b, off + i * 2 + 1, none⟩ = some (.int .i64 R[i].b)) := hide fun wq hq => by
            obtain ⟨b, off, g1, -, g2, g3⟩ := (hrs.out.below hq).at_ hlq
            exact ⟨b, off, g1, g2, g3⟩
          generalize R[i] = r at *
          go_wp2_with fail
          go_loopw [7] (fun s7 wq => ∃ y : Nat, y ≤ H.length ∧ s7 = .int .i64 y ∧ RGP wq W0.heap.size w1.heap.size H.length (orE (inTo H x i) (rowE x y (inP H x r))) Av cv ∧ Below W0.heap.size W0 wq) (fun s7 _ => H.length - (intOf s7).toNat)
          case atStart => exact ⟨0, Nat.zero_le _, by go_num, by rw [rowE_zero]; exact hPi, hbi⟩
          case round =>
            obtain ⟨y, hy, rfl, hPy, hby⟩ := hrel
            have hy1 : (0 : Int) ≤ (y : Int) := Int.natCast_nonneg _
            have c0 := hPy.c0
            by_cases hly : y < H.length
            · have hy2 : (y : Int) < (H.length : Int) := by omega
              obtain ⟨br, orr, rfl, z0, -⟩ := hRi.out _ hby
              obtain ⟨bt', ot', Aw', cw', Ar', cr', e', hKb', d0, d1, d2, hws, -⟩ := (hT.out.below hby).at_ hly
              injection e' with e'
              injection e' with e1 e2
              subst e1 e2
              have k1y := k1.below hby k1.lt
              have a0 := k1y.cell 0
              simp only [List.getElem?_toArray, List.getElem?_cons_zero, List.getElem?_cons_succ] at a0
              have hwl : H[y].writes.length ≤ maxLen := by have := (hn.2 _ (List.getElem_mem hly)).1; unfold maxLen; omega
              have hst := hide (rowE_step (E := inTo H x i) (t := x) (w := y) (P := inP H x r))
              have hsk := hide (rowE_skip (E := inTo H x i) (t := x) (w := y) (P := inP H x r))
              have hinP : Hid (inP H x r y = (decide (x ≠ y) && (decide (r.b = -1) && H[y].writes.contains r.a))) := hide (by unfold inP; rw [txnAt_of hly])
              have hcw := hide (writes08_any H[y].sess Aw' cw' H[y].writes (.slice Ar' H[y].reads.length cr') r.a (Old wr) wr.drew (hws.keep (Agree.drew _ _) (fun b h => h)) (fun b h => h) hwl)
              generalize H[y].writes = L at *
              generalize H[y].sess = sy at *
              generalize H[y].reads = Ry at *
              generalize L.contains r.a = cb at *
              go_wp2_with fail
              refine wp_region_still_tail 10 (by kernel_rfl) (by kernel_rfl) ?_
              simp only [List.take_succ_cons, List.take_zero, List.drop_succ_cons, List.drop_zero]
              repeat still_step
              refine wpStill_nil ?_
              go_wp2_with fail
              refine hcw.out.mono ?_
              rintro e w3 ⟨rfl, hb3⟩
              have hb4 := (below_drew hby).trans (hb3.mono hby.size)
              have hP4 := hPy.drew.below hb3 (Nat.le_refl _)
              obtain ⟨br', or', e', -, z1⟩ := hRi.out _ hb4
              injection e' with e'
              injection e' with e1 e2
              subst e1 e2
              clear hcw hPy hPi hbi hby hb3 a0 d0 d1 d2 hws c0 k1y z0
              cases cb with
              | false =>
                have hE2 := hide (hsk.out (by rw [hinP.out]; simp))
                clear hst hsk hinP
                go_wp2
                go_roundw
                case rel => exact ⟨y + 1, by omega, by go_num, by rw [hE2.out]; exact hP4, hb4⟩
                case measure => simp [intOf]; omega
              | true =>
                by_cases hm1 : r.b = -1
                · have hmb : (r.b == (-1)) = true := by simpa using hm1
                  by_cases hxy : x = y
                  · have hxb : ((y : Int) != (x : Int)) = false := by subst hxy; simp
                    have hE2 := hide (hsk.out (by rw [hinP.out]; simp [hxy]))
                    clear hst hsk hinP hm1 hxy
                    go_wp2
                    go_roundw
                    case rel => exact ⟨y + 1, by omega, by go_num, by rw [hE2.out]; exact hP4, hb4⟩
                    case measure => simp [intOf]; omega
                  · have hxb : ((y : Int) != (x : Int)) = true := by simp; omega
                    have hE2 := hide (hst.out (by rw [hinP.out]; simp [hxy, hm1]))
                    go_wp2_with fail
                    clear z1 hmb hxb hm1 hxy
                    obtain ⟨g, rfl, hX⟩ := hP4.at_ hlt
                    have hP5 := hide (hX.add (y := y) hlt hly).drew
                    have hb5 := hide (below_drew (hb4.setCell (p := ⟨g, x, none⟩) hX.B (.int .u64 (withB (setB ((orE (inTo H x i) (rowE x y (inP H x r))) x) H.length) (y : Int) : Nat))))
                    obtain ⟨-, c0, c1, d0, df, gp, gl, -, h64⟩ := hX
                    clear hst hsk hinP hP4 hb4
                    generalize setB ((orE (inTo H x i) (rowE x y (inP H x r))) x) H.length = s at *
                    go_upto_region 14 with fail
                    refine wp_region_still_tail 11 (by kernel_rfl) (by kernel_rfl) ?_
                    simp only [List.take_succ_cons, List.take_zero, List.drop_succ_cons, List.drop_zero]
                    repeat still_step
                    still_call ((rwith10_any _ h64 _ _).mono fun _ _ h => ⟨h.1, h.2.symm⟩)
                    repeat still_step
                    refine wpStill_nil ?_
                    change wpList _ _ _ _ _ (w3).drew
                    go_wp2
                    go_roundw
                    case rel => exact ⟨y + 1, by omega, by go_num, by rw [hE2.out]; exact hP5.out, hb5.out⟩
                    case measure => simp [intOf]; omega
                · have hmb : (r.b == (-1)) = false := by simpa using hm1
                  have hE2 := hide (hsk.out (by rw [hinP.out]; simp [hm1]))
                  clear hst hsk hinP hm1
                  go_wp2
                  go_roundw
                  case rel => exact ⟨y + 1, by omega, by go_num, by rw [hE2.out]; exact hP4, hb4⟩
                  case measure => simp [intOf]; omega
            · obtain rfl : y = H.length := by omega
              have hP4 := hide (hPy.congr (F := inTo H x (i + 1)) fun a b _ hb => hend.out a b hb)
              clear hPy hPi
              go_wp2
              go_roundw
              case rel => exact ⟨i + 1, by omega, by go_num, hP4.out, hby⟩
              case measure => simp [intOf]; omega
        · obtain rfl : i = R.length := by omega
          rw [inTo_row hRt.out] at hPi
          clear hPr
          go_wp2
          go_roundw
          case rel => exact ⟨x + 1, by omega, by go_num, hPi, hbi⟩
          case measure => simp [intOf]; omega
    · obtain rfl : x = H.length := by omega
      have hP4 := hPr.congr (F := initE H) fun a b ha _ => inTo_all ha
      have k3r := k3.below hbr k3.lt
      have f0 := k3r.frozen 0
      have f1 := k3r.frozen 1
      have e0 := k3r.cell 0
      have e1 := k3r.cell 1
      have hs0 := s0.out
      have hs3 : w.heap.size + 1 < W0.heap.size := k3.lt
      have hR := hide (((hP4.rg.far (p := ⟨w.heap.size + 1, 0, none⟩) hs3 (.int .i64 H.length)).far (p := ⟨w.heap.size + 1, 1, none⟩) hs3 (.slice Av H.length cv)).base (B' := w.heap.size) (by omega))
      have hz := hide (((hb.trans (hbr.mono hb.size)).setCell (p := ⟨w.heap.size + 1, 0, none⟩) (by simp; try omega) (.int .i64 H.length)).setCell (p := ⟨w.heap.size + 1, 1, none⟩) (by simp; try omega) (.slice Av H.length cv))
      have hq := (k3r.set_ 0 (.int .i64 H.length)).set_ 1 (.slice Av H.length cv)
      simp only [List.setIfInBounds_toArray, List.set_cons_zero, List.set_cons_succ] at hq
      have y0 := hq.cell 0
      have y1 := hq.cell 1
      simp only [List.getElem?_toArray, List.getElem?_cons_zero, List.getElem?_cons_succ] at y0 y1 e0 e1
      clear hq hs0 hs3
      go_wp2_with fail
      exact bodyPost_ret (v := .agg #[.int .i64 H.length, .slice Av H.length cv]) (by simp [results, Tryz.results184, go_sem, y0, y1]) rfl ⟨_, rfl, hR.out, hz.out⟩
end Go.Proofs.YtjomijnbnbideaaGreatDoor

namespace Go.Proofs.YtjomijnbnbideaaGreatDoor
open Go.RowKit Go.Inq
set_option maxHeartbeats 4000000
attribute [local go_sem ↓] Go.wp_at_zero Go.wp_at_succ

theorem right_no {H : List Txn} {n : Nat} (h : n < H.length) (hb : (txF H n).all id = false) : rightH H = false := by
  rw [← Bool.not_eq_true, rightH_iff]
  rintro ⟨_, g⟩
  rw [(txF_iff h).2 (g n h)] at hb
  cases hb
theorem right_many {H : List Txn} (h : 32 < H.length) : rightH H = false := by
  rw [← Bool.not_eq_true, rightH_iff]
  rintro ⟨g, _⟩
  omega
theorem right_yes {H : List Txn} (h : ¬ 32 < H.length) (hall : ∀ n, n < H.length → (txF H n).all id = true) : rightH H = true :=
  (rightH_iff H).2 ⟨by omega, fun j hj => (txF_iff hj).1 (hall j hj)⟩
set_option maxRecDepth 100000 in
theorem right08_big (A : Option Addr) (c : Nat) (H : List Txn) (w : World) (h : TxnS w (Old w) (.slice A H.length c) H) (hs : LenH H) :
    Calls Tryz.prog 56 #[.agg #[.slice A H.length c]] w fun e w' => e = .returned (.bool (rightH H)) ∧ Below w.heap.size w w' := by
  have hH := hs.1
  have hA : Below w.heap.size w (w.alloc (.cells #[.slice A H.length c] 24)) := (Below.refl _ _).alloc (Nat.le_refl _) _
  have kH : Blk (w.alloc (.cells #[.slice A H.length c] 24)) w.heap.size 24 #[.slice A H.length c] := Blk.new _ _ _
  have y0 := kH.cell 0
  simp only [List.getElem?_toArray, List.getElem?_cons_zero] at y0
  by_cases h32 : 32 < H.length
  · have hb : decide ((H.length : Int) > 32) = true := by simp; omega
    have hr := hide (right_many h32)
    clear h32
    go_enter Tryz.func56, Tryz.ntmps56
    go_wp2
    go_ret
    exact ⟨by rw [hr.out]; rfl, hA⟩
  · have hb : decide ((H.length : Int) > 32) = false := by simp; omega
    have hno := hide (fun n hn g => right_no (H := H) (n := n) hn g)
    have hyes := hide (right_yes h32)
    clear h32
    go_enter Tryz.func56, Tryz.ntmps56
    go_wp2_with fail
    clear y0
    generalize w.alloc (.cells #[.slice A H.length c] 24) = W0 at *
    go_loopw [3, 4] (fun s3 _ wr => ∃ n : Nat, n ≤ H.length ∧ s3 = .int .i64 n ∧ Hid (∀ j, j < n → (txF H j).all id = true) ∧ Below w.heap.size w wr ∧ Blk wr w.heap.size 24 #[.slice A H.length c]) (fun s3 _ _ => H.length - (intOf s3).toNat)
    case atStart => exact ⟨0, Nat.zero_le _, by go_num, fun j h => absurd h (by omega), hA, kH⟩
    case round =>
      clear hA kH
      obtain ⟨n, hn, rfl, hall, hB, kH⟩ := hrel
      have hn1 : (0 : Int) ≤ (n : Int) := Int.natCast_nonneg _
      have y0 := kH.cell 0
      simp only [List.getElem?_toArray, List.getElem?_cons_zero] at y0
      by_cases hlt : n < H.length
      · have hn2 : (n : Int) < (H.length : Int) := by omega
        have hc := one08_any A c H n wr (TxnS.keep h (Agree.below hB fun b h => h) (fun b h => Nat.lt_of_lt_of_le h hB.size)) hlt hs
        have hno2 := hide (hno.out n hlt)
        have hst : Hid ((txF H n).all id = true → ∀ j, j < n + 1 → (txF H j).all id = true) := fun g j hj => by
          by_cases e : j = n
          · subst e; exact g
          · exact hall.out j (by omega)
        generalize (txF H n).all id = tb at *
        go_wp2_with fail
        refine hc.mono ?_
        clear hc
        rintro e w1 ⟨rfl, hb1⟩
        have kH1 := kH.below hb1 kH.lt
        have hB1 := hB.trans (hb1.mono hB.size)
        cases tb with
        | false =>
          have hr := hide (hno2.out rfl)
          go_wp2
          go_ret
          exact ⟨by rw [hr.out]; rfl, hB1⟩
        | true =>
          have hst2 := hide (hst.out rfl)
          go_wp2
          go_roundw
          case rel => exact ⟨n + 1, by omega, by go_num, hst2, hB1, kH1⟩
          case measure => simp [intOf]; omega
      · have hr := hide (hyes.out fun j hj => hall.out j (by omega))
        go_wp2
        go_ret
        exact ⟨by rw [hr.out]; rfl, hB⟩
theorem right08_any (A : Option Addr) (c : Nat) (H : List Txn) (w : World) (h : TxnS w (Old w) (.slice A H.length c) H) (hs : SmallH H) :
    Calls Tryz.prog 56 #[.agg #[.slice A H.length c]] w fun e w' => e = .returned (.bool (rightH H)) ∧ Below w.heap.size w w' := right08_big A c H w h hs.len
theorem rise_len {l : List Int} (h1 : l.Pairwise (· < ·)) (h2 : ∀ k ∈ l, 0 ≤ k ∧ k < 16) : l.length ≤ 16 := by
  have hb : ∀ i (hi : i < l.length), (i : Int) ≤ l[i] := by
    intro i
    induction i with
    | zero => intro hi; have := h2 _ (List.getElem_mem hi); omega
    | succ i ih =>
      intro hi
      have h3 := ih (by omega)
      have h4 := List.pairwise_iff_getElem.1 h1 i (i + 1) (by omega) hi (by omega)
      omega
  rcases Nat.lt_or_ge 16 l.length with h | h
  · have h3 := hb 16 h
    have h4 := h2 _ (List.getElem_mem h)
    omega
  · exact h
/-- A history that may be is small. -/
theorem right_small {H : List Txn} (h : rightH H = true) : SmallH H := by
  obtain ⟨h1, h2⟩ := (rightH_iff H).1 h
  refine ⟨by omega, fun t ht => ?_⟩
  obtain ⟨i, hi, rfl⟩ := List.getElem_of_mem ht
  have h3 := h2 i hi
  have h4 := rise_len h3.wrise h3.wkey
  have h5 := rise_len h3.rrise (fun k hk => by obtain ⟨x, hx, rfl⟩ := List.mem_map.1 hk; exact h3.rkey x hx)
  simp at h5
  omega
end Go.Proofs.YtjomijnbnbideaaGreatDoor

namespace Go.Proofs.YtjomijnbnbideaaGreatDoor
open Go.RowKit Go.Inq
set_option maxHeartbeats 8000000
attribute [local go_sem ↓] Go.wp_at_zero Go.wp_at_succ

/-- From whom t reads a key. -/
def fromL (R : List It) (key : Int) : Int × Bool := match R.find? (fun r => r.a == key) with
  | some r => (r.b, true)
  | none => (0, false)
theorem fromL_hit {R : List It} {key : Int} {i : Nat} (hi : i < R.length) (h0 : (R.take i).any (fun r => r.a == key) = false) (h : (R[i].a == key) = true) : fromL R key = (R[i].b, true) := by
  unfold fromL
  have : R.find? (fun r => r.a == key) = some R[i] := by
    rw [List.find?_eq_some_iff_getElem]
    refine ⟨h, i, hi, rfl, fun j hj => ?_⟩
    rw [List.any_eq_false] at h0
    exact Bool.not_eq_true' _ ▸ Bool.eq_false_iff.2 (h0 R[j] (List.mem_take_iff_getElem.2 ⟨j, by omega, rfl⟩))
  rw [this]
theorem fromL_miss {R : List It} {key : Int} (h : R.any (fun r => r.a == key) = false) : fromL R key = (0, false) := by
  unfold fromL
  have : R.find? (fun r => r.a == key) = none := by
    rw [List.find?_eq_none]
    intro r hr
    exact (List.any_eq_false.1 h) r hr
  rw [this]
set_option maxRecDepth 100000 in
theorem rfrom09_any (A : Option Addr) (c : Nat) (H : List Txn) (t : Nat) (key : Int) (w : World) (h : TxnS w (Old w) (.slice A H.length c) H) (hr : rightH H = true) (hn : SmallH H) (ht : t < H.length) :
    Calls Tryz.prog 219 #[.agg #[.slice A H.length c], .int .i64 (t : Int), .int .i64 key] w fun e w' => e = .returned (.tuple #[.int .i64 (fromL H[t].reads key).1, .bool (fromL H[t].reads key).2]) ∧ Below w.heap.size w w' := by
  obtain ⟨W0, hW0⟩ : ∃ W0, w.alloc (.cells #[.slice A H.length c] 24) = W0 := ⟨_, rfl⟩
  have hb := below_allocEq (Below.refl w.heap.size w) hW0 (Nat.le_refl _)
  have k1 := Blk.newEq hW0
  have h0 := h.below hb
  have c0 := k1.cell 0
  simp only [List.getElem?_toArray, List.getElem?_cons_zero, List.getElem?_cons_succ] at c0
  have hg1 : decide ((t : Int) < 0) = false := by simp
  have hg2 : decide ((t : Int) ≥ (H.length : Int)) = false := by simp; omega
  have ht1 : (0 : Int) ≤ (t : Int) := Int.natCast_nonneg _
  have ht2 : (t : Int) < (H.length : Int) := by omega
  have hR9 : H[t].reads.length ≤ 1000000 := (hn.2 _ (List.getElem_mem ht)).2
  have hrc := hide (right08_any A c H W0 h0 hn)
  rw [hr] at hrc
  clear h
  have hhit := hide (fun i => fromL_hit (R := H[t].reads) (key := key) (i := i))
  have hmis := hide (fromL_miss (R := H[t].reads) (key := key))
  generalize fromL H[t].reads key = F at *
  obtain ⟨F1, F2⟩ := F
  go_enter Tryz.func219, Tryz.ntmps219
  go_wp2_with fail
  refine hrc.out.mono ?_
  rintro e w1 ⟨rfl, hb1⟩
  have hb2 := hb.trans (hb1.mono hb.size)
  replace k1 := k1.below hb1 k1.lt
  obtain ⟨bt, ot, Aw, cw, Ar, cr, hA, hKb, -, -, d2, -, hrs⟩ := (h0.below hb1).at_ ht
  subst hA
  clear c0 hrc h0 hb1 hW0 hr
  have c0 := k1.cell 0
  simp only [List.getElem?_toArray, List.getElem?_cons_zero, List.getElem?_cons_succ] at c0
  generalize H[t].reads = R at *
  replace hb2 := hide hb2
  replace hrs := hide hrs
  go_wp2_with fail
  clear c0 d2 k1
  go_loop [10] (fun s10 => ∃ i : Nat, i ≤ R.length ∧ s10 = .int .i64 i ∧ Hid ((R.take i).any (fun r => r.a == key) = false)) (fun s10 => R.length - (intOf s10).toNat)
  case atStart => exact ⟨0, Nat.zero_le _, by go_num, hide (by simp)⟩
  case round =>
    obtain ⟨i, hi, rfl, hc⟩ := hrel
    have hi1 : (0 : Int) ≤ (i : Int) := Int.natCast_nonneg _
    by_cases hlt : i < R.length
    · have hi2 : (i : Int) < (R.length : Int) := by omega
      obtain ⟨br, orr, rfl, -, z0, z1⟩ := hrs.out.at_ hlt
      have hst : Hid ((R.take (i + 1)).any (fun r => r.a == key) = ((R.take i).any (fun r => r.a == key) || R[i].a == key)) := hide (by rw [take_snoc' hlt, List.any_append]; simp)
      have hh := hide (fun g => hhit.out i hlt hc.out g)
      generalize R[i] = r at *
      obtain ⟨ra, rb⟩ := r
      dsimp only at *
      cases hy : (ra == key) with
      | true =>
        have hr := hh.out hy
        simp only [Prod.mk.injEq] at hr
        obtain ⟨rfl, rfl⟩ := hr
        clear hh hst hmis hhit
        replace hc := hide hc
        go_wp2
        exact bodyPost_ret (v := .tuple #[.int .i64 F1, .bool true]) (by simp [results, Tryz.results219, go_sem]) rfl ⟨rfl, hb2.out⟩
      | false =>
        have hr : Hid ((R.take (i + 1)).any (fun r => r.a == key) = false) := hide (by rw [hst.out, hc.out, hy]; rfl)
        clear hh hst
        replace hc := hide hc
        go_wp2
        go_round
        case rel => exact ⟨i + 1, by omega, by go_num, hr⟩
        case measure => simp [intOf]; omega
    · obtain rfl : i = R.length := by omega
      have hr := hmis.out (by have := hc.out; rwa [List.take_length] at this)
      simp only [Prod.mk.injEq] at hr
      obtain ⟨rfl, rfl⟩ := hr
      clear hmis hhit
      replace hc := hide hc
      go_wp2
      exact bodyPost_ret (v := .tuple #[.int .i64 0, .bool false]) (by simp [results, Tryz.results219, go_sem]) rfl ⟨rfl, hb2.out⟩
/-- Who reads a key from somebody, among the first. -/
def rdrTo (H : List Txn) (key src : Int) (n : Nat) : List Nat := (List.range n).filter fun t => fromL (txnAt H t).reads key == (src, true)
def rdrL (H : List Txn) (key src : Int) : List Nat := rdrTo H key src H.length
theorem rdrTo_step (H : List Txn) (key src : Int) (n : Nat) : rdrTo H key src (n + 1) = rdrTo H key src n ++ (if fromL (txnAt H n).reads key == (src, true) then [n] else []) := by
  unfold rdrTo
  rw [List.range_succ, List.filter_append]
  congr 1
  rw [List.filter_cons, List.filter_nil]
theorem fromL_yes {R : List It} {key src : Int} (h : (R.map (·.a)).Pairwise (· < ·)) : fromL R key = (src, true) ↔ ∃ r ∈ R, r.a = key ∧ r.b = src := by
  unfold fromL
  cases hf : R.find? (fun r => r.a == key) with
  | none =>
    rw [List.find?_eq_none] at hf
    constructor
    · intro e; cases e
    · rintro ⟨r, h1, h2, _⟩; exact absurd (by simpa using h2) (hf r h1)
  | some r =>
    have h1 := List.find?_some hf
    have h2 := List.mem_of_find?_eq_some hf
    have h1 : r.a = key := by simpa using h1
    dsimp only
    rw [Prod.mk.injEq]
    constructor
    · rintro ⟨e, -⟩; exact ⟨r, h2, h1, e⟩
    · rintro ⟨q, h3, h4, h5⟩
      refine ⟨?_, rfl⟩
      obtain ⟨i, hi, e1⟩ := List.getElem_of_mem h2
      obtain ⟨j, hj, e2⟩ := List.getElem_of_mem h3
      rw [List.pairwise_iff_getElem] at h
      rcases Nat.lt_trichotomy i j with g | g | g
      · have := h i j (by simpa using hi) (by simpa using hj) g
        simp only [List.getElem_map, e1, e2] at this
        omega
      · subst g; rw [← e1, e2]; exact h5
      · have := h j i (by simpa using hj) (by simpa using hi) g
        simp only [List.getElem_map, e1, e2] at this
        omega
theorem rdrL_mem {H : List Txn} (hr : rightH H = true) {key src : Int} {t : Nat} : t ∈ rdrL H key src ↔ t < H.length ∧ ∃ r ∈ (txnAt H t).reads, r.a = key ∧ r.b = src := by
  unfold rdrL rdrTo
  rw [List.mem_filter, List.mem_range, beq_iff_eq]
  constructor
  · rintro ⟨h1, h2⟩; exact ⟨h1, (fromL_yes (by rw [txnAt_of h1]; exact (((rightH_iff H).1 hr).2 t h1).rrise)).1 h2⟩
  · rintro ⟨h1, h2⟩; exact ⟨h1, (fromL_yes (by rw [txnAt_of h1]; exact (((rightH_iff H).1 hr).2 t h1).rrise)).2 h2⟩
theorem rdrTo_len (H : List Txn) (key src : Int) (n : Nat) : (rdrTo H key src n).length ≤ n := Nat.le_trans (List.length_filter_le _ _) (by simp)
set_option maxRecDepth 100000 in
theorem rreaders09_any (A : Option Addr) (c : Nat) (H : List Txn) (key src : Int) (w : World) (h : TxnS w (Old w) (.slice A H.length c) H) (hr : rightH H = true) (hn : SmallH H) :
    Calls Tryz.prog 185 #[.agg #[.slice A H.length c], .int .i64 key, .int .i64 src] w (OutI w (intsN (rdrL H key src))) := by
  obtain ⟨ii, hii, hi1, hi2, hi3⟩ := info_parts infoI10
  have h32 : H.length ≤ 32 := ((rightH_iff H).1 hr).1
  obtain ⟨W0, hW0⟩ : ∃ W0, w.alloc (.cells #[.slice A H.length c] 24) = W0 := ⟨_, rfl⟩
  have hB := below_allocEq (Below.refl w.heap.size w) hW0 (Nat.le_refl _)
  have k0 := Blk.newEq hW0
  go_enter Tryz.func185, Tryz.ntmps185
  go_wp2_with fail
  clear hW0
  go_loopw [7, 8] (fun s7 s8 wr => ∃ k : Nat, k ≤ H.length ∧ s8 = .int .i64 k ∧ OwnI wr (w.heap.size + 1) s7 (intsN (rdrTo H key src k)) ∧ Below w.heap.size w wr ∧ Blk wr w.heap.size 24 #[.slice A H.length c]) (fun _ s8 _ => H.length - (intOf s8).toNat)
  case atStart => exact ⟨0, Nat.zero_le _, by go_num, OwnI.nil _ _, hB, k0⟩
  case round =>
    clear k0 hB
    obtain ⟨k, hk, rfl, hown, hb, k0⟩ := hrel
    have hk1 : (0 : Int) ≤ (k : Int) := Int.natCast_nonneg _
    have c0 := k0.cell 0
    simp only [List.getElem?_toArray, List.getElem?_cons_zero, List.getElem?_cons_succ] at c0
    by_cases hlt : k < H.length
    · have hk2 : (k : Int) < (H.length : Int) := by omega
      have hst := hide (rdrTo_step H key src k)
      rw [txnAt_of hlt] at hst
      have hcnt := rdrTo_len H key src k
      have hsn := hide (intsN_snoc (rdrTo H key src k) k)
      have hlq := hide (intsN_len (rdrTo H key src k))
      have hcall := hide (rfrom09_any A c H k key wr (h.below hb) hr hn hlt)
      generalize fromL H[k].reads key = F at *
      obtain ⟨F1, F2⟩ := F
      obtain ⟨Av, cv, rfl⟩ := hown.form
      replace hown := hide hown
      replace hr := hide hr
      go_wp2_with fail
      clear c0
      refine hcall.out.mono ?_
      rintro e w2 ⟨rfl, hb2⟩
      have hb3 := hb.trans (hb2.mono hb.size)
      have k3 := k0.below hb2 k0.lt
      have hown3 := hide (own_below hown.out hb2 (Nat.le_refl _))
      have hsz2 := hb3.size
      clear hcall hown hb2
      by_cases hyes : F2 = true ∧ F1 = src
      · obtain ⟨rfl, rfl⟩ := hyes
        have hst2 : Hid (rdrTo H key F1 (k + 1) = rdrTo H key F1 k ++ [k]) := hide (by rw [hst.out]; simp)
        clear hst
        generalize rdrTo H key F1 k = L at *
        have hkL : (intsN L).length + 1 ≤ maxLen := by rw [hlq.out]; unfold maxLen; omega
        have hkb : ((intsN L).length + 1) * 8 ≤ 140737488355328 := by rw [hlq.out]; omega
        generalize intsN L = D at *
        go_wp2_with (at_builtin; go_loud (refine wpList_push (enc := Go.Inq.encI) rfl (.tmp 31) (.tmp 33) 27 rfl (w.heap.size + 1) 3 ii _ 1 8 Tryz.underlying27 hii hi1 hi2 hi3 rfl (by decide) (.slice Av D.length cv) D rfl hown3.out (fun _ => rfl) (k : Int) _ rfl rfl Go.Inq.encI_one hkL hkb k3.lt w w.heap.size (by omega) hb3 ?_); intro v1 w6 hown1 hg1 hb1 hat1)
        have k6 := (k3.alloc (.cells #[.int .i64 (k : Int)] 3)).grown hg1 (fun e => by have := (hown3.out.lt _ e.symm).1; omega)
        go_roundw
        case rel => exact ⟨k + 1, by omega, by go_num, by rw [hst2.out, hsn.out]; exact hown1, hb1, k6⟩
        case measure => simp [intOf]; omega
      · have hst2 : Hid (rdrTo H key src (k + 1) = rdrTo H key src k) := hide (by rw [hst.out, if_neg (by simp only [beq_iff_eq, Prod.mk.injEq]; exact fun g => hyes ⟨g.2, g.1⟩)]; simp)
        clear hst
        cases F2 with
        | false =>
          go_wp2
          go_roundw
          case rel => exact ⟨k + 1, by omega, by go_num, by rw [hst2.out]; exact hown3.out, hb3, k3⟩
          case measure => simp [intOf]; omega
        | true =>
          have hne : (F1 == src) = false := by simpa using hyes
          clear hyes
          go_wp2
          go_roundw
          case rel => exact ⟨k + 1, by omega, by go_num, by rw [hst2.out]; exact hown3.out, hb3, k3⟩
          case measure => simp [intOf]; omega
    · obtain rfl : k = H.length := by omega
      go_wp2
      go_ret
      exact ⟨_, rfl, own_base' hown (by omega), hb⟩
end Go.Proofs.YtjomijnbnbideaaGreatDoor

namespace Go.Inq
open Go Go.RowKit

/-- From w to w' the row v became v'; all other blocks of w stay, but those of S. -/
structure GrowR (S : Nat → Prop) (w : World) (v : Value) (w' : World) (v' : Value) : Prop where
  os : w'.os = w.os
  tape : w'.tape = w.tape
  output : w'.output = w.output
  size : w.heap.size ≤ w'.heap.size
  block : ∀ k, k < w.heap.size → v.ownBlock ≠ some k → ¬ S k → w'.heap[k]? = w.heap[k]?
  own : ∀ g, v'.ownBlock = some g → v.ownBlock = some g ∨ w.heap.size ≤ g
def NoS : Nat → Prop := fun _ => False
theorem noS (b : Nat) : ¬ NoS b := id
section
variable {S : Nat → Prop} {w w1 w2 : World} {v v1 v2 : Value}
theorem GrowR.refl (S : Nat → Prop) (w : World) (v : Value) : GrowR S w v w v := ⟨rfl, rfl, rfl, Nat.le_refl _, fun _ _ _ _ => rfl, fun _ h => .inl h⟩
theorem GrowR.trans (h : GrowR S w v w1 v1) (h' : GrowR S w1 v1 w2 v2) : GrowR S w v w2 v2 :=
  ⟨h'.os.trans h.os, h'.tape.trans h.tape, h'.output.trans h.output, Nat.le_trans h.size h'.size, fun k hk hv hS => (h'.block k (Nat.lt_of_lt_of_le hk h.size) (fun e => by rcases h.own k e with e | e; exact hv e; omega) hS).trans (h.block k hk hv hS),
    fun g hg => by rcases h'.own g hg with e | e; exact h.own g e; exact .inr (Nat.le_trans h.size e)⟩
theorem GrowR.mono {S' : Nat → Prop} (h : GrowR S w v w1 v1) (hS : ∀ b, S b → S' b) : GrowR S' w v w1 v1 := ⟨h.os, h.tape, h.output, h.size, fun k hk hv hn => h.block k hk hv (fun g => hn (hS k g)), h.own⟩
theorem GrowR.call {B : Nat} (h : GrowR S w v w1 v1) (hb : Below B w1 w2) (hB : w1.heap.size ≤ B) : GrowR S w v w2 v1 :=
  h.trans ⟨hb.os, hb.tape, hb.output, hb.size, fun k hk _ _ => hb.block k (by omega), fun g hg => .inl hg⟩
theorem GrowR.alloc (h : GrowR S w v w1 v1) (o : Obj) : GrowR S w v (w1.alloc o) v1 := h.call ((Below.refl _ _).alloc (Nat.le_refl _) o) (Nat.le_refl _)
theorem GrowR.drew (h : GrowR S w v w1 v1) : GrowR S w v w1.drew v1 := ⟨h.os, h.tape, h.output, h.size, h.block, h.own⟩
theorem GrowR.drewN (h : GrowR S w v w1 v1) (n : Nat) : GrowR S w v (w1.drewN n) v1 := ⟨h.os, h.tape, h.output, h.size, h.block, h.own⟩
theorem GrowR.set_ (h : GrowR S w v w1 v1) {p : Addr} (hp : v1.ownBlock = some p.block ∨ w.heap.size ≤ p.block ∨ S p.block) (u : Value) : GrowR S w v (w1.setCell p u) v1 :=
  ⟨h.os, h.tape, h.output, by simpa using h.size, fun k hk hv hS => (Below.heap_setCell w1 p u k (fun e => by
    subst e
    rcases hp with e | e | e
    · rcases h.own _ e with e | e
      · exact hv e
      · omega
    · omega
    · exact hS e)).trans (h.block k hk hv hS), h.own⟩
theorem GrowR.row (h : GrowR S w v w1 v1) (hg : w1.grownBy w2 v1.ownBlock) (hv : ∀ g, v2.ownBlock = some g → v1.ownBlock = some g ∨ w1.heap.size ≤ g) : GrowR S w v w2 v2 :=
  h.trans ⟨hg.os, hg.tape, hg.output, hg.size, fun k hk hv _ => hg.block k hk (fun e => hv e.symm), hv⟩
theorem GrowR.agree {K : Nat → Prop} (h : GrowR S w v w1 v1) (hK : ∀ b, K b → b < w.heap.size ∧ v.ownBlock ≠ some b ∧ ¬ S b) : Agree K w w1 := fun b hb => h.block b (hK b hb).1 (hK b hb).2.1 (hK b hb).2.2
theorem GrowR.blk {g : Nat} {t : TypeId} {cs : Array Value} (h : GrowR S w v w1 v1) (hk : Blk w g t cs) (hv : v.ownBlock ≠ some g) (hS : ¬ S g) : Blk w1 g t cs := (h.block g hk.lt hv hS).trans hk
theorem GrowR.below {B : Nat} {w0 : World} (h : GrowR S w v w1 v1) (hb : Below B w0 w) (hB : B ≤ w.heap.size) (hv : ∀ g, v.ownBlock = some g → B ≤ g) (hS : ∀ g, S g → B ≤ g) : Below B w0 w1 :=
  hb.trans ⟨h.os, h.tape, h.output, h.size, fun k hk => h.block k (by omega) (fun e => by have := hv k e; omega) (fun e => by have := hS k e; omega)⟩
theorem GrowR.belowN {B : Nat} {w0 : World} (h : GrowR NoS w v w1 v1) (hb : Below B w0 w) (hB : B ≤ w.heap.size) (hv : ∀ g, v.ownBlock = some g → B ≤ g) : Below B w0 w1 := h.below hb hB hv (fun g hg => hg.elim)
/-- Another row than the one that grows. -/
theorem GrowR.other (h : GrowR S w v w1 v1) {u : Value} {base : Nat} {e : TypeId} {size n : Nat} {xs : List Value} (hu : w.ownsRow base e size u n xs) (hv : ∀ g, u.ownBlock = some g → v.ownBlock ≠ some g ∧ ¬ S g) : w1.ownsRow base e size u n xs := by
  refine ⟨hu.1, ?_⟩
  rcases hu.2 with h2 | ⟨g, cap, cur, h2, hg, hh, r⟩
  · exact .inl h2
  · refine .inr ⟨g, cap, cur, h2, hg, ?_, r⟩
    have hgl : g < w.heap.size := by
      rcases Nat.lt_or_ge g w.heap.size with h | h
      · exact h
      · rw [Array.getElem?_eq_none h] at hh; cases hh
    have := hv g (by rw [h2]; rfl)
    rw [h.block g hgl this.1 this.2]
    exact hh
end

/-- append(s, x), the element a block that was just made: the row has grown. -/
theorem wpList_pushG {P : Program} {W : World} {ops : Array Oper} {rest : List Oper} {o : Oper} {a : Act} {Q : Exit → Act → World → Prop} {α : Type} {enc : α → List Value}
    (hgd : o.guard = none) (s x : Operand) (t : TypeId) (ho : o.op = .call { callee := .builtin .append, args := #[s, x], argTypes := #[t, t] })
    (base : Nat) (e : TypeId) (i : TypeInfo) (z : Value) (size bytes : Nat) (ht : P.underlying t = some (.slice e)) (hi : P.info? e = some i) (hz : i.zero = some z)
    (hsize : i.size = size) (hby : i.bytes = bytes) (hzs : z.cells.size = size) (hsz : 0 < size)
    (v : Value) (l : List α) (hs : a.eval s = v) (hown : W.ownsRow base e size v l.length (l.map enc).flatten) (hen : ∀ x, (enc x).length = size)
    (x0 : α) (cs : Array Value) (hcs : cs.toList = enc x0) (hx : a.eval x = .slice (some ⟨W.heap.size, 0, none⟩) 1 1)
    (h1 : ∀ x, ∀ u ∈ enc x, u.oneCell' = true) (h63 : l.length + 1 ≤ maxLen) (hbytes : (l.length + 1) * bytes ≤ 140737488355328) (hbase : base ≤ W.heap.size)
    (h : ∀ v' w', w'.ownsRow base e size v' (l ++ [x0]).length ((l ++ [x0]).map enc).flatten → GrowR NoS W v w' v' → wpList P ops Q rest (a.put o.dst v') w') :
    wpList P ops Q (o :: rest) a (W.alloc (.cells cs e)) := by
  refine wpList_push (enc := enc) hgd s x t ho base e i z size bytes ht hi hz hsize hby hzs hsz v l hs hown hen x0 cs hcs hx h1 h63 hbytes hbase W base (Nat.le_refl _) (Below.refl _ _) ?_
  intro v' w' g1 g2 _ g4
  refine h v' w' g1 (((GrowR.refl NoS W v).alloc _).row g2 ?_)
  intro g hg
  rcases g4 with e | e
  · exact .inl (e ▸ hg)
  · rw [e] at hg
    injection hg with hg
    subst hg
    right
    simp
end Go.Inq

namespace Go.Proofs.YtjomijnbnbideaaGreatDoor
open Go.RowKit Go.Inq
set_option maxHeartbeats 8000000
attribute [local go_sem ↓] Go.wp_at_zero Go.wp_at_succ

set_option maxRecDepth 100000 in
theorem rwriters09_any (A : Option Addr) (c : Nat) (H : List Txn) (key : Int) (w : World) (h : TxnS w (Old w) (.slice A H.length c) H) (hr : rightH H = true) (hn : SmallH H) :
    Calls Tryz.prog 98 #[.agg #[.slice A H.length c], .int .i64 key] w (OutI w (intsN (wrsL H key))) := by
  obtain ⟨ii, hii, hi1, hi2, hi3⟩ := info_parts infoI10
  have h32 : H.length ≤ 32 := ((rightH_iff H).1 hr).1
  obtain ⟨W0, hW0⟩ : ∃ W0, w.alloc (.cells #[.slice A H.length c] 24) = W0 := ⟨_, rfl⟩
  have hB := below_allocEq (Below.refl w.heap.size w) hW0 (Nat.le_refl _)
  have k0 := Blk.newEq hW0
  have h0 := h.below hB
  have hrc := hide (right08_any A c H W0 h0 hn)
  rw [hr] at hrc
  have c0 := k0.cell 0
  simp only [List.getElem?_toArray, List.getElem?_cons_zero, List.getElem?_cons_succ] at c0
  go_enter Tryz.func98, Tryz.ntmps98
  go_wp2_with fail
  clear hW0 c0
  refine hrc.out.mono ?_
  rintro e w1 ⟨rfl, hb1⟩
  have hB1 := hB.trans (hb1.mono hB.size)
  replace k0 := k0.below hb1 k0.lt
  clear hrc h0 hb1 hB
  go_wp2_with fail
  go_loopw [5, 7] (fun s5 s7 wr => ∃ k : Nat, k ≤ H.length ∧ s7 = .int .i64 k ∧ OwnI wr (w.heap.size + 1) s5 (intsN (wrsTo H key k)) ∧ Below w.heap.size w wr ∧ Blk wr w.heap.size 24 #[.slice A H.length c]) (fun _ s7 _ => H.length - (intOf s7).toNat)
  case atStart => exact ⟨0, Nat.zero_le _, by go_num, OwnI.nil _ _, hB1, k0⟩
  case round =>
    clear k0 hB1
    obtain ⟨k, hk, rfl, hown, hb, k0⟩ := hrel
    have hk1 : (0 : Int) ≤ (k : Int) := Int.natCast_nonneg _
    have c0 := k0.cell 0
    simp only [List.getElem?_toArray, List.getElem?_cons_zero, List.getElem?_cons_succ] at c0
    by_cases hlt : k < H.length
    · have hk2 : (k : Int) < (H.length : Int) := by omega
      obtain ⟨b, off, Aw, cw, Ar, cr, rfl, _, d0, d1, d2, hws, _⟩ := TxnS.at_ (h.below hb) hlt
      have hwl : H[k].writes.length ≤ maxLen := by have := (hn.2 _ (List.getElem_mem hlt)).1; unfold maxLen; omega
      have hst := hide (wrsTo_step H key k)
      rw [txnAt_of hlt] at hst
      have hcnt : (wrsTo H key k).length ≤ k := Nat.le_trans (List.length_filter_le _ _) (by simp)
      have hsn := hide (intsN_snoc (wrsTo H key k) k)
      have hlq := hide (intsN_len (wrsTo H key k))
      have hcw := hide (writes08_any H[k].sess Aw cw H[k].writes (.slice Ar H[k].reads.length cr) key (Old wr) wr hws (fun b h => h) hwl)
      generalize H[k].writes = L at *
      generalize H[k].sess = sy at *
      generalize H[k].reads = Ry at *
      generalize L.contains key = cb at *
      obtain ⟨Av, cv, rfl⟩ := hown.form
      replace hown := hide hown
      clear hws
      go_wp2_with fail
      clear c0 d0 d1 d2
      refine hcw.out.mono ?_
      rintro e w3 ⟨rfl, hb2⟩
      have hb3 := hb.trans (hb2.mono hb.size)
      have k3 := k0.below hb2 k0.lt
      have hown3 := hide (own_below hown.out hb2 (Nat.le_refl _))
      have hsz2 := hb3.size
      clear hcw hown hb2
      cases cb with
      | true =>
        have hst2 : Hid (wrsTo H key (k + 1) = wrsTo H key k ++ [k]) := hide (by rw [hst.out]; rfl)
        clear hst
        generalize wrsTo H key k = L at *
        have hkL : (intsN L).length + 1 ≤ maxLen := by rw [hlq.out]; unfold maxLen; omega
        have hkb : ((intsN L).length + 1) * 8 ≤ 140737488355328 := by rw [hlq.out]; omega
        generalize intsN L = D at *
        go_wp2_with (at_builtin; go_loud (refine wpList_push (enc := Go.Inq.encI) rfl (.tmp 29) (.tmp 31) 27 rfl (w.heap.size + 1) 3 ii _ 1 8 Tryz.underlying27 hii hi1 hi2 hi3 rfl (by decide) (.slice Av D.length cv) D rfl hown3.out (fun _ => rfl) (k : Int) _ rfl rfl Go.Inq.encI_one hkL hkb k3.lt w w.heap.size (by omega) hb3 ?_); intro v1 w6 hown1 hg1 hb1 hat1)
        have k6 := (k3.alloc (.cells #[.int .i64 (k : Int)] 3)).grown hg1 (fun e => by have := (hown3.out.lt _ e.symm).1; omega)
        go_roundw
        case rel => exact ⟨k + 1, by omega, by go_num, by rw [hst2.out, hsn.out]; exact hown1, hb1, k6⟩
        case measure => simp [intOf]; omega
      | false =>
        have hst2 : Hid (wrsTo H key (k + 1) = wrsTo H key k) := hide (by rw [hst.out]; simp)
        clear hst
        go_wp2
        go_roundw
        case rel => exact ⟨k + 1, by omega, by go_num, by rw [hst2.out]; exact hown3.out, hb3, k3⟩
        case measure => simp [intOf]; omega
    · obtain rfl : k = H.length := by omega
      go_wp2
      go_ret
      exact ⟨_, rfl, own_base' hown (by omega), hb⟩

/-- The pairs of the keys below k. -/
def pairsR (H : List Txn) (k : Nat) : List Cho := ((List.range k).map fun (key : Nat) => pairsK (key : Int) (wrsL H (key : Int))).flatten
theorem pairsR_step (H : List Txn) (k : Nat) : pairsR H (k + 1) = pairsR H k ++ pairsK (k : Int) (wrsL H (k : Int)) := by
  unfold pairsR
  rw [List.range_succ, List.map_append, List.flatten_append]
  simp
theorem flat_filter {α β : Type} (p : α → Bool) (f : α → List β) : ∀ l : List α, (∀ x ∈ l, p x = false → f x = []) → ((l.filter p).map f).flatten = (l.map f).flatten
  | [], _ => rfl
  | x :: l, h => by
    have ih := flat_filter p f l fun y hy => h y (by simp [hy])
    cases hp : p x with
    | true => simp [hp, ih]
    | false => simp [hp, ih, h x (by simp) hp]
theorem pairsR_all {H : List Txn} (hr : rightH H = true) : pairsR H 16 = pairsL H := by
  have hb : ∀ t ∈ H, ∀ k ∈ t.writes, 0 ≤ k ∧ k < 16 := fun t ht k hk => by
    obtain ⟨i, hi, rfl⟩ := List.getElem_of_mem ht
    exact (((rightH_iff H).1 hr).2 i hi).wkey k hk
  unfold pairsR pairsL
  rw [keysL_16 hb, List.map_map]
  symm
  refine flat_filter _ _ _ fun k _ hk => ?_
  have : wrsL H (k : Int) = [] := by simpa using hk
  show pairsK (k : Int) (wrsL H (k : Int)) = []
  rw [this]
  rfl
theorem pairsR_len {H : List Txn} (h32 : H.length ≤ 32) : ∀ k, (pairsR H k).length ≤ k * 1024
  | 0 => by simp [pairsR]
  | k + 1 => by
    rw [pairsR_step, List.length_append]
    have h1 := pairsR_len h32 k
    have h2 := pairsK_len (k : Int) (wrsL H (k : Int))
    have h3 := wrsL_len H (k : Int)
    have h4 : (wrsL H (k : Int)).length * (wrsL H (k : Int)).length ≤ 32 * 32 := Nat.mul_le_mul (by omega) (by omega)
    omega
end Go.Proofs.YtjomijnbnbideaaGreatDoor

namespace Go.Proofs.YtjomijnbnbideaaGreatDoor
open Go.RowKit Go.Inq
set_option maxHeartbeats 8000000
attribute [local go_sem ↓] Go.wp_at_zero Go.wp_at_succ

theorem pairIn_step {L : List Nat} {key : Int} {i y : Nat} (hi : i < L.length) (hy : y < L.length) (hiy : i + 1 ≤ y) (P : List Cho) :
    P ++ (((L.drop (i + 1)).take (y + 1 - (i + 1))).map fun (b : Nat) => (⟨key, (L[i] : Nat), b⟩ : Cho)) = (P ++ (((L.drop (i + 1)).take (y - (i + 1))).map fun (b : Nat) => (⟨key, (L[i] : Nat), b⟩ : Cho))) ++ [⟨key, (L[i] : Nat), (L[y] : Nat)⟩] := by
  have hd : y - (i + 1) < (L.drop (i + 1)).length := by rw [List.length_drop]; omega
  rw [show y + 1 - (i + 1) = y - (i + 1) + 1 by omega, List.take_succ_eq_append_getElem hd, List.map_append, ← List.append_assoc]
  congr 1
  simp only [List.map_cons, List.map_nil, List.getElem_drop]
  congr 3
  congr 1
  congr 1
  omega
set_option maxRecDepth 100000 in
theorem rpairs09_any (A : Option Addr) (c : Nat) (H : List Txn) (w : World) (h : TxnS w (Old w) (.slice A H.length c) H) (hr : rightH H = true) (hn : SmallH H) :
    Calls Tryz.prog 38 #[.agg #[.slice A H.length c]] w (OutC w (pairsL H)) := by
  obtain ⟨ic, hic, hi1, hi2, hi3⟩ := info_parts infoC9
  have h32 : H.length ≤ 32 := ((rightH_iff H).1 hr).1
  have hall := hide (pairsR_all hr)
  have hlen := hide (pairsR_len h32)
  obtain ⟨W0, hW0⟩ : ∃ W0, w.alloc (.cells #[.slice A H.length c] 24) = W0 := ⟨_, rfl⟩
  have hB := below_allocEq (Below.refl w.heap.size w) hW0 (Nat.le_refl _)
  have k0 := Blk.newEq hW0
  go_enter Tryz.func38, Tryz.ntmps38
  go_wp2_with fail
  clear hW0
  go_loopw [3, 4] (fun s3 s4 wr => ∃ k : Nat, k ≤ 16 ∧ s4 = .int .i64 k ∧ OwnC wr (w.heap.size + 1) s3 (pairsR H k) ∧ Below w.heap.size w wr ∧ Blk wr w.heap.size 24 #[.slice A H.length c]) (fun _ s4 _ => 16 - (intOf s4).toNat)
  case atStart => exact ⟨0, Nat.zero_le _, by go_num, OwnC.nil _ _, hB, k0⟩
  case round =>
    clear k0 hB
    obtain ⟨k, hk, rfl, hown, hb, k0⟩ := hrel
    have hk1 : (0 : Int) ≤ (k : Int) := Int.natCast_nonneg _
    have c0 := k0.cell 0
    simp only [List.getElem?_toArray, List.getElem?_cons_zero, List.getElem?_cons_succ] at c0
    by_cases hlt : k < 16
    · have hk2 : (k : Int) < 16 := by omega
      have hst := hide (pairsR_step H k)
      have hlk := hlen.out k
      have hcw := hide (rwriters09_any A c H (k : Int) wr (h.below hb) hr hn)
      have hLn := wrsL_len H (k : Int)
      have hpa := hide (pairsI_all (k : Int) (wrsL H (k : Int)))
      have hpi := hide (fun i (hi : i < (wrsL H (k : Int)).length) => pairsI_step (k : Int) (wrsL H (k : Int)) hi)
      have hpl := hide (pairsI_len (k : Int) (wrsL H (k : Int)))
      generalize wrsL H (k : Int) = L at *
      obtain ⟨Av, cv, rfl⟩ := hown.form
      replace hr := hide hr
      generalize hq : pairsR H k = Q at *
      replace hq := hide hq
      go_wp2_with fail
      clear c0
      refine hcw.out.mono ?_
      rintro e wl ⟨vl, rfl, hLO, hbl⟩
      obtain ⟨Al, cl, hv⟩ := hLO.form
      rw [intsN_len] at hv
      subst hv
      have hLS := hLO.sl (K := fun b => wr.heap.size ≤ b ∧ b < wl.heap.size) (fun g h1 h2 => ⟨h1, h2⟩)
      have hb2 := hb.trans (hbl.mono hb.size)
      have k2 := k0.below hbl k0.lt
      have hown2 : OwnC wl (w.heap.size + 1) (.slice Av Q.length cv) Q := own_below hown hbl (Nat.le_refl _)
      have hlt2 := hide (fun g hg => hown.lt g hg)
      clear hcw hLO hbl hb hown k0
      go_wp2_with fail
      go_loopw [3, 6] (fun s3 s6 wq => ∃ i : Nat, i ≤ L.length ∧ s6 = .int .i64 i ∧ OwnC wq (w.heap.size + 1) s3 (Q ++ pairsI k L i) ∧ GrowR NoS wl (.slice Av Q.length cv) wq s3) (fun _ s6 _ => L.length - (intOf s6).toNat)
      case atStart => exact ⟨0, Nat.zero_le _, by go_num, by simpa [pairsI] using hown2, GrowR.refl _ _ _⟩
      case round =>
        clear hown2
        obtain ⟨Wo, rfl⟩ : ∃ Wo, Wo = wr := ⟨_, rfl⟩
        obtain ⟨i, hi, rfl, hown, hg⟩ := hrel
        have hi1' : (0 : Int) ≤ (i : Int) := Int.natCast_nonneg _
        by_cases hil : i < L.length
        · have hi2' : (i : Int) < (L.length : Int) := by omega
          have hpst := hide (hpi.out i hil)
          have hlen2 := hpl.out i
          have hlen3 : i * L.length ≤ 32 * 32 := Nat.mul_le_mul (by omega) (by omega)
          obtain ⟨Ar, cr, rfl⟩ := OwnC.form hown
          replace hown := hide hown
          go_wp2_with fail
          go_loopw [3, 7] (fun s3 s7 wq => ∃ y : Nat, i + 1 ≤ y ∧ y ≤ L.length ∧ s7 = .int .i64 y ∧ OwnC wq (w.heap.size + 1) s3 (Q ++ pairsI k L i ++ (((L.drop (i + 1)).take (y - (i + 1))).map fun (b : Nat) => (⟨k, (L[i] : Nat), b⟩ : Cho))) ∧ GrowR NoS wl (.slice Av Q.length cv) wq s3) (fun _ s7 _ => L.length - (intOf s7).toNat)
          case atStart => exact ⟨i + 1, Nat.le_refl _, hil, by go_num, by simpa using hown.out, hg⟩
          case round =>
            clear hown hg
            obtain ⟨Wp, rfl⟩ : ∃ Wp, Wp = wr := ⟨_, rfl⟩
            obtain ⟨y, hiy, hy, rfl, hown, hg⟩ := hrel
            have hy1' : (0 : Int) ≤ (y : Int) := Int.natCast_nonneg _
            by_cases hyl : y < L.length
            · have hy2' : (y : Int) < (L.length : Int) := by omega
              have hin := hide (pairIn_step (key := (k : Int)) hil hyl hiy (Q ++ pairsI k L i))
              have hLq := hLS.keep (K' := fun b => wr.heap.size ≤ b ∧ b < wl.heap.size) (hg.agree fun b hb => ⟨hb.2, fun e => by have := (hlt2.out b e).2; omega, noS b⟩) (fun b h => h)
              obtain ⟨bl, ol, rfl, -, z0⟩ := hLq.at_ (i := i) (by rw [intsN_len]; exact hil)
              have z1 := (hLq.cells (i := y) (by rw [intsN_len]; exact hyl)).2
              rw [intsN_at hil] at z0
              rw [intsN_at hyl] at z1
              have hDl : (Q ++ pairsI k L i ++ (((L.drop (i + 1)).take (y - (i + 1))).map fun (b : Nat) => (⟨k, (L[i] : Nat), b⟩ : Cho))).length ≤ 100000 := by
                simp only [List.length_append, List.length_map, List.length_take, List.length_drop]
                omega
              generalize Q ++ pairsI k L i ++ (((L.drop (i + 1)).take (y - (i + 1))).map fun (b : Nat) => (⟨k, (L[i] : Nat), b⟩ : Cho)) = D at *
              generalize L[i] = a at *
              generalize L[y] = b at *
              obtain ⟨Ad, cd, rfl⟩ := OwnC.form hown
              have hkD : D.length + 1 ≤ maxLen := by unfold maxLen; omega
              have hkb : (D.length + 1) * 24 ≤ 140737488355328 := by omega
              replace hown := hide hown
              have hsz2 : w.heap.size + 1 ≤ Wp.heap.size := by have := k2.lt; have := hg.size; omega
              go_wp2_with fail
              refine wp_region_plan [0, 1, 2, 3, 4, 5, 6, 7, 8, 9, 10] [11, 12, 13] (by kernel_rfl) (by kernel_rfl) (fun _ _ d _ _ h => by cases d <;> exact h) ?_
              simp only [List.filterMap_cons, List.filterMap_nil, List.getElem?_cons_zero, List.getElem?_cons_succ]
              repeat still_step
              refine wpStill_nil ?_
              have hown' := hide (show OwnC Wp.drew (w.heap.size + 1) (.slice Ad D.length cd) D from hown.out)
              have hg' := hg.drew
              have hsz3 : w.heap.size + 1 ≤ Wp.drew.heap.size := hsz2
              clear hg hsz2
              change wpList _ _ _ _ _ Wp.drew
              generalize Wp.drew = Wx at *
              refine wpList_plain rfl (fun K hK => ?_)
              go_simp
              refine hK _ _ ?_
              clear hK K
              refine wpList_pushG (enc := encC) rfl (.tmp 29) (.tmp 40) 61 rfl (w.heap.size + 1) 49 ic _ 3 24 Tryz.underlying61 hic hi1 hi2 hi3 rfl (by decide) (.slice Ad D.length cd) D rfl hown'.out (fun _ => rfl) (⟨(k : Int), (a : Int), (b : Int)⟩ : Cho) _ rfl rfl encC_one hkD hkb hsz3 ?_
              intro v1 w6 hown1 hg1
              go_wp2
              go_roundw
              case rel => exact ⟨y + 1, by omega, by omega, by go_num, by rw [hin.out]; exact hown1, hg'.trans hg1⟩
              case measure => simp [intOf]; omega
            · obtain rfl : y = L.length := by omega
              have hq2 : Q ++ pairsI k L i ++ (((L.drop (i + 1)).take (L.length - (i + 1))).map fun (b : Nat) => (⟨k, (L[i] : Nat), b⟩ : Cho)) = Q ++ pairsI k L (i + 1) := by
                rw [List.take_of_length_le (by simp), hpst.out, List.append_assoc]
              rw [hq2] at hown
              clear hq2
              go_wp2
              go_roundw
              case rel => exact ⟨i + 1, by omega, by go_num, hown, hg⟩
              case measure => simp [intOf]; omega
        · obtain rfl : i = L.length := by omega
          have hown4 := hide (show OwnC Wo (w.heap.size + 1) u3 (pairsR H (k + 1)) by rw [hst.out, ← hpa.out]; exact hown)
          have hbF := hide (hg.belowN hb2 hb2.size (fun g e => by have := (hlt2.out g e).1; omega))
          have k4 := hide (hg.blk k2 (fun e => by have := (hlt2.out _ e).1; omega) (noS _))
          clear hown hg
          go_wp2
          go_roundw
          case rel => exact ⟨k + 1, by omega, by go_num, hown4.out, hbF.out, k4.out⟩
          case measure => simp [intOf]; omega
    · obtain rfl : k = 16 := by omega
      rw [hall.out] at hown
      go_wp2
      go_ret
      exact ⟨_, rfl, own_base' hown (by omega), hb⟩
end Go.Proofs.YtjomijnbnbideaaGreatDoor

namespace Go.Proofs.YtjomijnbnbideaaGreatDoor
open Go.RowKit Go.Inq
set_option maxHeartbeats 8000000
attribute [local go_sem ↓] Go.wp_at_zero Go.wp_at_succ

theorem rback18_any (k a b : Int) (w : World) : Calls Tryz.prog 74 #[.agg #[.int .i64 k, .int .i64 a, .int .i64 b]] w fun e w' => e = .returned (.agg #[.int .i64 k, .int .i64 b, .int .i64 a]) ∧ Below w.heap.size w w' := by
  obtain ⟨W0, hW0⟩ : ∃ W0, (w.alloc (.cells #[.int .i64 k, .int .i64 a, .int .i64 b] 49)).alloc (.cells #[.int .i64 0, .int .i64 0, .int .i64 0] 49) = W0 := ⟨_, rfl⟩
  have hb := below_two hW0
  have k1 := Blk.two1 hW0
  have k2 := Blk.two2 hW0
  have a0 := k1.cell 0
  have a1 := k1.cell 1
  have a2 := k1.cell 2
  have b0 := k2.cell 0
  have b1 := k2.cell 1
  have b2 := k2.cell 2
  have f0 := k2.frozen 0
  have f1 := k2.frozen 1
  have f2 := k2.frozen 2
  simp only [List.getElem?_toArray, List.getElem?_cons_zero, List.getElem?_cons_succ] at a0 a1 a2 b0 b1 b2
  have hz := hide (((hb.setCell (p := ⟨w.heap.size + 1, 0, none⟩) (by simp) (.int .i64 k)).setCell (p := ⟨w.heap.size + 1, 1, none⟩) (by simp) (.int .i64 b)).setCell (p := ⟨w.heap.size + 1, 2, none⟩) (by simp) (.int .i64 a))
  have hq := ((k2.set_ 0 (.int .i64 k)).set_ 1 (.int .i64 b)).set_ 2 (.int .i64 a)
  simp only [List.setIfInBounds_toArray, List.set_cons_zero, List.set_cons_succ] at hq
  have y0 := hq.cell 0
  have y1 := hq.cell 1
  have y2 := hq.cell 2
  simp only [List.getElem?_toArray, List.getElem?_cons_zero, List.getElem?_cons_succ] at y0 y1 y2
  clear hq
  go_enter Tryz.func74, Tryz.ntmps74
  go_wp2_with fail
  exact bodyPost_ret (v := .agg #[.int .i64 k, .int .i64 b, .int .i64 a]) (by simp [results, Tryz.results74, go_sem, y0, y1, y2]) rfl ⟨rfl, hz.out⟩

/-- The first among some numbers that is one of a pair. -/
def scanC (p : Cho) : List Int → Option Cho
  | [] => none
  | x :: r => if x = p.a then some p else if x = p.b then some ⟨p.key, p.b, p.a⟩ else scanC p r
theorem scanC_turn (p : Cho) : ∀ l : List Int, turnC l p = scanC p l
  | [] => by simp [turnC, scanC]
  | x :: r => by
    have ih := scanC_turn p r
    unfold scanC
    rw [← ih]
    unfold turnC
    rw [List.idxOf?_cons, List.idxOf?_cons]
    by_cases h1 : x = p.a
    · subst h1
      simp only [beq_self_eq_true, if_true]
      by_cases h2 : p.a = p.b
      · simp [h2]
      · have : (p.a == p.b) = false := by simpa using h2
        rw [this]
        cases List.idxOf? p.b r <;> simp
    · have e1 : (x == p.a) = false := by simpa using h1
      rw [e1]
      by_cases h2 : x = p.b
      · subst h2
        simp only [beq_self_eq_true, if_true]
        rw [if_neg h1]
        cases List.idxOf? p.a r <;> simp
      · have e2 : (x == p.b) = false := by simpa using h2
        rw [e2, if_neg h1, if_neg h2]
        cases List.idxOf? p.a r <;> cases List.idxOf? p.b r <;> simp
theorem scan_a {p : Cho} {l : List Int} {k : Nat} (hk : k < l.length) (h : l[k] = p.a) : scanC p (l.drop k) = some p := by
  rw [List.drop_eq_getElem_cons hk]; simp [scanC, h]
theorem scan_b {p : Cho} {l : List Int} {k : Nat} (hk : k < l.length) (h1 : l[k] ≠ p.a) (h : l[k] = p.b) : scanC p (l.drop k) = some ⟨p.key, p.b, p.a⟩ := by
  rw [List.drop_eq_getElem_cons hk]
  unfold scanC
  rw [if_neg h1, if_pos h]
theorem scan_no {p : Cho} {l : List Int} {k : Nat} (hk : k < l.length) (h1 : l[k] ≠ p.a) (h : l[k] ≠ p.b) : scanC p (l.drop k) = scanC p (l.drop (k + 1)) := by
  rw [List.drop_eq_getElem_cons hk]
  conv => lhs; unfold scanC
  rw [if_neg h1, if_neg h]
theorem decTo_step {path : List Int} {P : List Cho} {i : Nat} (hi : i < P.length) : (P.take (i + 1)).filterMap (turnC path) = (P.take i).filterMap (turnC path) ++ (turnC path P[i]).toList := by
  rw [take_snoc' hi, List.filterMap_append]
  cases h : turnC path P[i] <;> simp [h]
end Go.Proofs.YtjomijnbnbideaaGreatDoor

namespace Go.Proofs.YtjomijnbnbideaaGreatDoor
open Go.RowKit Go.Inq
set_option maxHeartbeats 8000000
attribute [local go_sem ↓] Go.wp_at_zero Go.wp_at_succ

theorem idxI_first {l : List Int} {x : Int} {k : Nat} (hk : k < l.length) (h0 : (l.take k).contains x = false) (h : l[k] = x) : idxI l x = k := by
  refine idxI_some ?_
  rw [List.idxOf?, List.findIdx?_eq_some_iff_getElem]
  refine ⟨hk, by simpa using h, fun j hj => ?_⟩
  rw [beq_iff_eq]
  intro e
  have : (l.take k).contains x = true := by
    rw [List.contains_iff_mem]
    exact List.mem_take_iff_getElem.2 ⟨j, by omega, e⟩
  rw [h0] at this
  cases this
theorem idxI_miss {l : List Int} {x : Int} (h0 : l.contains x = false) : idxI l x = -1 := by
  refine idxI_no ?_
  rw [List.idxOf?, List.findIdx?_eq_none_iff]
  intro y hy
  rw [beq_eq_false_iff_ne]
  rintro rfl
  rw [Bool.eq_false_iff] at h0
  exact h0 (List.contains_iff_mem.2 hy)
theorem idxI_neg {l : List Int} {x : Int} : idxI l x < 0 ↔ l.contains x = false := by
  constructor
  · intro h
    rw [Bool.eq_false_iff]
    intro hc
    obtain ⟨k, hk⟩ : ∃ k, l.idxOf? x = some k := by
      cases e : l.idxOf? x with
      | some k => exact ⟨k, rfl⟩
      | none =>
        rw [List.idxOf?, List.findIdx?_eq_none_iff] at e
        have := e x (List.contains_iff_mem.1 hc)
        simp at this
    rw [idxI_some hk] at h
    omega
  · intro h; rw [idxI_miss h]; decide
theorem idxI_ge {l : List Int} {x : Int} (h : l.contains x = true) : 0 ≤ idxI l x := by
  rcases Int.lt_or_le (idxI l x) 0 with g | g
  · rw [idxI_neg, h] at g; cases g
  · exact g
set_option maxRecDepth 100000 in
theorem rplace18_any (A : Option Addr) (c : Nat) (l : List Int) (x : Int) (K : Nat → Prop) (w : World) (h : IntS w K (.slice A l.length c) l) (hn : l.length ≤ 1000000000) :
    Calls Tryz.prog 215 #[.slice A l.length c, .int .i64 x] w fun e w' => e = .returned (.int .i64 (idxI l x)) ∧ w = w' := by
  replace h := hide h
  have hhit := hide (fun k (hk : k < l.length) => idxI_first (x := x) hk)
  have hmis := hide (idxI_miss (l := l) (x := x))
  generalize idxI l x = r at *
  go_enter Tryz.func215, Tryz.ntmps215
  go_wp2_with fail
  go_loop [5] (fun s5 => ∃ k : Nat, k ≤ l.length ∧ s5 = .int .i64 k ∧ Hid ((l.take k).contains x = false)) (fun s5 => l.length - (intOf s5).toNat)
  case atStart => exact ⟨0, Nat.zero_le _, by go_num, hide rfl⟩
  case round =>
    obtain ⟨k, hk, rfl, hc⟩ := hrel
    have hk1 : (0 : Int) ≤ (k : Int) := Int.natCast_nonneg _
    by_cases hlt : k < l.length
    · have hki : (k : Int) < (l.length : Int) := by omega
      obtain ⟨b, off, rfl, -, x1⟩ := h.out.at_ hlt
      have hst : Hid ((l.take (k + 1)).contains x = ((l.take k).contains x || l[k] == x)) := hide (by rw [take_snoc' hlt, List.contains_append]; congr 1; rw [List.contains_cons, List.contains_nil, Bool.or_false]; rw [Bool.eq_iff_iff, beq_iff_eq, beq_iff_eq]; exact eq_comm)
      have hin := hide (fun e => hhit.out k hlt hc.out e)
      generalize l[k] = y at *
      cases hy : (y == x) with
      | true =>
        have hr := hin.out (by simpa using hy)
        subst hr
        clear hin hst
        replace hc := hide hc
        replace hhit := hide hhit
        go_wp2
        go_ret
        exact ⟨rfl, rfl⟩
      | false =>
        have hr : Hid ((l.take (k + 1)).contains x = false) := hide (by rw [hst.out, hc.out, hy]; rfl)
        clear hin hst
        replace hc := hide hc
        go_wp2
        go_round
        case rel => exact ⟨k + 1, by omega, by go_num, hr⟩
        case measure => simp [intOf]; omega
    · obtain rfl : k = l.length := by omega
      have hr := hmis.out (by have := hc.out; rwa [List.take_length] at this)
      subst hr
      replace hc := hide hc
      go_wp2
      go_ret
      exact ⟨rfl, rfl⟩
/-- Are numbers those of n things, each once? -/
def permB (l : List Int) (n : Nat) : Bool := decide (l.length = n) && (List.range n).all fun i => l.contains (i : Int)
set_option maxRecDepth 100000 in
theorem rperm18_any (A : Option Addr) (c : Nat) (l : List Int) (n : Nat) (K : Nat → Prop) (w : World) (h : IntS w K (.slice A l.length c) l) (hn : l.length ≤ 1000000000) :
    Calls Tryz.prog 175 #[.slice A l.length c, .int .i64 (n : Int)] w fun e w' => e = .returned (.bool (permB l n)) ∧ w = w' := by
  replace h := hide h
  by_cases hln : l.length = n
  · subst hln
    have hno : Hid (∀ i, i < l.length → l.contains (i : Int) = false → permB l l.length = false) := hide (fun i hi hc => by
      unfold permB
      rw [Bool.and_eq_false_iff]
      right
      rw [List.all_eq_false]
      exact ⟨i, List.mem_range.2 hi, by rw [hc]; decide⟩)
    have hyes : Hid ((∀ i, i < l.length → l.contains (i : Int) = true) → permB l l.length = true) := hide (fun g => by
      unfold permB
      rw [decide_eq_true rfl, Bool.true_and, List.all_eq_true]
      exact fun i hi => g i (List.mem_range.1 hi))
    generalize permB l l.length = r at *
    go_enter Tryz.func175, Tryz.ntmps175
    go_wp2_with fail
    go_loop [5] (fun s5 => ∃ k : Nat, k ≤ l.length ∧ s5 = .int .i64 k ∧ Hid (∀ i, i < k → l.contains (i : Int) = true)) (fun s5 => l.length - (intOf s5).toNat)
    case atStart => exact ⟨0, Nat.zero_le _, by go_num, hide (fun i hi => absurd hi (by omega))⟩
    case round =>
      obtain ⟨k, hk, rfl, hall⟩ := hrel
      have hk1 : (0 : Int) ≤ (k : Int) := Int.natCast_nonneg _
      by_cases hlt : k < l.length
      · have hki : (k : Int) < (l.length : Int) := by omega
        have hcall := hide (rplace18_any A c l (k : Int) K w h.out hn)
        have hneg := hide (idxI_neg (l := l) (x := (k : Int)))
        have hst := hide (fun (g : l.contains (k : Int) = true) => (fun i (hi : i < k + 1) => (by
          by_cases e : i = k
          · subst e; exact g
          · exact hall.out i (by omega) : l.contains (i : Int) = true)))
        have hno2 := hide (hno.out k hlt)
        generalize idxI l (k : Int) = q at *
        go_wp2_with fail
        refine hcall.out.mono ?_
        rintro e w1 ⟨rfl, rfl⟩
        by_cases hq : q < 0
        · have hr := hno2.out (hneg.out.1 hq)
          have hqb : decide (q < 0) = true := by simpa using hq
          subst hr
          clear hneg hst hno2 hq
          replace hall := hide hall
          go_wp2
          go_ret
          exact ⟨rfl, rfl⟩
        · have hqb : decide (q < 0) = false := by simpa using hq
          have hr := hide (hst.out (by
            cases e : l.contains (k : Int) with
            | true => rfl
            | false => exact absurd (hneg.out.2 e) hq))
          clear hneg hst hno2 hq hall
          go_wp2
          go_round
          case rel => exact ⟨k + 1, by omega, by go_num, hr⟩
          case measure => simp [intOf]; omega
      · obtain rfl : k = l.length := by omega
        have hr := hyes.out hall.out
        subst hr
        replace hall := hide hall
        go_wp2
        go_ret
        exact ⟨rfl, rfl⟩
  · have hne : ((l.length : Int) != (n : Int)) = true := by simp; omega
    have hr : permB l n = false := by unfold permB; rw [decide_eq_false hln]; rfl
    rw [hr]
    clear hln hr
    go_enter Tryz.func175, Tryz.ntmps175
    go_wp2
    go_ret
    exact ⟨rfl, rfl⟩
/-- A pair, as an order has it. -/
def ofC (order : List Int) (p : Cho) : Cho := if idxI order p.a > idxI order p.b then ⟨p.key, p.b, p.a⟩ else p
def ofL (H : List Txn) (order : List Int) : List Cho := (pairsL H).map (ofC order)
theorem fmC_congr {α β : Type} {f g : α → Option β} : ∀ {l : List α}, (∀ x ∈ l, f x = g x) → l.filterMap f = l.filterMap g
  | [], _ => rfl
  | x :: l, h => by
    rw [List.filterMap_cons, List.filterMap_cons, h x (by simp), fmC_congr fun y hy => h y (by simp [hy])]
theorem ofL_dec {H : List Txn} {order : List Int} (h : permB order H.length = true) : ofL H order = decW H order := by
  unfold ofL decW
  rw [← List.filterMap_eq_map]
  refine fmC_congr fun p hp => ?_
  obtain ⟨a, b, ha, hb, hab, hbn, -, -⟩ := pairsL_mem hp
  unfold permB at h
  rw [Bool.and_eq_true, List.all_eq_true] at h
  have h1 := h.2 a (List.mem_range.2 (by omega))
  have h2 := h.2 b (List.mem_range.2 hbn)
  rw [← ha] at h1
  rw [← hb] at h2
  have g1 := idxI_ge h1
  have g2 := idxI_ge h2
  unfold turnC ofC
  show some (if _ then _ else _) = _
  cases e1 : order.idxOf? p.a with
  | none => rw [idxI_no e1] at g1; omega
  | some i =>
    cases e2 : order.idxOf? p.b with
    | none => rw [idxI_no e2] at g2; omega
    | some j =>
      rw [idxI_some e1, idxI_some e2]
      dsimp only
      by_cases hij : j < i
      · rw [if_pos (by omega), if_pos hij]
      · rw [if_neg (by omega), if_neg hij]
end Go.Proofs.YtjomijnbnbideaaGreatDoor

namespace Go.Proofs.YtjomijnbnbideaaGreatDoor
open Go.RowKit Go.Inq

theorem scanC_append {p d : Cho} : ∀ {a b : List Int}, scanC p a = some d → scanC p (a ++ b) = some d
  | [], b, h => by simp [scanC] at h
  | x :: a, b, h => by
    show scanC p (x :: (a ++ b)) = some d
    unfold scanC at h ⊢
    by_cases h1 : x = p.a
    · rw [if_pos h1] at h ⊢; exact h
    · rw [if_neg h1] at h ⊢
      by_cases h2 : x = p.b
      · rw [if_pos h2] at h ⊢; exact h
      · rw [if_neg h2] at h ⊢; exact scanC_append h
theorem dec_append {H : List Txn} {a b : List Int} : ∀ c ∈ decW H a, c ∈ decW H (a ++ b) := by
  intro c hc
  unfold decW at hc ⊢
  rw [List.mem_filterMap] at hc ⊢
  obtain ⟨q, h1, h2⟩ := hc
  rw [scanC_turn] at h2
  exact ⟨q, h1, by rw [scanC_turn]; exact scanC_append h2⟩
/-- The beginnings of a good order are good. -/
theorem good_prefix {H : List Txn} {level : Int} {a b : List Int} (h : goodB H level (decW H (a ++ b)) = true) : goodB H level (decW H a) = true := good_less dec_append h
theorem order_good {H : List Txn} {level : Int} {a : List Int} : (orderT H.length (fullE H level (decW H a))).isSome = goodB H level (decW H a) := good_order _ _ _
end Go.Proofs.YtjomijnbnbideaaGreatDoor
