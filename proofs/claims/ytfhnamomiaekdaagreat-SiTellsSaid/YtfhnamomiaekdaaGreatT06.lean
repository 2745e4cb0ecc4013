/-
  Walks: layer 9: who writes a key, all keys.
-/
import Derived.Lib.OwnBridge
import Derived.Test.YtfhnamomiaekdaaGreatT02
import Derived.Test.YtfhnamomiaekdaaGreatT05
import Derived.Test.YtfhnamomiaekdaaGreatT03
set_option linter.unusedVariables false
set_option linter.unusedSimpArgs false
namespace Go.Proofs.YtfhnamomiaekdaaGreat
open Go.RowKit Go.Inq
set_option maxHeartbeats 4000000
attribute [local go_sem ↓] Go.wp_at_zero Go.wp_at_succ

theorem flat_encI (l : List Int) : (l.map Go.Inq.encI).flatten = l.map (Value.int .i64) := by
  induction l with
  | nil => rfl
  | cons x r ih => rw [List.map_cons, List.flatten_cons, ih]; rfl
theorem below_grow (w : World) (os : Array Obj) : Below w.heap.size w (Go.Sort.grow w os) :=
  ⟨rfl, rfl, rfl, by simp [Go.Sort.grow], fun k hk => by simp [Go.Sort.grow, Array.getElem?_append, hk]⟩
theorem sortI_any (base : Nat) (A : Option Addr) (c : Nat) (l : List Int) (w : World) (h : OwnI w base (.slice A l.length c) l) (hl : l.length < 4611686018427387904) :
    Calls Tryz.prog 95 #[.slice A l.length c] w fun e w' => e = .returned (.tuple #[]) ∧ OwnI w' base (.slice A l.length c) (l.mergeSort fun x y => decide (x ≤ y)) ∧ Below base w w' := by
  unfold OwnI at h ⊢
  rw [flat_encI] at h ⊢
  by_cases hv : (Value.slice A l.length c) = .slice none 0 0
  · injection hv with h1 h2 h3
    subst h1 h3
    have : l = [] := List.eq_nil_of_length_eq_zero h2
    subst this
    refine (Go.Proofs.Tryz.slices_Sort_int_none none 0 w).mono ?_
    rintro e w' ⟨rfl, rfl⟩
    exact ⟨rfl, by rw [List.mergeSort_nil]; exact World.ownsRow_nil _ _ _ _, Below.refl _ _⟩
  · obtain ⟨g, cap, hv', hbg, hgl, hn, hm, _, hH⟩ := Go.Lib.holds_of_ownsRow h hv
    injection hv' with h1 h2 h3
    subst h1 h3
    refine (Go.Proofs.Tryz.slices_Sort_int g 0 c l w hH hgl hl).mono ?_
    rintro e w' ⟨rfl, n, os, rfl⟩
    have hlen : (l.mergeSort fun x y => decide (x ≤ y)).length = l.length := List.length_mergeSort l
    have hr := Go.Lib.ownsRow_putRow (q := n) (k := l.length) h hlen (Nat.le_refl _)
    rw [List.take_of_length_le (by rw [hlen]; exact Nat.le_refl _)] at hr
    rw [hlen]
    have hb2 := Go.Lib.below_putRow (enc := Value.int .i64) (q := n) (d := (l.mergeSort fun x y => decide (x ≤ y)).toArray) (Below.refl base w) hbg
    have hz := (hr.lt g rfl).2
    exact ⟨rfl, own_below hr (below_grow _ os) (Nat.le_refl _), hb2.trans ((below_grow _ os).mono (by omega))⟩
theorem compactI_any (base : Nat) (A : Option Addr) (c : Nat) (l : List Int) (w : World) (h : OwnI w base (.slice A l.length c) l) (hl : l.length ≤ 1000000000) :
    Calls Tryz.prog 234 #[.slice A l.length c] w fun e w' => ∃ v, e = .returned v ∧ OwnI w' base v (Go.Lib.compact l) ∧ Below base w w' := by
  unfold OwnI at h ⊢
  rw [flat_encI] at h ⊢
  by_cases hv : (Value.slice A l.length c) = .slice none 0 0
  · injection hv with h1 h2 h3
    subst h1 h3
    have : l = [] := List.eq_nil_of_length_eq_zero h2
    subst this
    refine (Go.Proofs.Tryz.slices_Compact_int_empty none 0 w).mono ?_
    rintro e w' ⟨rfl, rfl⟩
    exact ⟨_, rfl, World.ownsRow_nil _ _ _ _, Below.refl _ _⟩
  · obtain ⟨g, cap, hv', hbg, hgl, hn, hm, _, hH⟩ := Go.Lib.holds_of_ownsRow h hv
    injection hv' with h1 h2 h3
    subst h1 h3
    refine (Go.Proofs.Tryz.slices_Compact_int g 0 c l w hH (by omega) hn).mono ?_
    rintro e w' ⟨rfl, q, rfl⟩
    have hk : (Go.Lib.compact l).length ≤ l.length := Go.Lib.compact_length_le l
    have hlen : (Go.Lib.compact l ++ List.replicate (l.length - (Go.Lib.compact l).length) 0).length = l.length := by simp; omega
    have hr := Go.Lib.ownsRow_putRow (q := q) (k := (Go.Lib.compact l).length) h hlen hk
    rw [List.take_append_of_le_length (Nat.le_refl _), List.take_length] at hr
    exact ⟨_, rfl, hr, Go.Lib.below_putRow (enc := Value.int .i64) (Below.refl base w) hbg⟩
theorem wrsTo_none (H : List Txn) (key : Int) : wrsTo H key 0 = [] := rfl
set_option maxRecDepth 100000 in
theorem writers9_any (A : Option Addr) (c : Nat) (H : List Txn) (key : Int) (w : World) (h : TxnS w (Old w) (.slice A H.length c) H) (hn : SmallH H) (hr : rightH H = true) :
    Calls Tryz.prog 198 #[.agg #[.slice A H.length c], .int .i64 key] w (OutI w (intsN (wrsL H key))) := by
  obtain ⟨ii, hii, hi1, hi2, hi3⟩ := info_parts infoI10
  obtain ⟨W0, hW0⟩ : ∃ W0, w.alloc (.cells #[.slice A H.length c] 24) = W0 := ⟨_, rfl⟩
  have hB := below_allocEq (Below.refl w.heap.size w) hW0 (Nat.le_refl _)
  have k0 := Blk.newEq hW0
  have h0 := hide (h.below hB)
  have hlen := hn.1
  have hwl := hide (fun i (hi : i < H.length) => (hn.2 _ (List.getElem_mem hi)).1)
  replace hn := hide hn
  replace hr := hide hr
  replace h := hide h
  have c0 := k0.cell 0
  simp only [List.getElem?_toArray, List.getElem?_cons_zero, List.getElem?_cons_succ] at c0
  go_enter Tryz.func198, Tryz.ntmps198
  go_wp2_with fail
  clear hW0 c0
  refine (right8_any A c H _ h0.out hn.out).mono ?_
  rintro e w1 ⟨rfl, hb1⟩
  rw [hr.out]
  replace k0 := k0.below hb1 k0.lt
  have hb := hB.trans (hb1.mono hB.size)
  clear hb1 hB h0
  have c0 := k0.cell 0
  simp only [List.getElem?_toArray, List.getElem?_cons_zero, List.getElem?_cons_succ] at c0
  go_wp2_with fail
  clear c0 k0
  go_loopw [5, 14] (fun s5 s14 wr => ∃ k : Nat, k ≤ H.length ∧ s14 = .int .i64 k ∧ OwnI wr w.heap.size s5 (intsN (wrsTo H key k)) ∧ Below w.heap.size w wr) (fun _ s14 _ => H.length - (intOf s14).toNat)
  case atStart => exact ⟨0, Nat.zero_le _, by go_num, OwnI.nil _ _, hb⟩
  case round =>
    clear hb
    obtain ⟨k, hk, rfl, hown, hb⟩ := hrel
    have hi1' : (0 : Int) ≤ (k : Int) := Int.natCast_nonneg _
    by_cases hlt : k < H.length
    · have hi2' : (k : Int) < (H.length : Int) := by omega
      obtain ⟨b, off, Aw, cw, Ar, cr, rfl, _, d0, d1, d2, hws, _⟩ := TxnS.at_ (h.out.below hb) hlt
      have hwk := hwl.out k hlt
      have hst := hide (wrsTo_step H key k)
      rw [txnAt_of hlt] at hst
      have hcnt : (wrsTo H key k).length ≤ k := Nat.le_trans (List.length_filter_le _ _) (by simp)
      have hszb := hb.size
      obtain ⟨Av, cv, rfl⟩ := hown.form
      generalize H[k] = t at *
      obtain ⟨ts, ws, rs⟩ := t
      dsimp only at *
      have hws2 := hide (hws.keep (w' := wr.alloc (.cells #[.int .i64 ts, .slice Aw ws.length cw, .slice Ar rs.length cr] 86)) (Agree.alloc (fun b hb => hb) _) (fun b h => h))
      have hb2 := hb.alloc hszb (.cells #[.int .i64 ts, .slice Aw ws.length cw, .slice Ar rs.length cr] 86)
      have hown2 := hown.alloc (.cells #[.int .i64 ts, .slice Aw ws.length cw, .slice Ar rs.length cr] 86)
      clear hws
      replace hown2 := hide hown2
      have hlq := hide (intsN_len (wrsTo H key k))
      have hsn := hide (intsN_snoc (wrsTo H key k) k)
      go_wp2_with fail
      clear d0 d1 d2
      refine (contains_int Aw cw ws key _ _ hws2.out (by unfold maxLen; omega)).mono ?_
      rintro e w3 ⟨rfl, rfl⟩
      have hsz2 := hb2.size
      cases hc : ws.contains key with
      | true =>
        have hst2 : Hid (wrsTo H key (k + 1) = wrsTo H key k ++ [k]) := hide (by rw [hst.out, hc]; rfl)
        clear hc hst
        generalize wr.alloc (.cells #[.int .i64 ts, .slice Aw ws.length cw, .slice Ar rs.length cr] 86) = Wx at *
        go_wp2_with (at_builtin; refine wpList_push (enc := Go.Inq.encI) rfl (.tmp 23) (.tmp 25) 26 rfl w.heap.size 3 ii _ 1 8 Tryz.underlying26 hii hi1 hi2 hi3 rfl (by decide) (.slice Av (intsN (wrsTo H key k)).length cv) (intsN (wrsTo H key k)) rfl hown2.out (fun _ => rfl) (k : Int) _ rfl rfl Go.Inq.encI_one (by rw [hlq.out]; simp [maxLen]; omega) (by rw [hlq.out]; omega) hsz2 w w.heap.size (Nat.le_refl _) hb2 ?_; intro v1 w6 hown1 hg1 hb1 hat1)
        go_roundw
        case rel => exact ⟨k + 1, by omega, by go_num, by unfold OwnI; rw [hst2.out, hsn.out]; exact hown1, hb1⟩
        case measure => simp [intOf]; omega
      | false =>
        have hst2 : Hid (wrsTo H key (k + 1) = wrsTo H key k) := hide (by rw [hst.out, hc]; simp)
        clear hc hst
        go_wp2
        go_roundw
        case rel => exact ⟨k + 1, by omega, by go_num, by unfold OwnI; rw [hst2.out]; exact hown2.out, hb2⟩
        case measure => simp [intOf]; omega
    · obtain rfl : k = H.length := by omega
      go_wp2
      go_ret
      exact ⟨_, rfl, hown, hb⟩
def allK (H : List Txn) (k : Nat) : List Int := ((H.take k).map (·.writes)).flatten
theorem allK_step {H : List Txn} {k : Nat} (h : k < H.length) : allK H (k + 1) = allK H k ++ H[k].writes := by
  unfold allK
  rw [List.take_succ_eq_append_getElem h, List.map_append, List.flatten_append]; simp
theorem allK_len {H : List Txn} (h : ∀ i (hi : i < H.length), H[i].writes.length ≤ 1000000) : ∀ k, k ≤ H.length → (allK H k).length ≤ k * 1000000
  | 0, _ => by simp [allK]
  | k + 1, hk => by
    rw [allK_step (by omega), List.length_append]
    have := allK_len h k (by omega)
    have := h k (by omega)
    omega
set_option maxRecDepth 100000 in
theorem keys9_any (A : Option Addr) (c : Nat) (H : List Txn) (w : World) (h : TxnS w (Old w) (.slice A H.length c) H) (hn : SmallH H) (hr : rightH H = true) :
    Calls Tryz.prog 197 #[.agg #[.slice A H.length c]] w (OutI w (keysL H)) := by
  obtain ⟨ii, hii, hi1, hi2, hi3⟩ := info_parts infoI10
  obtain ⟨W0, hW0⟩ : ∃ W0, w.alloc (.cells #[.slice A H.length c] 24) = W0 := ⟨_, rfl⟩
  have hB := below_allocEq (Below.refl w.heap.size w) hW0 (Nat.le_refl _)
  have k0 := Blk.newEq hW0
  have h0 := hide (h.below hB)
  have h32 : H.length ≤ 32 := ((rightH_iff H).1 hr).1
  have hwl := hide (fun i (hi : i < H.length) => (hn.2 _ (List.getElem_mem hi)).1)
  have hal := hide (allK_len hwl.out)
  have hkl : Hid (keysL H = Go.Lib.compact ((allK H H.length).mergeSort fun x y => decide (x ≤ y))) := hide (by unfold keysL allK; rw [List.take_length])
  replace hn := hide hn
  replace hr := hide hr
  replace h := hide h
  have c0 := k0.cell 0
  simp only [List.getElem?_toArray, List.getElem?_cons_zero, List.getElem?_cons_succ] at c0
  go_enter Tryz.func197, Tryz.ntmps197
  go_wp2_with fail
  clear hW0 c0
  refine (right8_any A c H _ h0.out hn.out).mono ?_
  rintro e w1 ⟨rfl, hb1⟩
  rw [hr.out]
  replace k0 := k0.below hb1 k0.lt
  have hb := hB.trans (hb1.mono hB.size)
  clear hb1 hB h0
  have c0 := k0.cell 0
  simp only [List.getElem?_toArray, List.getElem?_cons_zero, List.getElem?_cons_succ] at c0
  go_wp2_with fail
  clear c0 k0
  go_loopw [3, 12] (fun s3 s12 wr => ∃ k : Nat, k ≤ H.length ∧ s12 = .int .i64 k ∧ OwnI wr w.heap.size s3 (allK H k) ∧ Below w.heap.size w wr) (fun _ s12 _ => H.length - (intOf s12).toNat)
  case atStart => exact ⟨0, Nat.zero_le _, by go_num, OwnI.nil _ _, hb⟩
  case round =>
    clear hb
    obtain ⟨k, hk, rfl, hown, hb⟩ := hrel
    have hi1' : (0 : Int) ≤ (k : Int) := Int.natCast_nonneg _
    by_cases hlt : k < H.length
    · have hi2' : (k : Int) < (H.length : Int) := by omega
      obtain ⟨b, off, Aw, cw, Ar, cr, rfl, _, d0, d1, d2, hws, _⟩ := TxnS.at_ (h.out.below hb) hlt
      have hwk := hwl.out k hlt
      have hst := hide (allK_step hlt)
      have hcnt := hal.out k hk
      have hszb := hb.size
      obtain ⟨Av, cv, rfl⟩ := hown.form
      generalize H[k] = t at *
      obtain ⟨ts, ws, rs⟩ := t
      dsimp only at *
      have hws2 := hide (hws.keep (w' := wr.alloc (.cells #[.int .i64 ts, .slice Aw ws.length cw, .slice Ar rs.length cr] 86)) (Agree.alloc (fun b hb => hb) _) (fun b h => h))
      have hb2 := hb.alloc hszb (.cells #[.int .i64 ts, .slice Aw ws.length cw, .slice Ar rs.length cr] 86)
      have hown2 := hown.alloc (.cells #[.int .i64 ts, .slice Aw ws.length cw, .slice Ar rs.length cr] 86)
      have hlo := hide (fun b hb => (hown.lt b hb).1)
      clear hws
      replace hown2 := hide hown2
      generalize allK H k = M at *
      go_wp2_with (at_builtin; refine wpList_append_flat (enc := Go.Inq.encI) rfl (.tmp 16) (.tmp 18) 26 rfl w.heap.size 3 ii _ 1 8 Tryz.underlying26 hii hi1 hi2 hi3 rfl (by decide) (.slice Av M.length cv) (Old wr) M rfl hown2.out (fun _ => rfl) (.slice Aw ws.length cw) ws rfl hws2.out Go.Inq.encI_one (by simp [maxLen]; omega) (by omega) (by simp; omega) ?_; intro v1 w6 hown1 hg1 hat1)
      have hb3 := below_grown hb2 hg1 (by simp; omega) (fun k hk => hlo.out k hk)
      go_wp2
      go_roundw
      case rel => exact ⟨k + 1, by omega, by go_num, by unfold OwnI; rw [hst.out]; exact hown1, hb3⟩
      case measure => simp [intOf]; omega
    · obtain rfl : k = H.length := by omega
      have hcnt := hal.out _ hk
      obtain ⟨Av, cv, rfl⟩ := hown.form
      have hMl : (allK H H.length).length < 4611686018427387904 := by omega
      have hMl2 : (allK H H.length).length ≤ 1000000000 := by omega
      clear hcnt
      generalize allK H H.length = M at *
      have hslen := List.length_mergeSort (le := fun x y : Int => decide (x ≤ y)) M
      replace hslen := hide hslen
      have hszb := hb.size
      go_wp2_with fail
      refine (sortI_any w.heap.size Av cv M _ hown hMl).mono ?_
      rintro e w2 ⟨rfl, hown2, hb2⟩
      replace hb := hb.trans hb2
      have hs2 : Hid (OwnI w2 w.heap.size (.slice Av (M.mergeSort fun x y => decide (x ≤ y)).length cv) (M.mergeSort fun x y => decide (x ≤ y))) := hide (by rw [hslen.out]; exact hown2)
      clear hown hown2 hb2
      go_wp2_with fail
      rw [← hslen.out]
      have hMl3 : (M.mergeSort fun x y => decide (x ≤ y)).length ≤ 1000000000 := by rw [hslen.out]; exact hMl2
      refine (compactI_any w.heap.size Av cv _ _ hs2.out hMl3).mono ?_
      rintro e w3 ⟨v, rfl, hown3, hb3⟩
      replace hb := hb.trans hb3
      go_wp2
      go_ret
      exact ⟨_, rfl, by rw [hkl.out]; exact hown3, hb⟩
end Go.Proofs.YtfhnamomiaekdaaGreat
