/-
  Walks: layer 9: who writes a key, all keys.
-/
import Derived.Lib.OwnBridge
import Derived.Maps.OwnIn
import Derived.Shelf.SlSortCmp.Whole1
import Derived.BigQuiet
import Derived.Test.YtfhnamomiaekdaaRSiRowsWE
import Derived.Test.YtfhnamomiaekdaaRSiRowsWD
import Derived.Test.YtfhnamomiaekdaaRSiRowsWB
import Derived.Test.YtfhnamomiaekdaaRSiRowsWA
set_option linter.unusedVariables false
set_option linter.unusedSimpArgs false
namespace Go.Proofs.Ytfhnamomiaekdaa
open Go.RowKit Go.Inq
set_option maxHeartbeats 4000000
attribute [local go_sem ↓] Go.wp_at_zero Go.wp_at_succ

theorem flat_encI (l : List Int) : (l.map Go.Inq.encI).flatten = l.map (Value.int .i64) := by
  induction l with
  | nil => rfl
  | cons x r ih => rw [List.map_cons, List.flatten_cons, ih]; rfl
theorem below_grow (w : World) (os : Array Obj) : Below w.heap.size w (Go.Sort.grow w os) :=
  ⟨rfl, rfl, rfl, by simp [Go.Sort.grow], fun k hk => by simp [Go.Sort.grow, Array.getElem?_append, hk]⟩
theorem sortI_any (base : Nat) (A : Option Addr) (c : Nat) (l : List Int) (w : World) (h : OwnI w base (.slice A l.length c) l) (hl : l.length < 4611686018427387904) :
    Calls Try.prog 34 #[.slice A l.length c] w fun e w' => e = .returned (.tuple #[]) ∧ OwnI w' base (.slice A l.length c) (l.mergeSort fun x y => decide (x ≤ y)) ∧ Below base w w' := by
  unfold OwnI at h ⊢
  rw [flat_encI] at h ⊢
  by_cases hv : (Value.slice A l.length c) = .slice none 0 0
  · injection hv with h1 h2 h3
    subst h1 h3
    have : l = [] := List.eq_nil_of_length_eq_zero h2
    subst this
    refine (Go.Proofs.Try.slices_Sort_int_none none 0 w).mono ?_
    rintro e w' ⟨rfl, rfl⟩
    exact ⟨rfl, by rw [List.mergeSort_nil]; exact World.ownsRow_nil _ _ _ _, Below.refl _ _⟩
  · obtain ⟨g, cap, hv', hbg, hgl, hn, hm, _, hH⟩ := Go.Lib.holds_of_ownsRow h hv
    injection hv' with h1 h2 h3
    subst h1 h3
    refine (Go.Proofs.Try.slices_Sort_int g 0 c l w hH hgl hl).mono ?_
    rintro e w' ⟨rfl, n, os, rfl⟩
    have hlen : (l.mergeSort fun x y => decide (x ≤ y)).length = l.length := List.length_mergeSort l
    have hr := Go.Lib.ownsRow_putRow (q := n) (k := l.length) h hlen (Nat.le_refl _)
    rw [List.take_of_length_le (by rw [hlen]; exact Nat.le_refl _)] at hr
    rw [hlen]
    have hb2 := Go.Lib.below_putRow (enc := Value.int .i64) (q := n) (d := (l.mergeSort fun x y => decide (x ≤ y)).toArray) (Below.refl base w) hbg
    have hz := (hr.lt g rfl).2
    exact ⟨rfl, own_below hr (below_grow _ os) (Nat.le_refl _), hb2.trans ((below_grow _ os).mono (by omega))⟩
theorem compactI_any (base : Nat) (A : Option Addr) (c : Nat) (l : List Int) (w : World) (h : OwnI w base (.slice A l.length c) l) (hl : l.length ≤ 1000000000) :
    Calls Try.prog 64 #[.slice A l.length c] w fun e w' => ∃ v, e = .returned v ∧ OwnI w' base v (Go.Lib.compact l) ∧ Below base w w' := by
  unfold OwnI at h ⊢
  rw [flat_encI] at h ⊢
  by_cases hv : (Value.slice A l.length c) = .slice none 0 0
  · injection hv with h1 h2 h3
    subst h1 h3
    have : l = [] := List.eq_nil_of_length_eq_zero h2
    subst this
    refine (Go.Proofs.Try.slices_Compact_int_empty none 0 w).mono ?_
    rintro e w' ⟨rfl, rfl⟩
    exact ⟨_, rfl, World.ownsRow_nil _ _ _ _, Below.refl _ _⟩
  · obtain ⟨g, cap, hv', hbg, hgl, hn, hm, _, hH⟩ := Go.Lib.holds_of_ownsRow h hv
    injection hv' with h1 h2 h3
    subst h1 h3
    refine (Go.Proofs.Try.slices_Compact_int g 0 c l w hH (by omega) hn).mono ?_
    rintro e w' ⟨rfl, q, rfl⟩
    have hk : (Go.Lib.compact l).length ≤ l.length := Go.Lib.compact_length_le l
    have hlen : (Go.Lib.compact l ++ List.replicate (l.length - (Go.Lib.compact l).length) 0).length = l.length := by simp; omega
    have hr := Go.Lib.ownsRow_putRow (q := q) (k := (Go.Lib.compact l).length) h hlen hk
    rw [List.take_append_of_le_length (Nat.le_refl _), List.take_length] at hr
    exact ⟨_, rfl, hr, Go.Lib.below_putRow (enc := Value.int .i64) (Below.refl base w) hbg⟩
theorem wrsTo_none (H : List Txn) (key : Int) : wrsTo H key 0 = [] := rfl
set_option maxRecDepth 100000 in
theorem writers9_any (A : Option Addr) (c : Nat) (H : List Txn) (key : Int) (w : World) (h : TxnS w (Old w) (.slice A H.length c) H) (hn : SmallH H) (hr : rightH H = true) :
    Calls Try.prog 44 #[.agg #[.slice A H.length c], .int .i64 key] w (OutI w (intsN (wrsL H key))) := by
  obtain ⟨ii, hii, hi1, hi2, hi3⟩ := info_parts infoI10
  obtain ⟨W0, hW0⟩ : ∃ W0, w.alloc (.cells #[.slice A H.length c] 24) = W0 := ⟨_, rfl⟩
  have hB := below_allocEq (Below.refl w.heap.size w) hW0 (Nat.le_refl _)
  have k0 := Blk.newEq hW0
  have h0 := hide (h.below hB)
  have hlen := hn.1
  have hwl := hide (fun i (hi : i < H.length) => (hn.2 _ (List.getElem_mem hi)).1)
  replace hn := hide hn
  replace hr := hide hr
  replace h := hide h
  have c0 := k0.cell 0
  simp only [List.getElem?_toArray, List.getElem?_cons_zero, List.getElem?_cons_succ] at c0
  go_enter Try.func44, Try.ntmps44
  go_wp2_with fail
  clear hW0 c0
  refine (right8_any A c H _ h0.out hn.out).mono ?_
  rintro e w1 ⟨rfl, hb1⟩
  rw [hr.out]
  replace k0 := k0.below hb1 k0.lt
  have hb := hB.trans (hb1.mono hB.size)
  clear hb1 hB h0
  have c0 := k0.cell 0
  simp only [List.getElem?_toArray, List.getElem?_cons_zero, List.getElem?_cons_succ] at c0
  go_wp2_with fail
  clear c0 k0
  go_loopw [5, 14] (fun s5 s14 wr => ∃ k : Nat, k ≤ H.length ∧ s14 = .int .i64 k ∧ OwnI wr w.heap.size s5 (intsN (wrsTo H key k)) ∧ Below w.heap.size w wr) (fun _ s14 _ => H.length - (intOf s14).toNat)
  case atStart => exact ⟨0, Nat.zero_le _, by go_num, OwnI.nil _ _, hb⟩
  case round =>
    clear hb
    obtain ⟨k, hk, rfl, hown, hb⟩ := hrel
    have hi1' : (0 : Int) ≤ (k : Int) := Int.natCast_nonneg _
    by_cases hlt : k < H.length
    · have hi2' : (k : Int) < (H.length : Int) := by omega
      obtain ⟨b, off, Aw, cw, Ar, cr, rfl, _, d0, d1, d2, hws, _⟩ := TxnS.at_ (h.out.below hb) hlt
      have hwk := hwl.out k hlt
      have hst := hide (wrsTo_step H key k)
      rw [txnAt_of hlt] at hst
      have hcnt : (wrsTo H key k).length ≤ k := Nat.le_trans (List.length_filter_le _ _) (by simp)
      have hszb := hb.size
      obtain ⟨Av, cv, rfl⟩ := hown.form
      generalize H[k] = t at *
      obtain ⟨ts, ws, rs⟩ := t
      dsimp only at *
      have hws2 := hide (hws.keep (w' := wr.alloc (.cells #[.int .i64 ts, .slice Aw ws.length cw, .slice Ar rs.length cr] 38)) (Agree.alloc (fun b hb => hb) _) (fun b h => h))
      have hb2 := hb.alloc hszb (.cells #[.int .i64 ts, .slice Aw ws.length cw, .slice Ar rs.length cr] 38)
      have hown2 := hown.alloc (.cells #[.int .i64 ts, .slice Aw ws.length cw, .slice Ar rs.length cr] 38)
      clear hws
      replace hown2 := hide hown2
      have hlq := hide (intsN_len (wrsTo H key k))
      have hsn := hide (intsN_snoc (wrsTo H key k) k)
      go_wp2_with fail
      clear d0 d1 d2
      refine (contains_int Aw cw ws key _ _ hws2.out (by unfold maxLen; omega)).mono ?_
      rintro e w3 ⟨rfl, rfl⟩
      have hsz2 := hb2.size
      cases hc : ws.contains key with
      | true =>
        have hst2 : Hid (wrsTo H key (k + 1) = wrsTo H key k ++ [k]) := hide (by rw [hst.out, hc]; rfl)
        clear hc hst
        generalize wr.alloc (.cells #[.int .i64 ts, .slice Aw ws.length cw, .slice Ar rs.length cr] 38) = Wx at *
        go_wp2_with (at_builtin; refine wpList_push (enc := Go.Inq.encI) rfl (.tmp 23) (.tmp 25) 25 rfl w.heap.size 3 ii _ 1 8 Try.underlying25 hii hi1 hi2 hi3 rfl (by decide) (.slice Av (intsN (wrsTo H key k)).length cv) (intsN (wrsTo H key k)) rfl hown2.out (fun _ => rfl) (k : Int) _ rfl rfl Go.Inq.encI_one (by rw [hlq.out]; simp [maxLen]; omega) (by rw [hlq.out]; omega) hsz2 w w.heap.size (Nat.le_refl _) hb2 ?_; intro v1 w6 hown1 hg1 hb1 hat1)
        go_roundw
        case rel => exact ⟨k + 1, by omega, by go_num, by unfold OwnI; rw [hst2.out, hsn.out]; exact hown1, hb1⟩
        case measure => simp [intOf]; omega
      | false =>
        have hst2 : Hid (wrsTo H key (k + 1) = wrsTo H key k) := hide (by rw [hst.out, hc]; simp)
        clear hc hst
        go_wp2
        go_roundw
        case rel => exact ⟨k + 1, by omega, by go_num, by unfold OwnI; rw [hst2.out]; exact hown2.out, hb2⟩
        case measure => simp [intOf]; omega
    · obtain rfl : k = H.length := by omega
      go_wp2
      go_ret
      exact ⟨_, rfl, hown, hb⟩
def allK (H : List Txn) (k : Nat) : List Int := ((H.take k).map (·.writes)).flatten
theorem allK_step {H : List Txn} {k : Nat} (h : k < H.length) : allK H (k + 1) = allK H k ++ H[k].writes := by
  unfold allK
  rw [List.take_succ_eq_append_getElem h, List.map_append, List.flatten_append]; simp
theorem allK_len {H : List Txn} (h : ∀ i (hi : i < H.length), H[i].writes.length ≤ 1000000) : ∀ k, k ≤ H.length → (allK H k).length ≤ k * 1000000
  | 0, _ => by simp [allK]
  | k + 1, hk => by
    rw [allK_step (by omega), List.length_append]
    have := allK_len h k (by omega)
    have := h k (by omega)
    omega
set_option maxRecDepth 100000 in
theorem keys9_any (A : Option Addr) (c : Nat) (H : List Txn) (w : World) (h : TxnS w (Old w) (.slice A H.length c) H) (hn : SmallH H) (hr : rightH H = true) :
    Calls Try.prog 43 #[.agg #[.slice A H.length c]] w (OutI w (keysL H)) := by
  obtain ⟨ii, hii, hi1, hi2, hi3⟩ := info_parts infoI10
  obtain ⟨W0, hW0⟩ : ∃ W0, w.alloc (.cells #[.slice A H.length c] 24) = W0 := ⟨_, rfl⟩
  have hB := below_allocEq (Below.refl w.heap.size w) hW0 (Nat.le_refl _)
  have k0 := Blk.newEq hW0
  have h0 := hide (h.below hB)
  have h32 : H.length ≤ 32 := ((rightH_iff H).1 hr).1
  have hwl := hide (fun i (hi : i < H.length) => (hn.2 _ (List.getElem_mem hi)).1)
  have hal := hide (allK_len hwl.out)
  have hkl : Hid (keysL H = Go.Lib.compact ((allK H H.length).mergeSort fun x y => decide (x ≤ y))) := hide (by unfold keysL allK; rw [List.take_length])
  replace hn := hide hn
  replace hr := hide hr
  replace h := hide h
  have c0 := k0.cell 0
  simp only [List.getElem?_toArray, List.getElem?_cons_zero, List.getElem?_cons_succ] at c0
  go_enter Try.func43, Try.ntmps43
  go_wp2_with fail
  clear hW0 c0
  refine (right8_any A c H _ h0.out hn.out).mono ?_
  rintro e w1 ⟨rfl, hb1⟩
  rw [hr.out]
  replace k0 := k0.below hb1 k0.lt
  have hb := hB.trans (hb1.mono hB.size)
  clear hb1 hB h0
  have c0 := k0.cell 0
  simp only [List.getElem?_toArray, List.getElem?_cons_zero, List.getElem?_cons_succ] at c0
  go_wp2_with fail
  clear c0 k0
  go_loopw [3, 12] (fun s3 s12 wr => ∃ k : Nat, k ≤ H.length ∧ s12 = .int .i64 k ∧ OwnI wr w.heap.size s3 (allK H k) ∧ Below w.heap.size w wr) (fun _ s12 _ => H.length - (intOf s12).toNat)
  case atStart => exact ⟨0, Nat.zero_le _, by go_num, OwnI.nil _ _, hb⟩
  case round =>
    clear hb
    obtain ⟨k, hk, rfl, hown, hb⟩ := hrel
    have hi1' : (0 : Int) ≤ (k : Int) := Int.natCast_nonneg _
    by_cases hlt : k < H.length
    · have hi2' : (k : Int) < (H.length : Int) := by omega
      obtain ⟨b, off, Aw, cw, Ar, cr, rfl, _, d0, d1, d2, hws, _⟩ := TxnS.at_ (h.out.below hb) hlt
      have hwk := hwl.out k hlt
      have hst := hide (allK_step hlt)
      have hcnt := hal.out k hk
      have hszb := hb.size
      obtain ⟨Av, cv, rfl⟩ := hown.form
      generalize H[k] = t at *
      obtain ⟨ts, ws, rs⟩ := t
      dsimp only at *
      have hws2 := hide (hws.keep (w' := wr.alloc (.cells #[.int .i64 ts, .slice Aw ws.length cw, .slice Ar rs.length cr] 38)) (Agree.alloc (fun b hb => hb) _) (fun b h => h))
      have hb2 := hb.alloc hszb (.cells #[.int .i64 ts, .slice Aw ws.length cw, .slice Ar rs.length cr] 38)
      have hown2 := hown.alloc (.cells #[.int .i64 ts, .slice Aw ws.length cw, .slice Ar rs.length cr] 38)
      have hlo := hide (fun b hb => (hown.lt b hb).1)
      clear hws
      replace hown2 := hide hown2
      generalize allK H k = M at *
      go_wp2_with (at_builtin; refine wpList_append_flat (enc := Go.Inq.encI) rfl (.tmp 16) (.tmp 18) 25 rfl w.heap.size 3 ii _ 1 8 Try.underlying25 hii hi1 hi2 hi3 rfl (by decide) (.slice Av M.length cv) (Old wr) M rfl hown2.out (fun _ => rfl) (.slice Aw ws.length cw) ws rfl hws2.out Go.Inq.encI_one (by simp [maxLen]; omega) (by omega) (by simp; omega) ?_; intro v1 w6 hown1 hg1 hat1)
      have hb3 := below_grown hb2 hg1 (by simp; omega) (fun k hk => hlo.out k hk)
      go_wp2
      go_roundw
      case rel => exact ⟨k + 1, by omega, by go_num, by unfold OwnI; rw [hst.out]; exact hown1, hb3⟩
      case measure => simp [intOf]; omega
    · obtain rfl : k = H.length := by omega
      have hcnt := hal.out _ hk
      obtain ⟨Av, cv, rfl⟩ := hown.form
      have hMl : (allK H H.length).length < 4611686018427387904 := by omega
      have hMl2 : (allK H H.length).length ≤ 1000000000 := by omega
      clear hcnt
      generalize allK H H.length = M at *
      have hslen := List.length_mergeSort (le := fun x y : Int => decide (x ≤ y)) M
      replace hslen := hide hslen
      have hszb := hb.size
      go_wp2_with fail
      refine (sortI_any w.heap.size Av cv M _ hown hMl).mono ?_
      rintro e w2 ⟨rfl, hown2, hb2⟩
      replace hb := hb.trans hb2
      have hs2 : Hid (OwnI w2 w.heap.size (.slice Av (M.mergeSort fun x y => decide (x ≤ y)).length cv) (M.mergeSort fun x y => decide (x ≤ y))) := hide (by rw [hslen.out]; exact hown2)
      clear hown hown2 hb2
      go_wp2_with fail
      rw [← hslen.out]
      have hMl3 : (M.mergeSort fun x y => decide (x ≤ y)).length ≤ 1000000000 := by rw [hslen.out]; exact hMl2
      refine (compactI_any w.heap.size Av cv _ _ hs2.out hMl3).mono ?_
      rintro e w3 ⟨v, rfl, hown3, hb3⟩
      replace hb := hb.trans hb3
      go_wp2
      go_ret
      exact ⟨_, rfl, by rw [hkl.out]; exact hown3, hb⟩
end Go.Proofs.Ytfhnamomiaekdaa

namespace Go.Proofs.Ytfhnamomiaekdaa
open Go.RowKit Go.Inq Go.Shelf
set_option maxHeartbeats 4000000
attribute [local go_sem] Oper.semAt_some
attribute [local go_sem ↓] Go.wp_at_zero Go.wp_at_succ

/-- All that is read, by whom. -/
def rowR (k : Nat) (l : List It) : List (Nat × It) := l.map fun r => (k, r)
def readsTo (H : List Txn) (k : Nat) : List (Nat × It) := ((List.range k).map fun t => rowR t (txnAt H t).reads).flatten
def readsL (H : List Txn) : List (Nat × It) := readsTo H H.length
theorem readsTo_step (H : List Txn) (k : Nat) : readsTo H (k + 1) = readsTo H k ++ rowR k (txnAt H k).reads := by
  unfold readsTo
  rw [List.range_succ, List.map_append, List.flatten_append]; simp
theorem readsTo_pre {H : List Txn} {k : Nat} (h : k ≤ H.length) : readsTo H k <+: readsL H := by
  unfold readsL readsTo
  obtain ⟨m, hm⟩ := Nat.le.dest h
  rw [← hm, List.range_add, List.map_append, List.flatten_append]
  exact List.prefix_append _ _
theorem rowR_take {k : Nat} {l : List It} {j : Nat} (h : j < l.length) : rowR k (l.take (j + 1)) = rowR k (l.take j) ++ [(k, l[j])] := by
  unfold rowR; rw [take_snoc' h, List.map_append]; rfl
theorem reads_pre {H : List Txn} {k j : Nat} (h : k < H.length) (hj : j < H[k].reads.length) : readsTo H k ++ rowR k (H[k].reads.take j) ++ [(k, H[k].reads[j])] <+: readsL H := by
  refine List.IsPrefix.trans ?_ (readsTo_pre (k := k + 1) (by omega))
  rw [readsTo_step, txnAt_of h, List.append_assoc, ← rowR_take hj]
  refine (List.prefix_append_right_inj _).2 ?_
  unfold rowR
  rw [List.map_take]
  exact List.take_prefix _ _
def encRd (x : Nat × It) : Value := .agg #[.int .i64 (x.1 : Nat), .int .i64 x.2.a, .int .i64 x.2.b]
end Go.Proofs.Ytfhnamomiaekdaa

namespace Go.Proofs.Ytfhnamomiaekdaa
open Go.RowKit Go.Inq Go.Shelf
set_option maxHeartbeats 4000000
attribute [local go_sem] Oper.semAt_some
attribute [local go_sem ↓] Go.wp_at_zero Go.wp_at_succ

theorem belowK_put {n₀ : Nat} {w : World} (hn : n₀ ≤ w.heap.size) (W : World) (l : Nat) (o o' : Obj) (hl : w.heap.size ≤ l) (_ : W.heap[l]? = some o) (_ : o.isCells = false) (_ : o.isWalk = false) : Below n₀ W (W.putObj l o') :=
  ⟨rfl, rfl, rfl, by simp, fun k hk => World.putObj_heap_other (by omega)⟩
/-- What is told of some reads. -/
def selR (key src : Int) (l : List (Nat × It)) : List Nat := (l.filter fun x => decide (x.2.a = key) && decide (x.2.b = src)).map (·.1)
theorem selR_snoc (key src : Int) (l : List (Nat × It)) (x : Nat × It) : selR key src (l ++ [x]) = selR key src l ++ (if decide (x.2.a = key) && decide (x.2.b = src) then [x.1] else []) := by
  unfold selR
  rw [List.filter_append, List.map_append]
  congr 1
  cases h : decide (x.2.a = key) && decide (x.2.b = src) <;> simp [List.filter_cons, h]
theorem selR_all (H : List Txn) (key src : Int) : selR key src (readsL H) = rdsL H key src := by
  unfold selR readsL readsTo rdsL
  rw [List.filter_flatten, List.map_flatten, List.map_map, List.map_map]
  congr 1
  refine List.map_congr_left fun t _ => ?_
  simp only [Function.comp_apply, rowR, List.filter_map, List.map_map]
  rfl
theorem readsTo_len {H : List Txn} (h : ∀ i (hi : i < H.length), H[i].reads.length ≤ 1000000) : ∀ k, k ≤ H.length → (readsTo H k).length ≤ k * 1000000
  | 0, _ => by simp [readsTo]
  | k + 1, hk => by
    rw [readsTo_step, List.length_append, txnAt_of (by omega)]
    have := readsTo_len h k (by omega)
    have := h k (by omega)
    simp only [rowR, List.length_map]
    omega
theorem readsL_len {H : List Txn} (hn : SmallH H) (hr : rightH H = true) : (readsL H).length ≤ 32000000 := by
  have h32 : H.length ≤ 32 := ((rightH_iff H).1 hr).1
  have := readsTo_len (fun i hi => (hn.2 _ (List.getElem_mem hi)).2) H.length (Nat.le_refl _)
  unfold readsL
  omega
theorem boxed_own {X Y : World} {row : Option Nat} {B : Nat} {t : TypeId} {v : Value} (hs : Boxed X B t v) (hg : X.grownBy Y row) (hrow : ∀ r, row = some r → ∃ o : Obj, X.heap[r]? = some o ∧ o.isCells = false) : Boxed Y B t v :=
  hs.kept hg (fun e' => by obtain ⟨o, ho, hc⟩ := hrow B e'.symm; rw [show X.heap[B]? = _ from hs] at ho; cases ho; cases hc)
theorem own_base {w : World} {base base' : Nat} {e : TypeId} {size n : Nat} {v : Value} {xs : List Value} (h : w.ownsRow base e size v n xs) (hb : base' ≤ base) : w.ownsRow base' e size v n xs := by
  refine ⟨h.1, ?_⟩
  rcases h.2 with h2 | ⟨g, cap, cur, hv, hg, r⟩
  · exact .inl h2
  · exact .inr ⟨g, cap, cur, hv, Nat.le_trans hb hg, r⟩
theorem wpListIn_push {F : Fence} {nF : Nat} {P : Program} {W : World} {ops : Array Oper} {rest : List Oper} {o : Oper} {a : Act} {Q : Exit → Act → World → Prop}
    (hgd : o.guard = none) (s x : Operand) (t : TypeId) (ho : o.op = .call { callee := .builtin .append, args := #[s, x], argTypes := #[t, t] })
    (base : Nat) (e : TypeId) (i : TypeInfo) (z : Value) (bytes : Nat) (ht : P.underlying t = some (.slice e)) (hi : P.info? e = some i) (hz : i.zero = some z)
    (hsize : i.size = 1) (hby : i.bytes = bytes) (hzs : z.cells.size = 1)
    (v : Value) (l : List Int) (hs : a.eval s = v) (hown : W.ownsRow base e 1 v l.length (l.map Go.Inq.encI).flatten)
    (x0 : Int) (hx : a.eval x = .slice (some ⟨W.heap.size, 0, none⟩) 1 1)
    (h63 : l.length + 1 ≤ maxLen) (hbytes : (l.length + 1) * bytes ≤ 140737488355328) (hbase : base ≤ W.heap.size)
    (h : ∀ v' w', w'.ownsRow base e 1 v' (l ++ [x0]).length ((l ++ [x0]).map Go.Inq.encI).flatten → (W.alloc (.cells #[.int .i64 x0] e)).grownBy w' v.ownBlock → (v'.ownBlock = v.ownBlock ∨ v'.ownBlock = some (W.heap.size + 1)) → wpListIn F nF P ops Q rest (a.put o.dst v') w') :
    wpListIn F nF P ops Q (o :: rest) a (W.alloc (.cells #[.int .i64 x0] e)) := by
  have hk : Blk (W.alloc (.cells #[.int .i64 x0] e)) W.heap.size e #[.int .i64 x0] := Blk.new _ _ _
  refine wpListIn_append_own_at _ hgd s x t ho base e i z 1 bytes ht hi hz hsize hby hzs (by decide) v l.length _ hs (hown.alloc _) ⟨W.heap.size, 0, none⟩ 1 1 [.int .i64 x0] hx rfl (fun j u hj => ?_) (by simp [Value.oneCell']) h63 hbytes (by simp; omega) ?_
  · cases j with
    | zero => injection hj with hj; subst hj; exact hk.cell 0
    | succ j => simp at hj
  · intro v' w' g1 g2 _ g3
    refine h v' w' ?_ g2 (by simpa using g3)
    rw [List.map_append, List.flatten_append, List.length_append]
    exact g1
end Go.Proofs.Ytfhnamomiaekdaa

namespace Go.Proofs.Ytfhnamomiaekdaa
open Go.RowKit Go.Inq Go.Shelf
set_option maxHeartbeats 4000000
attribute [local go_sem] Oper.semAt_some
attribute [local go_sem ↓] Go.wp_at_zero Go.wp_at_succ

theorem valuesI_any (A : Option Addr) (n c : Nat) (w : World) : Calls Try.prog 18 #[.slice A n c] w fun e w' => e = .returned (.func (.func 35) #[] #[.pointer (some ⟨w.heap.size, 0, none⟩)]) ∧ w' = w.alloc (.cells #[.slice A n c] 25) := by
  go_enter Try.func18, Try.ntmps18
  go_wp2
  go_ret
  exact ⟨rfl, rfl⟩
set_option maxRecDepth 100000 in
theorem valuesI_in (n : Nat) (hn : 1 ≤ n) (l Bh n₀ c : Nat) (A : Option Addr) (L : List Int) (hlen : L.length ≤ 1000000) (J Jx : List Int → World → Prop) (W : World)
    (hY : ∀ pre x W, J pre W → pre.length < L.length → YieldAt Fence.wide (n - 1) Try.prog l #[.int .i64 x] W fun e W' =>
      (e = .returned (.bool true) ∧ J (pre ++ [x]) W' ∧ Below n₀ W W') ∨ (e = .returned (.bool false) ∧ Jx (pre ++ [x]) W'))
    (hBh : W.cell? ⟨Bh, 0, none⟩ = some (.slice A L.length c)) (hT : IntS W (fun b => b < n₀) (.slice A L.length c) L) (h0 : J [] W) :
    CallsIn Fence.wide n Try.prog 35 #[.func (.yield l) #[] #[], .pointer (some ⟨Bh, 0, none⟩)] W fun e W' => (∃ v, e = .returned v) ∧
      ((∃ ys, ys = L ∧ J ys W') ∨ (∃ pre, pre <+: L ∧ Jx pre W')) := by
  have hro : Fence.wide.round = none := rfl
  refine callsIn_of_wp Try.func35 rfl trivial ?_ hro
  simp only [Try.ntmps35, List.size_toArray, List.length_cons, List.length_nil, Nat.reduceAdd, Nat.reduceSub, Array.replicate_succ, Array.replicate_zero, List.push_toArray, List.append_toArray, List.nil_append, List.cons_append]
  gi_wp2
  gi_loopw [7] (fun s7 wr => ∃ k : Nat, k ≤ L.length ∧ s7 = .int .i64 k ∧ J (L.take k) wr ∧ Below n₀ W wr) (fun s7 _ => L.length - (intOf s7).toNat)
  case atStart => exact ⟨0, Nat.zero_le _, by go_num, by simpa using h0, Below.refl _ _⟩
  case round =>
    obtain ⟨k, hk, rfl, hJs, hb⟩ := hrel
    have hk1 : (0 : Int) ≤ (k : Int) := Int.natCast_nonneg _
    by_cases hlt : k < L.length
    · have hi2 : (k : Int) < (L.length : Int) := by omega
      obtain ⟨b, off, rfl, hbK, d0'⟩ := hT.at_ hlt
      have d0 := (hb.cell (p := ⟨b, off + k, none⟩) hbK).trans d0'
      clear d0'
      obtain ⟨fn, tmps, assign, body, hy, hR⟩ := hY _ L[k] wr hJs (by rw [List.length_take]; omega)
      have hst := hide (take_snoc' hlt)
      have hpre := hide (List.take_prefix (k + 1) L)
      generalize L[k] = x at *
      gi_wp2
      refine hR.mono ?_
      clear hR hy fn tmps assign body
      rintro e W4 (⟨rfl, hJ5, hk5⟩ | ⟨rfl, hJx5⟩)
      · have hb5 := hb.trans hk5
        gi_wp2
        go_roundw
        case rel => exact ⟨k + 1, by omega, by go_num, by rw [hst.out]; exact hJ5, hb5⟩
        case measure => simp [intOf]; omega
      · gi_wp2
        refine bodyPost_ret (results_none rfl _ _ _) rfl ?_
        exact ⟨⟨_, rfl⟩, .inr ⟨_, by rw [← hst.out]; exact hpre.out, hJx5⟩⟩
    · obtain rfl : k = L.length := by omega
      rw [List.take_length] at hJs
      gi_wp2
      go_end0
      exact ⟨⟨_, rfl⟩, .inl ⟨_, rfl, hJs⟩⟩
theorem valuesI_stops (Bh n₀ c : Nat) (A : Option Addr) (L : List Int) (hlen : L.length ≤ 1000000) (w : World) (hBn : Bh < w.heap.size) (hnW : n₀ ≤ w.heap.size) (hc : w.cell? ⟨Bh, 0, none⟩ = some (.slice A L.length c)) (hT : IntS w (fun b => b < n₀) (.slice A L.length c) L) :
    SeqStopsK Fence.wide (3 - 1) Try.prog 35 #[.pointer (some ⟨Bh, 0, none⟩)] (fun x : Int => #[.int .i64 x]) (fun W W' => Below n₀ W W') (fun ys => ys = L) (fun pre => pre <+: L) L.length w := fun l J Jx W hW hJ _ hY h0 =>
  valuesI_in (3 - 1) (by omega) l Bh n₀ c A L hlen J Jx W hY ((hW.cell (p := ⟨Bh, 0, none⟩) hBn).trans hc) (IntS.keep hT (Agree.below hW fun b h => Nat.lt_of_lt_of_le h hnW) (fun b h => h)) h0
set_option maxRecDepth 100000 in
theorem appendSeqI_any (A : Option Addr) (Bv c : Nat) (L : List Int) (hlen : L.length ≤ 1000000) (w : World) (hv : w.cell? ⟨Bv, 0, none⟩ = some (.slice A L.length c)) (h : IntS w (Old w) (.slice A L.length c) L) :
    Calls Try.prog 45 #[.slice none 0 0, .func (.func 35) #[] #[.pointer (some ⟨Bv, 0, none⟩)]] w (OutI w L) := by
  refine (callsIn_wide (n := 3)).1 ?_
  have hro : Fence.wide.round = none := rfl
  refine callsIn_of_wp_marks Try.func45 rfl trivial ?_ hro
  simp only [Try.ntmps45, List.size_toArray, List.length_cons, List.length_nil, Nat.reduceAdd, Nat.reduceSub, Array.replicate_succ, Array.replicate_zero, List.push_toArray, List.append_toArray, List.nil_append, List.cons_append]
  have hBl : Bv < w.heap.size := block_lt_of_cell hv
  obtain ⟨ii, hii, hi1, hi2, hi3⟩ := info_parts infoI10
  obtain ⟨W0, hW0⟩ : ∃ W0, w.alloc (.cells #[.slice none 0 0] 25) = W0 := ⟨_, rfl⟩
  have hs0 := size_allocEq hW0
  have hBW := below_allocEq (Below.refl w.heap.size w) hW0 (Nat.le_refl _)
  have k3 := Blk.newEq hW0
  have c4 := (hBW.cell (p := ⟨Bv, 0, none⟩) hBl).trans hv
  have h2 : IntS W0 (fun b => b < w.heap.size) (.slice A L.length c) L := IntS.keep h (Agree.below hBW fun b h => h) (fun b h => h)
  gi_wp2
  clear hW0
  refine wpIn_rangeFunc_ownH hro (by omega) (gf := 35) (lb := #[.pointer (some ⟨Bv, 0, none⟩)]) rfl trivial (enters_of Try.func35 (by kernel_rfl) rfl)
    (valuesI_stops Bv w.heap.size c A L hlen W0 (by omega) (by omega) c4 h2) (fun h k => h.trans k) (belowK_put (by omega)) (Below.refl _ _) (fun _ => rfl)
    (fun (pre : List Int) W => ((∃ v, Boxed W w.heap.size 25 v ∧ W.ownsRow (w.heap.size + 1) 3 1 v pre.length (pre.map Go.Inq.encI).flatten ∧ True) ∧ (w.heap.size + 1 ≤ W.heap.size)) ∧ Below w.heap.size w W)
    (fun cc pre W => False)
    (OwnFrom.and (OwnFrom.and (Own.from (holdsRow_own (w.heap.size + 1) w.heap.size 25 3 1 (fun (pre : List Int) => pre.length) (fun (pre : List Int) => (pre.map Go.Inq.encI).flatten) (fun _ _ => True)) _) (Own.from (fun s A B row hs hg hr => Nat.le_trans hs hg.size) _)) (ownFrom_below (Nat.le_refl _) (by omega)))
    (fun cc s A B row hs hg hr => hs)
    ⟨⟨⟨.slice none 0 0, k3, World.ownsRow_nil _ _ _ _, trivial⟩, by omega⟩, hBW⟩
    (fun x a' W => a' = { tmps := #[.slice none 0 0, .func (.func 35) #[] #[.pointer (some ⟨Bv, 0, none⟩)], .pointer (some ⟨w.heap.size, 0, none⟩), undef, .slice none 0 0, .int .i64 x, .func (.func 35) #[] #[.pointer (some ⟨Bv, 0, none⟩)], .int .i64 x, undef, undef, undef, undef, undef], defers := [] })
    (fun x a' => Own.from (fun s A B row hs hg hr => hs) _) ?assign ?body ?done ?stop
  case assign =>
    rintro l pre x W K ⟨⟨⟨v, hv, hr, _⟩, hW5⟩, hB⟩ hK
    gi_wp2
    refine hK _ _ (KeepsOthers.refl _ |>.from _) (Below.refl _ _) ⟨⟨⟨v, hv, hr, trivial⟩, hW5⟩, hB⟩ rfl
  case body =>
    rintro l pre x a' W hl ⟨rl, hrl⟩ ⟨⟨⟨v, hv, hr, _⟩, hW5⟩, hB⟩ rfl hlen2
    have hl63 : pre.length + 1 ≤ maxLen := by simp [maxLen]; omega
    have hl64 : (pre.length + 1) * 8 ≤ 140737488355328 := by omega
    have g3 := hv.cell
    have f3 := hv.frozen
    obtain ⟨Av, cv, rfl⟩ := own_slice hr
    have hlo := hide (fun b hb => (hr.lt b hb).1)
    replace hr := hide hr
    obtain ⟨pq, hpq⟩ : ∃ pq, pre ++ [x] = pq := ⟨_, rfl⟩
    have hpq1 : pq.length = pre.length + 1 := by rw [← hpq]; simp
    rw [hpq]
    replace hpq := hide hpq
    replace hpq1 := hide hpq1
    gi_wp2_with (gi_at_builtin; refine wpListIn_push rfl (.tmp 8) (.tmp 10) 25 rfl (w.heap.size + 1) 3 ii _ 8 Try.underlying25 hii hi1 hi2 hi3 rfl (.slice Av pre.length cv) pre rfl hr.out x rfl hl63 hl64 hW5 ?_; rw [hpq.out]; intro v1 w6 hown1 hg1 hat1; obtain ⟨A1, c1, rfl⟩ := own_slice hown1; have hv1 := (hv.alloc (.cells #[.int .i64 x] 3)).kept hg1 (fun e => by have := hlo.out _ e.symm; omega); have g6 := hv1.cell; have f6 := hv1.frozen)
    have hz6 := hg1.size
    simp only [World.size_alloc] at hz6
    refine ⟨(((KeepsOthers.alloc W _).trans (KeepsOthers.of_grownBy hg1 fun j o ej hj => ?_)).trans (KeepsOthers.setCell _ _ _)).from _, ?_, ⟨⟨_, hv1.set _, hown1.kept (grownBy_setCell' w6 _ _) (.inr fun e => by have := (hown1.lt _ e).1; omega), trivial⟩, by simp; omega⟩, ?_⟩
    · rcases (hr.out.alloc (.cells #[.int .i64 x] 3)).2 with ⟨h1, _⟩ | ⟨g, cap, cur, h1, _, hgb, _⟩
      · rw [h1] at ej; simp [Value.ownBlock] at ej
      · rw [h1] at ej
        obtain rfl : g = j := by simpa [Value.ownBlock] using ej
        rw [hgb] at hj; cases hj; rfl
    · exact (((Below.refl w.heap.size W).alloc (by omega) _).grown hg1 (by simp; omega) (fun j ej => by have := hlo.out j ej; omega)).setCell (p := ⟨w.heap.size, 0, none⟩) (by simp) _
    · exact ((hB.alloc (by omega) _).grown hg1 (by simp; omega) (fun j ej => by have := hlo.out j ej; omega)).setCell (p := ⟨w.heap.size, 0, none⟩) (by simp) _
  case done =>
    rintro D xs W hD rfl ⟨⟨⟨v, hv, hr, _⟩, hW5⟩, hB⟩ hK
    have g1 := hv.cell
    obtain ⟨Av, cv, rfl⟩ := own_slice hr
    gi_wp2
    refine ⟨by simp, .inl ⟨_, _, rfl, run_takeDeferred hK, ?_⟩⟩
    refine ⟨.slice Av xs.length cv, ?_, _, rfl, ?_, hB.trans (belowK_b (w := w) (Nat.le_refl _) W D _ _ (by omega) hK rfl rfl)⟩
    · simp [results, Try.results45, go_sem]
    · unfold OwnI
      exact own_base (ownsRow_putObj hr _ hK rfl) (by omega)
  case stop =>
    rintro D cc pre W hD hpre hF hK
    exact hF.elim
theorem collectI_any (A : Option Addr) (Bv c : Nat) (L : List Int) (hlen : L.length ≤ 1000000) (w : World) (hv : w.cell? ⟨Bv, 0, none⟩ = some (.slice A L.length c)) (h : IntS w (Old w) (.slice A L.length c) L) :
    Calls Try.prog 33 #[.func (.func 35) #[] #[.pointer (some ⟨Bv, 0, none⟩)]] w (OutI w L) := by
  go_enter Try.func33, Try.ntmps33
  go_wp2_with fail
  refine (appendSeqI_any A Bv c L hlen w hv h).mono ?_
  rintro e w1 ⟨v, rfl, ho, hb⟩
  go_wp2
  go_ret
  exact ⟨v, rfl, ho, hb⟩
/-- slices.Sorted(slices.Values(l)): a row of the call's own, in order. -/
theorem sortedI_any (A : Option Addr) (Bv c : Nat) (L : List Int) (hlen : L.length ≤ 1000000) (w : World) (hv : w.cell? ⟨Bv, 0, none⟩ = some (.slice A L.length c)) (h : IntS w (Old w) (.slice A L.length c) L) :
    Calls Try.prog 17 #[.func (.func 35) #[] #[.pointer (some ⟨Bv, 0, none⟩)]] w (OutI w (L.mergeSort fun x y => decide (x ≤ y))) := by
  go_enter Try.func17, Try.ntmps17
  go_wp2_with fail
  refine (collectI_any A Bv c L hlen w hv h).mono ?_
  rintro e w1 ⟨v, rfl, ho, hb⟩
  obtain ⟨A1, c1, rfl⟩ := ho.form
  dsimp only
  go_wp2_with fail
  refine (sortI_any w.heap.size A1 c1 L w1 ho (by omega)).mono ?_
  rintro e w2 ⟨rfl, ho2, hb2⟩
  go_wp2
  go_ret
  have := ho2
  exact ⟨_, rfl, ho2, hb.trans hb2⟩
end Go.Proofs.Ytfhnamomiaekdaa

namespace Go.Proofs.Ytfhnamomiaekdaa
open Go.RowKit Go.Inq
set_option maxHeartbeats 4000000
attribute [local go_sem ↓] Go.wp_at_zero Go.wp_at_succ

set_option maxRecDepth 100000 in
theorem writersS_any (A : Option Addr) (c : Nat) (H : List Txn) (key : Int) (w : World) (h : TxnS w (Old w) (.slice A H.length c) H) (hn : SmallH H) :
    Calls Try.prog 20 #[.agg #[.slice A H.length c], .int .i64 key] w (OutI w (intsN (wrsL H key))) := by
  obtain ⟨ii, hii, hi1, hi2, hi3⟩ := info_parts infoI10
  obtain ⟨W0, hW0⟩ : ∃ W0, w.alloc (.cells #[.slice A H.length c] 24) = W0 := ⟨_, rfl⟩
  have hB := below_allocEq (Below.refl w.heap.size w) hW0 (Nat.le_refl _)
  have k0 := Blk.newEq hW0
  have h0 := hide (h.below hB)
  have hlen := hn.1
  have hwl := hide (fun i (hi : i < H.length) => (hn.2 _ (List.getElem_mem hi)).1)
  replace hn := hide hn
  replace h := hide h
  have c0 := k0.cell 0
  simp only [List.getElem?_toArray, List.getElem?_cons_zero, List.getElem?_cons_succ] at c0
  go_enter Try.func20, Try.ntmps20
  go_wp2_with fail
  clear hW0 c0 k0 h0
  have hb := hB
  clear hB
  go_loopw [5, 11] (fun s5 s11 wr => ∃ k : Nat, k ≤ H.length ∧ s11 = .int .i64 k ∧ OwnI wr w.heap.size s5 (intsN (wrsTo H key k)) ∧ Below w.heap.size w wr) (fun _ s11 _ => H.length - (intOf s11).toNat)
  case atStart => exact ⟨0, Nat.zero_le _, by go_num, OwnI.nil _ _, hb⟩
  case round =>
    clear hb
    obtain ⟨k, hk, rfl, hown, hb⟩ := hrel
    have hi1' : (0 : Int) ≤ (k : Int) := Int.natCast_nonneg _
    by_cases hlt : k < H.length
    · have hi2' : (k : Int) < (H.length : Int) := by omega
      obtain ⟨b, off, Aw, cw, Ar, cr, rfl, _, d0, d1, d2, hws, _⟩ := TxnS.at_ (h.out.below hb) hlt
      have hwk := hwl.out k hlt
      have hst := hide (wrsTo_step H key k)
      rw [txnAt_of hlt] at hst
      have hcnt : (wrsTo H key k).length ≤ k := Nat.le_trans (List.length_filter_le _ _) (by simp)
      have hszb := hb.size
      obtain ⟨Av, cv, rfl⟩ := hown.form
      generalize H[k] = t at *
      obtain ⟨ts, ws, rs⟩ := t
      dsimp only at *
      have hws2 := hide (hws.keep (w' := wr.alloc (.cells #[.int .i64 ts, .slice Aw ws.length cw, .slice Ar rs.length cr] 38)) (Agree.alloc (fun b hb => hb) _) (fun b h => h))
      have hb2 := hb.alloc hszb (.cells #[.int .i64 ts, .slice Aw ws.length cw, .slice Ar rs.length cr] 38)
      have hown2 := hown.alloc (.cells #[.int .i64 ts, .slice Aw ws.length cw, .slice Ar rs.length cr] 38)
      clear hws
      replace hown2 := hide hown2
      have hlq := hide (intsN_len (wrsTo H key k))
      have hsn := hide (intsN_snoc (wrsTo H key k) k)
      go_wp2_with fail
      clear d0 d1 d2
      refine (contains_int Aw cw ws key _ _ hws2.out (by unfold maxLen; omega)).mono ?_
      rintro e w3 ⟨rfl, rfl⟩
      have hsz2 := hb2.size
      cases hc : ws.contains key with
      | true =>
        have hst2 : Hid (wrsTo H key (k + 1) = wrsTo H key k ++ [k]) := hide (by rw [hst.out, hc]; rfl)
        clear hc hst
        generalize wr.alloc (.cells #[.int .i64 ts, .slice Aw ws.length cw, .slice Ar rs.length cr] 38) = Wx at *
        go_wp2_with (at_builtin; refine wpList_push (enc := Go.Inq.encI) rfl (.tmp 20) (.tmp 22) 25 rfl w.heap.size 3 ii _ 1 8 Try.underlying25 hii hi1 hi2 hi3 rfl (by decide) (.slice Av (intsN (wrsTo H key k)).length cv) (intsN (wrsTo H key k)) rfl hown2.out (fun _ => rfl) (k : Int) _ rfl rfl Go.Inq.encI_one (by rw [hlq.out]; simp [maxLen]; omega) (by rw [hlq.out]; omega) hsz2 w w.heap.size (Nat.le_refl _) hb2 ?_; intro v1 w6 hown1 hg1 hb1 hat1)
        go_roundw
        case rel => exact ⟨k + 1, by omega, by go_num, by unfold OwnI; rw [hst2.out, hsn.out]; exact hown1, hb1⟩
        case measure => simp [intOf]; omega
      | false =>
        have hst2 : Hid (wrsTo H key (k + 1) = wrsTo H key k) := hide (by rw [hst.out, hc]; simp)
        clear hc hst
        go_wp2
        go_roundw
        case rel => exact ⟨k + 1, by omega, by go_num, by unfold OwnI; rw [hst2.out]; exact hown2.out, hb2⟩
        case measure => simp [intOf]; omega
    · obtain rfl : k = H.length := by omega
      go_wp2
      go_ret
      exact ⟨_, rfl, hown, hb⟩
/-- A key, and who writes it, in memory. -/
def SRowR (w : World) (K : Nat → Prop) (cs : List Value) (r : SRow) : Prop := ∃ A c, cs = [.int .i64 r.key, .slice A r.l.length c] ∧ IntS w K (.slice A r.l.length c) r.l
theorem SRowR.stab : Stab SRowR := fun _ _ _ _ _ _ h ha hk => by
  obtain ⟨A, c, h1, h2⟩ := h
  exact ⟨A, c, h1, IntS.keep h2 ha hk⟩
def RowS (w : World) (K : Nat → Prop) (v : Value) (l : List SRow) : Prop := SlR 2 SRowR w K v l
section
variable {w w' : World} {K K' : Nat → Prop} {v : Value} {l : List SRow}
theorem RowS.keep (h : RowS w K v l) (ha : Agree K w w') (hk : ∀ b, K b → K' b) : RowS w' K' v l := SlR.keep SRowR.stab h ha hk
theorem RowS.below (h : RowS w (Old w) v l) (hb : Below w.heap.size w w') : RowS w' (Old w') v l := SlR.below SRowR.stab h hb
theorem RowS.fit (h : RowS w K v l) (hk : ∀ b, K b → K' b) : RowS w K' v l := SlR.fit SRowR.stab h hk
theorem RowS.nil (w : World) (K : Nat → Prop) (A : Option Addr) (c : Nat) : RowS w K (.slice A 0 c) [] := SlR.nil _ _ _ _ _ _
theorem RowS.cap {A : Option Addr} {n c : Nat} (h : RowS w K (.slice A n c) l) : l.length ≤ c := by
  obtain ⟨_, _, e, h1⟩ := SlR.len h
  simp only [Value.slice.injEq] at e
  omega
theorem RowS.at_ {A : Option Addr} {n c : Nat} (h : RowS w K (.slice A n c) l) {i : Nat} (hi : i < l.length) : ∃ b off Ay cy, A = some ⟨b, off, none⟩ ∧ K b ∧ w.cell? ⟨b, off + i * 2, none⟩ = some (.int .i64 l[i].key) ∧ w.cell? ⟨b, off + i * 2 + 1, none⟩ = some (.slice Ay l[i].l.length cy) ∧ IntS w K (.slice Ay l[i].l.length cy) l[i].l := by
  obtain ⟨b, off, cs, hA, hK, -, ⟨Ay, cy, rfl, hy⟩, hc⟩ := SlR.at_ h hi
  exact ⟨b, off, Ay, cy, hA, hK, hc 0 _ rfl, hc 1 _ rfl, hy⟩
end
/-- Sizes of rows that a walk can count. -/
def FitS (R : List SRow) : Prop := R.length ≤ 1000000 ∧ ∀ r ∈ R, r.l.length ≤ 1000000
end Go.Proofs.Ytfhnamomiaekdaa

namespace Go.Proofs.Ytfhnamomiaekdaa
open Go.RowKit Go.Inq
set_option maxHeartbeats 4000000
attribute [local go_sem ↓] Go.wp_at_zero Go.wp_at_succ

theorem cmp_any (x y : Int) (w : World) : Calls Try.prog 23 #[.int .i64 x, .int .i64 y] w fun e w' => e = .returned (.int .i64 (Lib.compareInt x y)) ∧ w' = w := Go.Proofs.Try.cmp_Compare_int x y w
theorem rows1_any (x y : Int) (Bo : Nat) (Ao : Option Addr) (co : Nat) (π : List Int) (K : Nat → Prop) (W : World) (hc : W.cell? ⟨Bo, 0, none⟩ = some (.slice Ao π.length co)) (hπ : IntS W K (.slice Ao π.length co) π) (hn : π.length ≤ 1000000) :
    Calls Try.prog 22 #[.int .i64 x, .int .i64 y, .pointer (some ⟨Bo, 0, none⟩)] W fun e w' => e = .returned (.int .i64 (Lib.compareInt (idxI π x) (idxI π y))) ∧ ∃ q, w' = W.drewN q := by
  have hca := hide (fun W' z (hq : IntS W' K (.slice Ao π.length co) π) => (index_int Ao co π z K W' hq (by unfold maxLen; omega)).mono fun _ _ h => (⟨h.1, h.2.symm⟩ : _ ∧ _))
  have hcc := hide (fun W' => cmp_any (idxI π x) (idxI π y) W')
  replace hπ := hide hπ
  go_enter Try.func22, Try.ntmps22
  go_wp2_with fail
  go_quiet ((first | (go_at_call 24; exact Calls.quiet_of_same (hca.out _ _ (hπ.out.keep (Agree.drewN _ _ _) (fun _ h => h)))) | (go_at_call 23; exact Calls.quiet_of_same (hcc.out _))))
  go_wp2
  go_ret
  exact ⟨rfl, _, rfl⟩
theorem permIn_all {d d' : Array Int} (h : Go.Sort.PermIn 0 d.size d d') : d'.toList.Perm d.toList := by
  obtain ⟨hs, _, hp⟩ := h
  rw [Array.extract_size, ← hs, Array.extract_size] at hp
  exact hp
theorem sortedIn_pw {lt : Int → Int → Bool} {d : Array Int} (h : Go.Sort.SortedIn lt 0 d.size d) : d.toList.Pairwise fun x y => lt y x = false := by
  rw [List.pairwise_iff_getElem]
  intro i j hi hj hij
  have hj' : j < d.size := by simpa using hj
  have hi' : i < d.size := by omega
  have := h i j (Nat.zero_le _) hij hj'
  rw [getElem!_pos d j hj', getElem!_pos d i hi'] at this
  exact this
theorem swo_idx (f : Int → Int) : Go.Sort.SWO (Go.Proofs.ltOf fun x y => Lib.compareInt (f x) (f y)) := by
  have hl : ∀ x y, Go.Proofs.ltOf (fun x y => Lib.compareInt (f x) (f y)) x y = decide (f x < f y) := fun x y => by
    unfold Go.Proofs.ltOf Lib.compareInt
    by_cases h1 : f x < f y
    · simp [h1]
    · by_cases h2 : f y < f x <;> simp [h1, h2]
  exact ⟨fun x => by rw [hl]; simp, fun x y z h1 h2 => by rw [hl] at *; simp at *; omega, fun x y z h1 h2 => by rw [hl] at *; simp at *; omega⟩
theorem swo_lt (f : Int → Int) (x y : Int) : Go.Proofs.ltOf (fun x y => Lib.compareInt (f x) (f y)) x y = decide (f x < f y) := by
  unfold Go.Proofs.ltOf Lib.compareInt
  by_cases h1 : f x < f y
  · simp [h1]
  · by_cases h2 : f y < f x <;> simp [h1, h2]
theorem sortF_any (base : Nat) (A : Option Addr) (c : Nat) (l : List Int) (Bo : Nat) (Ao : Option Addr) (co : Nat) (π : List Int) (w : World) (h : OwnI w base (.slice A l.length c) l) (hl : l.length < 4611686018427387904)
    (hBo : Bo < base) (hc : w.cell? ⟨Bo, 0, none⟩ = some (.slice Ao π.length co)) (hπ : IntS w (fun b => b < base) (.slice Ao π.length co) π) (hn : π.length ≤ 1000000) :
    Calls Try.prog 21 #[.slice A l.length c, .func (.func 22) #[] #[.pointer (some ⟨Bo, 0, none⟩)]] w fun e w' => e = .returned (.tuple #[]) ∧
      (∃ l', l'.Perm l ∧ l'.Pairwise (fun x y => idxI π x ≤ idxI π y) ∧ OwnI w' base (.slice A l.length c) l') ∧ Below base w w' := by
  unfold OwnI at h
  rw [flat_encI] at h
  by_cases hv : (Value.slice A l.length c) = .slice none 0 0
  · injection hv with h1 h2 h3
    subst h1 h3
    have : l = [] := List.eq_nil_of_length_eq_zero h2
    subst this
    refine (Go.Proofs.Try.slices_SortFunc_none (α := Int) none 0 _ w).mono ?_
    rintro e w' ⟨rfl, rfl⟩
    exact ⟨rfl, ⟨[], List.Perm.refl _, List.Pairwise.nil, World.ownsRow_nil _ _ _ _⟩, Below.refl _ _⟩
  · obtain ⟨g, cap, hv', hbg, hgl, hnn, hm, _, hH⟩ := Go.Lib.holds_of_ownsRow h hv
    injection hv' with h1 h2 h3
    subst h1 h3
    have hW : ∀ (n : Nat) (d' : Array Int) (os : Array Obj), Below base w (sortWorld (Value.int .i64) w g 0 n d' os) := fun n d' os => by
      unfold sortWorld
      have hb2 := Go.Lib.below_putRow (enc := Value.int .i64) (q := n) (d := d') (Below.refl base w) hbg
      exact hb2.trans ((below_grow _ os).mono (by have := hb2.size; exact Nat.le_trans (by omega) this))
    have hcmp : CmpLays1 Try.prog 22 #[.pointer (some ⟨Bo, 0, none⟩)] (Value.int .i64) (fun x y => Lib.compareInt (idxI π x) (idxI π y)) g 0 l.toArray.size w := fun m os dk _ x y => by
      have hb := hW m dk os
      refine (rows1_any x y Bo Ao co π (fun b => b < base) _ ((hb.cell (p := ⟨Bo, 0, none⟩) hBo).trans hc) (IntS.keep hπ (Agree.below hb fun b h => h) (fun b h => h)) hn).mono ?_
      rintro e w' ⟨he, q, hq⟩
      exact ⟨he, q, #[], by rw [hq, Go.Sort.grow_empty]⟩
    refine (Go.Proofs.Try.slices_SortFunc (Value.int .i64) (fun _ => rfl) (fun x y => Lib.compareInt (idxI π x) (idxI π y)) (swo_idx (idxI π)) 22 #[.pointer (some ⟨Bo, 0, none⟩)] g 0 c l.toArray w (enters_of Try.func22 (by kernel_rfl) rfl) hcmp hH hgl (by simpa using hl)).mono ?_
    rintro e w' ⟨rfl, d', n, os, hp, hs, rfl⟩
    have hp2 := permIn_all hp
    have hsz : d'.size = l.toArray.size := hp.1
    have hsz2 : d'.toList.length = l.length := by simpa using hsz
    have hs2 := sortedIn_pw (by rw [hsz]; exact hs)
    have hr := Go.Lib.ownsRow_putRow (q := n) (k := l.length) h hsz2 (Nat.le_refl _)
    rw [List.take_of_length_le (by rw [hsz2]; exact Nat.le_refl _)] at hr
    have hbw := hW n d' os
    refine ⟨rfl, ⟨d'.toList, by simpa using hp2, hs2.imp fun hlt => ?_, ?_⟩, hbw⟩
    · rw [swo_lt] at hlt
      have := of_decide_eq_false hlt
      omega
    · unfold OwnI
      rw [flat_encI, hsz2]
      have hz := (hr.lt g rfl).2
      unfold sortWorld
      have := own_below hr (below_grow _ os) (Nat.le_refl _)
      simpa using this
end Go.Proofs.Ytfhnamomiaekdaa

namespace Go.Proofs.Ytfhnamomiaekdaa
open Go.RowKit Go.Inq
set_option maxHeartbeats 4000000
attribute [local go_sem ↓] Go.wp_at_zero Go.wp_at_succ

theorem natI_intsN (l : List Nat) : natI l = intsN l := rfl
set_option maxRecDepth 100000 in
theorem rightS_any (A : Option Addr) (c : Nat) (H : List Txn) (Ar : Option Addr) (cr : Nat) (R : List SRow) (w : World) (h : TxnS w (Old w) (.slice A H.length c) H) (hn : SmallH H) (hR : RowS w (Old w) (.slice Ar R.length cr) R) (hf : FitS R) :
    Calls Try.prog 9 #[.agg #[.slice A H.length c], .slice Ar R.length cr] w fun e w' => e = .returned (.bool (rightS H R)) ∧ Below w.heap.size w w' := by
  obtain ⟨W0, hW0⟩ : ∃ W0, w.alloc (.cells #[.slice A H.length c] 24) = W0 := ⟨_, rfl⟩
  have hB := below_allocEq (Below.refl w.heap.size w) hW0 (Nat.le_refl _)
  have k0 := Blk.newEq hW0
  have h0 := hide (h.below hB)
  have hno := hide (rightS_no (H := H) (R := R))
  have hdone := hide (fun n (g : RtI H R 16 n) hr => g.done hr)
  have hRl := hf.1
  have hfl := hide (fun i (hi : i < R.length) => hf.2 _ (List.getElem_mem hi))
  replace hf := hide hf
  replace hn := hide hn
  replace h := hide h
  replace hR := hide hR
  have c0 := k0.cell 0
  simp only [List.getElem?_toArray, List.getElem?_cons_zero, List.getElem?_cons_succ] at c0
  go_enter Try.func9, Try.ntmps9
  go_wp2_with fail
  clear hW0 c0
  refine (right8_any A c H _ h0.out hn.out).mono ?_
  rintro e w1 ⟨rfl, hb1⟩
  replace k0 := k0.below hb1 k0.lt
  have hb := hB.trans (hb1.mono hB.size)
  clear hb1 hB h0
  cases hr : rightH H with
  | false =>
    have hx := hide (hno.out hr)
    clear hr hno hdone
    go_wp2
    go_ret
    exact ⟨ret_bool hx.out.symm, hb⟩
  | true =>
    replace hdone := hide (fun n g => hdone.out n g hr)
    replace hr := hide hr
    clear hno
    go_wp2_with fail
    go_loopw [5, 11] (fun s5 s11 wr => ∃ n k : Nat, k ≤ 16 ∧ s5 = .int .i64 n ∧ s11 = .int .i64 k ∧ Hid (RtI H R k n) ∧ n ≤ 16 ∧ Below w.heap.size w wr ∧ Blk wr w.heap.size 24 #[.slice A H.length c]) (fun _ s11 _ => 16 - (intOf s11).toNat)
    case atStart => exact ⟨0, 0, Nat.zero_le _, by go_num, by go_num, hide (RtI.start _ _), Nat.zero_le _, hb, k0⟩
    case round =>
      clear hb k0
      obtain ⟨n, k, hk, rfl, rfl, hrt, hn16, hb, k0⟩ := hrel
      have hi1 : (0 : Int) ≤ (k : Int) := Int.natCast_nonneg _
      have hi3 : (0 : Int) ≤ (n : Int) := Int.natCast_nonneg _
      have c0 := k0.cell 0
      simp only [List.getElem?_toArray, List.getElem?_cons_zero, List.getElem?_cons_succ] at c0
      by_cases hlt : k < 16
      · have hi2 : (k : Int) < 16 := by omega
        go_wp2_with fail
        clear c0
        refine (writersS_any A c H k _ (h.out.below hb) hn.out).mono ?_
        rintro e wl ⟨vl, rfl, hLO, hbl⟩
        have hskip := hide (fun e => hrt.out.skip (k := k) e)
        have hnext := hide (fun e => hrt.out.next (k := k) e)
        have hfew := hide (fun e => hrt.out.few (k := k) hlt e)
        have hkey := hide (fun e => hrt.out.key (k := k) hlt e)
        have hrow := hide (fun e => hrt.out.row (k := k) hlt e)
        have hLn := wrsL_len H k
        have h32 : H.length ≤ 1000000 := hn.out.1
        have hz0 := hide (intsN_len (wrsL H (k : Int)))
        have hWe := hide (fun (e : (intsN (wrsL H (k : Int))).length = 0) => (by rw [intsN_len] at e; exact List.eq_nil_of_length_eq_zero e : wrsL H (k : Int) = []))
        have hWn := hide (fun (e : (intsN (wrsL H (k : Int))).length ≠ 0) => (by rintro e'; rw [intsN_len, e'] at e; exact e rfl : wrsL H (k : Int) ≠ []))
        have hLl : (intsN (wrsL H (k : Int))).length ≤ 1000000 := by rw [intsN_len]; omega
        clear hLn
        replace h32 := hide h32
        generalize intsN (wrsL H (k : Int)) = L at *
        obtain ⟨Al, cl, rfl⟩ := hLO.form
        have hb2 := hb.trans (hbl.mono hb.size)
        replace k0 := k0.below hbl k0.lt
        have hLS := hLO.sl (K := Old wl) (fun g h1 h2 => h2)
        clear hLO hbl hb
        have c0 := k0.cell 0
        simp only [List.getElem?_toArray, List.getElem?_cons_zero, List.getElem?_cons_succ] at c0
        by_cases hL0 : L.length = 0
        · have hz1 : ((L.length : Int) == 0) = true := by rw [hL0]; rfl
          have hsk := hide (hskip.out (hWe.out hL0))
          clear hL0 hskip hnext hfew hkey hrow hz0 hWe hWn
          go_wp2
          go_roundw
          case rel => exact ⟨n, k + 1, by omega, by go_num, by go_num, hsk, hn16, hb2, k0⟩
          case measure => simp [intOf]; omega
        · have hz1 : ((L.length : Int) == 0) = false := by
            rw [beq_eq_false_iff_ne]; omega
          have hwn := hWn.out hL0
          replace hnext := hide (hnext.out hwn)
          replace hfew := hide (hfew.out hwn)
          replace hkey := hide (hkey.out hwn)
          replace hrow := hide (hrow.out hwn)
          have hle := hrt.out.le
          clear hL0 hwn hskip hz0 hWe hWn
          by_cases hnl : n = R.length
          · have hx := hide (hfew.out hnl)
            have hz2 : ((n : Int) == (R.length : Int)) = true := by rw [hnl]; exact beq_self_eq_true _
            clear hnl hle hfew hkey hrow hnext hrt
            go_wp2
            go_ret
            exact ⟨ret_bool hx.out.symm, hb2⟩
          · have hz2 : ((n : Int) == (R.length : Int)) = false := by rw [beq_eq_false_iff_ne]; omega
            have hlt2 : n < R.length := by omega
            have hi4 : (n : Int) < (R.length : Int) := by omega
            obtain ⟨br, or_, Ay, cy, rfl, _, d0, d1, hy⟩ := (hR.out.below hb2).at_ hlt2
            replace hnext := hide (hnext.out hlt2)
            replace hkey := hide (hkey.out hlt2)
            replace hrow := hide (hrow.out hlt2)
            have hyl := hfl.out n hlt2
            clear hnl hle hfew hrt
            generalize R[n] = row at *
            obtain ⟨rk, rl⟩ := row
            dsimp only at *
            by_cases hke : rk = (k : Int)
            · have hz3 : (rk != (k : Int)) = false := by rw [hke]; exact bne_self_eq_false _
              replace hnext := hide (hnext.out hke)
              clear hke hkey
              replace hy := hide hy
              go_wp2_with fail
              refine (valuesI_any Ay rl.length cy _).mono ?_
              rintro e w3 ⟨rfl, rfl⟩
              have hb3 := hb2.alloc hb2.size (.cells #[.slice Ay rl.length cy] 25)
              have k3 := k0.alloc (.cells #[.slice Ay rl.length cy] 25)
              have kv : Blk (wl.alloc (.cells #[.slice Ay rl.length cy] 25)) wl.heap.size 25 #[.slice Ay rl.length cy] := Blk.new _ _ _
              have hy3 := hide (hy.out.below ((Below.refl wl.heap.size wl).alloc (Nat.le_refl _) (.cells #[.slice Ay rl.length cy] 25)))
              have hL3 := hide (hLS.below ((Below.refl wl.heap.size wl).alloc (Nat.le_refl _) (.cells #[.slice Ay rl.length cy] 25)))
              generalize wl.alloc (.cells #[.slice Ay rl.length cy] 25) = w3 at *
              clear d0 d1 c0 hy hb2 k0 hLS
              have cv := kv.cell 0
              simp only [List.getElem?_toArray, List.getElem?_cons_zero] at cv
              go_wp2_with fail
              refine (sortedI_any Ay wl.heap.size cy rl hyl w3 cv hy3.out).mono ?_
              rintro e w4 ⟨v4, rfl, ho4, hb4⟩
              have hsl : (rl.mergeSort fun x y => decide (x ≤ y)).length = rl.length := List.length_mergeSort rl
              have hrw := hide (show sortI rl = (rl.mergeSort fun x y => decide (x ≤ y)) from rfl)
              rw [hrw.out] at hnext hrow
              generalize (rl.mergeSort fun x y => decide (x ≤ y)) = Q at *
              obtain ⟨A4, c4, rfl⟩ := ho4.form
              have hS4 := ho4.sl (K := Old w4) (fun g h1 h2 => h2)
              have hL4 := hL3.out.below hb4
              have hQl : Q.length ≤ 1000000000 := by omega
              have hb5 := hb3.trans (hb4.mono hb3.size)
              have k5 := k3.below hb4 k3.lt
              clear cv kv k3 hb3 hb4 ho4 hL3 hy3 hrw
              replace hsl := hide hsl
              go_wp2_with fail
              refine (equal_int Al A4 cl c4 L Q _ _ w4 hL4 hS4 (by omega) hQl).mono ?_
              rintro e w6 ⟨rfl, hb6⟩
              have hb7 := hb5.trans (hb6.mono hb5.size)
              have k7 := k5.below hb6 k5.lt
              by_cases hE : L = Q
              · have hz5 : decide (L = Q) = true := decide_eq_true hE
                rw [hz5]
                have hrt2 := hide (hnext.out hE.symm)
                clear hz5 hE hnext hrow hL4 hS4 hb5 hb6 k5
                go_wp2
                go_roundw
                case rel => exact ⟨n + 1, k + 1, by omega, by go_num, by go_num, hrt2, by have := hrt2.out.n16; omega, hb7, k7⟩
                case measure => simp [intOf]; omega
              · have hz5 : decide (L = Q) = false := decide_eq_false hE
                rw [hz5]
                have hx := hide (hrow.out fun e => hE e.symm)
                clear hz5 hE hnext hrow hL4 hS4 hb5 hb6 k5
                go_wp2
                go_ret
                exact ⟨ret_bool hx.out.symm, hb7⟩
            · have hz3 : (rk != (k : Int)) = true := bne_iff_ne.2 hke
              have hx := hide (hkey.out hke)
              clear hke hkey hnext hrow
              go_wp2
              go_ret
              exact ⟨ret_bool hx.out.symm, hb2⟩
      · obtain rfl : k = 16 := by omega
        have hx := hide (hdone.out n hrt.out)
        have hq : ((n : Int) == (R.length : Int)) = decide (n = R.length) := by
          by_cases e : n = R.length
          · rw [e]; simp
          · rw [decide_eq_false e, beq_eq_false_iff_ne]; omega
        clear hlt
        go_wp2
        go_ret
        exact ⟨ret_bool hx.out.symm, hb⟩
end Go.Proofs.Ytfhnamomiaekdaa

namespace Go.Inq
open Go Go.RowKit

/-- Blocks of some types from base on. -/
def TyK (base : Nat) (τs : List TypeId) (w : World) : Nat → Prop := fun b => base ≤ b ∧ ∃ t, t ∈ τs ∧ ∃ cs, Blk w b t cs
section
variable {base : Nat} {τs : List TypeId} {w w' w1 w2 : World}
theorem TyK.lt {b : Nat} (h : TyK base τs w b) : b < w.heap.size := by
  obtain ⟨_, t, _, cs, h⟩ := h
  exact h.lt
theorem TyK.ge {b : Nat} (h : TyK base τs w b) : base ≤ b := h.1
theorem TyK.step (ha : Agree (TyK base τs w) w w') {b : Nat} (h : TyK base τs w b) : TyK base τs w' b := by
  obtain ⟨h1, t, h2, cs, h3⟩ := h
  exact ⟨h1, t, h2, cs, (ha b ⟨h1, t, h2, cs, h3⟩).trans h3⟩
theorem TyK.trans (ha : Agree (TyK base τs w) w w1) (hb : Agree (TyK base τs w1) w1 w2) : Agree (TyK base τs w) w w2 := fun b h => (hb b (TyK.step ha h)).trans (ha b h)
theorem TyK.below {B : Nat} (hb : Below B w w') (hB : w.heap.size ≤ B) : Agree (TyK base τs w) w w' := Agree.below hb fun _ h => Nat.lt_of_lt_of_le h.lt hB
theorem TyK.alloc (o : Obj) : Agree (TyK base τs w) w (w.alloc o) := Agree.alloc (fun _ h => h.lt) o
theorem TyK.off {g : Nat} {t : TypeId} {cs : Array Value} (hk : Blk w g t cs) (ht : t ∉ τs) : ¬ TyK base τs w g := fun h => by
  obtain ⟨_, t', h1, cs', h2⟩ := h
  have := hk.symm.trans h2
  simp at this
  exact ht (this.2 ▸ h1)
theorem TyK.set_ {g i : Nat} {t : TypeId} {cs : Array Value} (hk : Blk w g t cs) (ht : t ∉ τs) (u : Value) : Agree (TyK base τs w) w (w.setCell ⟨g, i, none⟩ u) :=
  Agree.setCell ⟨g, i, none⟩ (TyK.off hk ht) u
theorem TyK.drew : Agree (TyK base τs w) w w.drew := Agree.drew _ _
end
section
variable {α : Type} {size : Nat} {R : World → (Nat → Prop) → List Value → α → Prop} {w w' : World} {K K' : Nat → Prop} {base : Nat} {e : TypeId} {v : Value} {l : List α} {τs : List TypeId}
theorem own_blk {n : Nat} {xs : List Value} (h : w.ownsRow base e size v n xs) {g : Nat} (hg : v.ownBlock = some g) : ∃ cs, Blk w g e cs := by
  rcases h.2 with ⟨h2, _⟩ | ⟨g', cap, cur, h2, _, hh, _⟩
  · rw [h2] at hg; simp [Value.ownBlock] at hg
  · rw [h2] at hg
    simp [Value.ownBlock] at hg
    subst hg
    exact ⟨cur, hh⟩
theorem OwnR.blk (h : OwnR size R w K base e v l) {g : Nat} (hg : v.ownBlock = some g) : ∃ cs, Blk w g e cs := by
  obtain ⟨ys, h1, _⟩ := h
  exact own_blk h1 hg
theorem OwnR.ne (h : OwnR size R w K base e v l) {g : Nat} {t : TypeId} {cs : Array Value} (hk : Blk w g t cs) (ht : t ≠ e) : v.ownBlock ≠ some g := fun hg => by
  obtain ⟨cs', h4⟩ := h.blk hg
  have := hk.symm.trans h4
  simp at this
  exact ht this.2
/-- What holds the same below, and in blocks of those types, keeps it. -/
theorem OwnR.keepT (hR : Stab R) (h : OwnR size R w (TyK base τs w) base e v l) (ha : Agree (TyK base τs w) w w') (hr : ∀ g, v.ownBlock = some g → w'.heap[g]? = w.heap[g]?) : OwnR size R w' (TyK base τs w') base e v l :=
  OwnR.keep hR h ha (fun _ g => TyK.step ha g) hr
theorem OwnR.belowT (hR : Stab R) {B : Nat} (h : OwnR size R w (TyK base τs w) base e v l) (hb : Below B w w') (hB : w.heap.size ≤ B) : OwnR size R w' (TyK base τs w') base e v l :=
  h.keepT hR (TyK.below hb hB) fun g hg => hb.block g (Nat.lt_of_lt_of_le (h.lt g hg).2 hB)
theorem OwnR.allocT (hR : Stab R) (h : OwnR size R w (TyK base τs w) base e v l) (o : Obj) : OwnR size R (w.alloc o) (TyK base τs (w.alloc o)) base e v l := h.belowT hR ((Below.refl _ _).alloc (Nat.le_refl _) o) (Nat.le_refl _)
theorem OwnR.drewT (hR : Stab R) (h : OwnR size R w (TyK base τs w) base e v l) : OwnR size R w.drew (TyK base τs w.drew) base e v l := h.keepT hR TyK.drew fun _ _ => rfl
theorem OwnR.setT (hR : Stab R) (h : OwnR size R w (TyK base τs w) base e v l) {g i : Nat} {t : TypeId} {cs : Array Value} (hk : Blk w g t cs) (h1 : t ∉ τs) (h2 : t ≠ e) (u : Value) : OwnR size R (w.setCell ⟨g, i, none⟩ u) (TyK base τs (w.setCell ⟨g, i, none⟩ u)) base e v l :=
  h.keepT hR (TyK.set_ hk h1 u) fun k hk2 => Below.heap_setCell w ⟨g, i, none⟩ u k (fun e' => h.ne hk h2 (by rw [hk2]; exact congrArg some e'))
/-- A row of the call's own, read over all that is there. -/
theorem OwnR.slOld (hR : Stab R) (h : OwnR size R w (TyK base τs w) base e v l) : SlR size R w (Old w) v l := by
  have h2 : OwnR size R w (Old w) base e v l := OwnR.keep hR h (Agree.refl _ _) (fun _ g => g.lt) fun _ _ => rfl
  exact h2.sl fun g hg => (h.lt g hg).2
theorem own_baseT {base' n : Nat} {xs : List Value} (h : w.ownsRow base e size v n xs) (hb : base' ≤ base) : w.ownsRow base' e size v n xs := by
  refine ⟨h.1, ?_⟩
  rcases h.2 with h2 | ⟨g, cap, cur, hv, hg, r⟩
  · exact .inl h2
  · exact .inr ⟨g, cap, cur, hv, by omega, r⟩
theorem OwnR.baseT (hR : Stab R) {base' : Nat} (h : OwnR size R w (TyK base τs w) base e v l) (hb : base' ≤ base) : OwnR size R w (TyK base' τs w) base' e v l := by
  obtain ⟨ys, h1, h2, h3⟩ := h
  exact ⟨ys, own_baseT h1 hb, h2, fun i cs x e1 e2 => ⟨(h3 i cs x e1 e2).1, hR _ _ _ _ _ _ (h3 i cs x e1 e2).2 (Agree.refl _ _) fun b g => ⟨Nat.le_trans hb g.1, g.2⟩⟩⟩
/-- Read over what is new. -/
theorem OwnR.slNew (hR : Stab R) (h : OwnR size R w (TyK base τs w) base e v l) : SlR size R w (fun b => base ≤ b ∧ b < w.heap.size) v l := by
  have h2 : OwnR size R w (fun b => base ≤ b ∧ b < w.heap.size) base e v l := OwnR.keep hR h (Agree.refl _ _) (fun _ g => ⟨g.1, g.lt⟩) fun _ _ => rfl
  exact h2.sl fun g hg => h.lt g hg
/-- Read over the types' blocks, and its own. -/
theorem OwnR.slT (hR : Stab R) (h : OwnR size R w (TyK base τs w) base e v l) : SlR size R w (TyK base (e :: τs) w) v l := by
  have h2 : OwnR size R w (TyK base (e :: τs) w) base e v l := OwnR.keep hR h (Agree.refl _ _) (fun _ g => by
    obtain ⟨g1, t, g2, g3⟩ := g
    exact ⟨g1, t, List.mem_cons_of_mem _ g2, g3⟩) fun _ _ => rfl
  refine h2.sl fun g hg => ?_
  obtain ⟨cs, h3⟩ := h.blk hg
  exact ⟨(h.lt g hg).1, e, List.mem_cons_self, cs, h3⟩
end
/-- A row of elements told by their cells alone, of the call's own, over its blocks. -/
theorem own_slT {α : Type} {size : Nat} {enc : α → List Value} {w : World} {base : Nat} {e : TypeId} {v : Value} {l : List α} {τs : List TypeId} (h : w.ownsRow base e size v l.length (l.map enc).flatten) (hs : ∀ x, (enc x).length = size) (he : e ∈ τs) : SlR size (Flat enc) w (TyK base τs w) v l := by
  have h2 : OwnR size (Flat enc) w (TyK base τs w) base e v l := OwnR.flat h hs
  refine h2.sl fun g hg => ?_
  obtain ⟨cs, h3⟩ := h2.blk hg
  exact ⟨(h2.lt g hg).1, e, he, cs, h3⟩
/-- append(s, x): s a row of the call's own, x one element just built, which leads to blocks of the call's own. -/
theorem wpList_pushR {P : Program} {W : World} {ops : Array Oper} {rest : List Oper} {o : Oper} {a : Act} {Q : Exit → Act → World → Prop} {α : Type} {R : World → (Nat → Prop) → List Value → α → Prop}
    (hR : Stab R) (hone : ∀ w K cs x, R w K cs x → ∀ u ∈ cs, u.oneCell' = true)
    (hgd : o.guard = none) (s x : Operand) (t : TypeId) (ho : o.op = .call { callee := .builtin .append, args := #[s, x], argTypes := #[t, t] })
    (base : Nat) (e : TypeId) (i : TypeInfo) (z : Value) (size bytes : Nat) (ht : P.underlying t = some (.slice e)) (hi : P.info? e = some i) (hz : i.zero = some z)
    (hsize : i.size = size) (hby : i.bytes = bytes) (hzs : z.cells.size = size) (hsz : 0 < size)
    (τs : List TypeId) (hτ : e ∉ τs) (v : Value) (l : List α) (hs : a.eval s = v) (hown : OwnR size R W (TyK base τs W) base e v l)
    (cs : Array Value) (x0 : α) (hcs : cs.size = size) (hrow : R W (TyK base τs W) cs.toList x0)
    (hx : a.eval x = .slice (some ⟨W.heap.size, 0, none⟩) 1 1) (h63 : l.length + 1 ≤ maxLen) (hbytes : (l.length + 1) * bytes ≤ 140737488355328) (hbase : base ≤ W.heap.size) (w0 : World) (B : Nat) (hB : B ≤ base) (hb : Below B w0 W)
    (h : ∀ v' w', OwnR size R w' (TyK base τs w') base e v' (l ++ [x0]) → Agree (TyK base τs W) W w' → Below B w0 w' → (∀ g, v'.ownBlock = some g → v.ownBlock = some g ∨ W.heap.size ≤ g) → (∀ g t cs, Blk W g t cs → t ≠ e → Blk w' g t cs) → wpList P ops Q rest (a.put o.dst v') w') :
    wpList P ops Q (o :: rest) a (W.alloc (.cells cs e)) := by
  have hown0 := hown
  obtain ⟨ys, h1, h2, h3⟩ := hown
  have hq : ∀ y ∈ ys, y.length = size ∧ ∀ u ∈ y, u.oneCell' = true := fun y hy => by
    obtain ⟨j, hj, rfl⟩ := List.getElem_of_mem hy
    obtain ⟨g1, g2⟩ := h3 j ys[j] (l[j]'(by omega)) (List.getElem?_eq_getElem hj) (List.getElem?_eq_getElem (by omega))
    exact ⟨g1, hone _ _ _ _ g2⟩
  let enc : { y : List Value // y.length = size ∧ ∀ u ∈ y, u.oneCell' = true } → List Value := fun y => y.1
  let ts : List { y : List Value // y.length = size ∧ ∀ u ∈ y, u.oneCell' = true } := ys.pmap Subtype.mk hq
  have hts : ts.map enc = ys := by
    show (ys.pmap Subtype.mk hq).map (fun y => y.1) = ys
    rw [List.map_pmap, List.pmap_eq_map, List.map_id']
  have htl : ts.length = l.length := by rw [← h2, ← hts, List.length_map]
  have hlt := h1.lt
  have hc0 : cs.toList.length = size ∧ ∀ u ∈ cs.toList, u.oneCell' = true := ⟨by simpa using hcs, hone _ _ _ _ hrow⟩
  have hA0 : Agree (TyK base τs W) W (W.alloc (.cells cs e)) := TyK.alloc _
  have hblk : ∀ b, TyK base τs W b → v.ownBlock ≠ some b := fun b hb e' => by
    obtain ⟨cs', g2⟩ := own_blk h1 e'
    exact TyK.off g2 hτ hb
  refine wpList_push (enc := enc) hgd s x t ho base e i z size bytes ht hi hz hsize hby hzs hsz v ts hs (by rw [htl, hts]; exact h1) (fun y => y.2.1) ⟨cs.toList, hc0⟩ cs rfl hx (fun y => y.2.2) (by omega) (by rw [htl]; exact hbytes) hbase w0 B hB hb ?_
  intro v' w' g1 g2 g3 g4
  have hA1 : Agree (TyK base τs W) W w' := hA0.trans (Agree.grown g2 fun b hb => ⟨by have := hb.lt; simp; omega, fun e' => hblk b hb e'.symm⟩)
  rw [List.map_append, hts, List.length_append, htl] at g1
  refine h v' w' ⟨ys ++ [cs.toList], by rw [List.length_append]; exact g1, by simp [h2], fun j y x' e1 e2 => ?_⟩ hA1 g3 ?_ (fun g t cs hk ht => (hk.alloc _).grown g2 fun e' => ?_)
  · by_cases hj : j < ys.length
    · rw [List.getElem?_append_left hj] at e1
      rw [List.getElem?_append_left (by omega)] at e2
      obtain ⟨q1, q2⟩ := h3 j y x' e1 e2
      exact ⟨q1, hR _ _ _ _ _ _ q2 hA1 fun _ g => TyK.step hA1 g⟩
    · rw [List.getElem?_append_right (by omega)] at e1 e2
      have hj0 : j - ys.length = 0 := by
        rcases Nat.eq_zero_or_pos (j - ys.length) with e' | e'
        · exact e'
        · rw [List.getElem?_eq_none (by simp; omega)] at e1; cases e1
      rw [hj0] at e1
      rw [show j - l.length = 0 by omega] at e2
      simp at e1 e2
      subst e1 e2
      exact ⟨hc0.1, hR _ _ _ _ _ _ hrow hA1 fun _ g => TyK.step hA1 g⟩
  · intro g hg
    rcases g4 with e' | e'
    · exact .inl (e' ▸ hg)
    · right
      rw [e'] at hg
      injection hg with hg
      omega
  · obtain ⟨cs', h4⟩ := own_blk h1 e'.symm
    have := hk.symm.trans h4
    simp at this
    exact ht this.2
end Go.Inq

namespace Go.Proofs.Ytfhnamomiaekdaa
open Go.RowKit Go.Inq
set_option maxHeartbeats 4000000
attribute [local go_sem ↓] Go.wp_at_zero Go.wp_at_succ

theorem SRowR.one : ∀ (w : World) (K : Nat → Prop) (cs : List Value) (x : SRow), SRowR w K cs x → ∀ u ∈ cs, u.oneCell' = true := by
  rintro w K cs x ⟨A, c, rfl, _⟩ u hu
  simp at hu
  rcases hu with rfl | rfl <;> rfl
theorem infoS21 : (Try.prog.info? 55).map (fun i => (i.zero, i.size, i.bytes)) = some (some (.agg #[.int .i64 0, .slice none 0 0]), 2, 32) := by kernel_rfl
/-- Rows of the call's own. -/
def OwnS (w : World) (base : Nat) (v : Value) (l : List SRow) : Prop := OwnR 2 SRowR w (TyK base [3] w) base 55 v l
def OutS (w : World) (l : List SRow) (e : Ending) (w' : World) : Prop := ∃ v, e = .returned v ∧ OwnS w' w.heap.size v l ∧ Below w.heap.size w w'
theorem OwnS.nil (w : World) (base : Nat) : OwnS w base (.slice none 0 0) [] := OwnR.nil _ _ _ _ _ _
theorem OwnS.form {w : World} {base : Nat} {v : Value} {l : List SRow} (h : OwnS w base v l) : ∃ A c, v = .slice A l.length c := OwnR.form h
theorem OwnS.old {w : World} {base : Nat} {v : Value} {l : List SRow} (h : OwnS w base v l) : RowS w (Old w) v l := OwnR.slOld SRowR.stab h
theorem OwnS.below {w w' : World} {base B : Nat} {v : Value} {l : List SRow} (h : OwnS w base v l) (hb : Below B w w') (hB : w.heap.size ≤ B) : OwnS w' base v l := OwnR.belowT SRowR.stab h hb hB
set_option maxRecDepth 100000 in
theorem rowsS_any (A : Option Addr) (c : Nat) (H : List Txn) (Ap : Option Addr) (cp : Nat) (π : List Int) (w : World) (h : TxnS w (Old w) (.slice A H.length c) H) (hn : SmallH H) (hπ : IntS w (Old w) (.slice Ap π.length cp) π) (hpl : π.length ≤ 1000000) :
    Calls Try.prog 7 #[.agg #[.slice A H.length c], .slice Ap π.length cp] w (OutS w (rowsL H π)) := by
  obtain ⟨is, his, hq1, hq2, hq3⟩ := info_parts infoS21
  obtain ⟨W0, hW0⟩ : ∃ W0, (w.alloc (.cells #[.slice A H.length c] 24)).alloc (.cells #[.slice Ap π.length cp] 25) = W0 := ⟨_, rfl⟩
  have hB : Below w.heap.size w W0 := by rw [← hW0]; exact ((Below.refl _ w).alloc (Nat.le_refl _) _).alloc (by simp) _
  have k0 : Blk W0 w.heap.size 24 #[.slice A H.length c] := by rw [← hW0]; exact (Blk.new _ _ _).alloc _
  have kO : Blk W0 (w.heap.size + 1) 25 #[.slice Ap π.length cp] := by
    rw [← hW0]
    have := Blk.new (w.alloc (.cells #[.slice A H.length c] 24)) 25 #[.slice Ap π.length cp]
    simpa using this
  have hs0 : W0.heap.size = w.heap.size + 2 := by rw [← hW0]; simp
  have hπ0 := hide (hπ.below hB)
  have hbad := hide (fun e => rowsL_no (H := H) (π := π) e)
  have hpl2 := hide (fun (e : π.length ≠ H.length) => permB_len e)
  have hps := hide (fun (e : π.length = H.length) => permB_sort (π := π) e)
  have hall := hide (fun (e1 : rightH H = true) (e2 : permB π H.length = true) => rowsTo_all e1 e2)
  have hrs := hide (fun (e2 : permB π H.length = true) (k : Int) (l : List Int) => rowS_sorted (H := H) (l := l) (k := k) e2)
  replace hπ := hide hπ
  replace hn := hide hn
  replace h := hide h
  replace hs0 := hide hs0
  have c0 := kO.cell 0
  simp only [List.getElem?_toArray, List.getElem?_cons_zero, List.getElem?_cons_succ] at c0
  go_enter Try.func7, Try.ntmps7
  go_wp2_with fail
  refine (valuesI_any Ap π.length cp _).mono ?_
  rintro e w3 ⟨rfl, rfl⟩
  obtain ⟨W1, hW1⟩ : ∃ W1, W0.alloc (.cells #[.slice Ap π.length cp] 25) = W1 := ⟨_, rfl⟩
  have hB1 := below_allocEq (Below.refl W0.heap.size W0) hW1 (Nat.le_refl _)
  have kv := Blk.newEq hW1
  have k1 := k0.allocEq hW1
  have kO1 := kO.allocEq hW1
  have hπ1 := hπ0.out.below hB1
  have hb := hB.trans (hB1.mono hB.size)
  have cv := kv.cell 0
  simp only [List.getElem?_toArray, List.getElem?_cons_zero] at cv
  rw [hs0.out] at cv
  rw [hW1]
  clear hW1 hW0 c0 kv k0 kO hB hB1 hπ0
  simp only [hs0.out]
  go_wp2_with fail
  refine (sortedI_any Ap (w.heap.size + 2) cp π hpl W1 cv hπ1).mono ?_
  rintro e w4 ⟨v4, rfl, ho4, hb4⟩
  have hsl : (π.mergeSort fun x y => decide (x ≤ y)).length = π.length := List.length_mergeSort π
  have hrw := hide (show sortI π = (π.mergeSort fun x y => decide (x ≤ y)) from rfl)
  rw [hrw.out] at hps
  generalize (π.mergeSort fun x y => decide (x ≤ y)) = Q at *
  obtain ⟨A4, c4, rfl⟩ := ho4.form
  have hQ := hide (ho4.sl (K := Old w4) (fun g h1 h2 => h2))
  have hb5 := hb.trans (hb4.mono hb.size)
  have k5 := k1.below hb4 k1.lt
  have kO5 := kO1.below hb4 kO1.lt
  have hT5 := hide (h.out.below hb5)
  have c0 := k5.cell 0
  simp only [List.getElem?_toArray, List.getElem?_cons_zero] at c0
  replace hsl := hide hsl
  clear cv k1 kO1 hb hb4 ho4 hπ1 hrw hs0
  go_wp2_with fail
  clear c0
  refine (right8_any A c H _ hT5.out hn.out).mono ?_
  rintro e w6 ⟨rfl, hb6⟩
  have hb7 := hb5.trans (hb6.mono hb5.size)
  have k7 := k5.below hb6 k5.lt
  have kO7 := kO5.below hb6 kO5.lt
  have hQ7 := hide (hQ.out.below hb6)
  clear hb5 hb6 k5 kO5 hQ hT5
  cases hr : rightH H with
  | false =>
    have hx := hide (hbad.out (.inl hr))
    clear hr hbad hpl2 hps hall hrs
    go_wp2
    go_ret
    exact ⟨_, rfl, by rw [hx.out]; exact OwnS.nil _ _, hb7⟩
  | true =>
    replace hall := hide (hall.out hr)
    have hr' := hide hr
    clear hr
    have c0 := k7.cell 0
    have cO := kO7.cell 0
    simp only [List.getElem?_toArray, List.getElem?_cons_zero] at c0 cO
    by_cases hlen : π.length = H.length
    · have hz1 : ((π.length : Int) != (H.length : Int)) = false := by rw [hlen]; exact bne_self_eq_false _
      have hsl2 : Q.length = H.length := hsl.out.trans hlen
      replace hps := hide (hps.out hlen)
      have hsa := hide (fun k (hk : k < Q.length) (e : Q = natI (List.range H.length)) => sort_at e hk)
      have hse := hide (fun (e : ∀ k (hk : k < Q.length), Q[k] = (k : Int)) => (by have := sort_all e; rw [hsl2] at this; exact this : Q = natI (List.range H.length)))
      have hQ32 : Q.length ≤ 1000000000 := by have := hsl.out; omega
      clear hpl2 hsl
      replace hlen := hide hlen
      replace hsl2 := hide hsl2
      have hpl3 : π.length = Q.length := by rw [hlen.out, hsl2.out]
      replace hpl3 := hide hpl3
      go_wp2_with fail
      clear c0 cO
      go_loopw [27] (fun s27 wr => ∃ k : Nat, k ≤ Q.length ∧ s27 = .int .i64 k ∧ Hid (∀ j (hj : j < Q.length), j < k → Q[j] = (j : Int)) ∧ Below w.heap.size w wr ∧ Blk wr w.heap.size 24 #[.slice A H.length c] ∧ Blk wr (w.heap.size + 1) 25 #[.slice Ap π.length cp] ∧ IntS wr (Old wr) (.slice A4 Q.length c4) Q) (fun s27 _ => Q.length - (intOf s27).toNat)
      case atStart => exact ⟨0, Nat.zero_le _, by go_num, hide (fun j hj h => absurd h (by omega)), hb7, k7, kO7, hQ7.out⟩
      case round =>
        clear hb7 k7 kO7 hQ7
        obtain ⟨k, hk, rfl, hj, hb, k7, kO7, hQ⟩ := hrel
        have hk1 : (0 : Int) ≤ (k : Int) := Int.natCast_nonneg _
        by_cases hlt : k < Q.length
        · have hi2 : (k : Int) < (Q.length : Int) := by omega
          obtain ⟨b, off, rfl, _, d0⟩ := hQ.at_ hlt
          have hne := hide (hsa.out k hlt)
          have hst := hide (fun (e : Q[k] = (k : Int)) j (hj2 : j < Q.length) (hjk : j < k + 1) => (by
            by_cases g : j = k
            · subst g; exact e
            · exact hj.out j hj2 (by omega) : Q[j] = (j : Int)))
          replace hQ := hide hQ
          generalize Q[k] = q at *
          by_cases hq : q = (k : Int)
          · have hz2 : ((k : Int) != q) = false := by rw [hq]; exact bne_self_eq_false _
            have hj2 := hide (hst.out hq)
            clear hq hst hne hj
            go_wp2
            go_roundw
            case rel => exact ⟨k + 1, by omega, by go_num, hj2, hb, k7, kO7, hQ.out⟩
            case measure => simp [intOf]; omega
          · have hz2 : ((k : Int) != q) = true := bne_iff_ne.2 (fun e => hq e.symm)
            have hx := hide (hbad.out (.inr (by rw [hps.out]; exact decide_eq_false fun e => hq (hne.out e))))
            clear hq hst hne hj
            go_wp2
            go_ret
            exact ⟨_, rfl, by rw [hx.out]; exact OwnS.nil _ _, hb⟩
        · obtain rfl : k = Q.length := by omega
          have hp : permB π H.length = true := by rw [hps.out]; exact decide_eq_true (hse.out fun j hj2 => hj.out j hj2 hj2)
          have hax := hide (hall.out hp)
          replace hrs := hide (hrs.out hp)
          have hR0 : Hid (rowsTo H π 0 = []) := hide rfl
          have hrl := hide (rowsTo_len H π)
          clear hp hj hps hsa hse hbad hall hQ
          go_wp2_with fail
          go_loopw [8, 36] (fun s8 s36 wr => ∃ k : Nat, k ≤ 16 ∧ s36 = .int .i64 k ∧ OwnS wr w.heap.size s8 (rowsTo H π k) ∧ Below w.heap.size w wr ∧ Blk wr w.heap.size 24 #[.slice A H.length c] ∧ Blk wr (w.heap.size + 1) 25 #[.slice Ap π.length cp] ∧ w.heap.size + 2 ≤ wr.heap.size) (fun _ s36 _ => 16 - (intOf s36).toNat)
          case atStart => exact ⟨0, Nat.zero_le _, by go_num, by rw [hR0.out]; exact OwnS.nil _ _, hb, k7, kO7, kO7.lt⟩
          case round =>
            clear hb k7 kO7
            obtain ⟨Wo, rfl⟩ : ∃ Wo, Wo = wr := ⟨_, rfl⟩
            obtain ⟨k, hk, rfl, hown, hb, k7, kO7, hsz⟩ := hrel
            have hk1 : (0 : Int) ≤ (k : Int) := Int.natCast_nonneg _
            have c0 := k7.cell 0
            simp only [List.getElem?_toArray, List.getElem?_cons_zero] at c0
            obtain ⟨Av, cv, rfl⟩ := hown.form
            by_cases hlt : k < 16
            · have hi2 : (k : Int) < 16 := by omega
              go_wp2_with fail
              clear c0
              refine (writersS_any A c H k _ (h.out.below hb) hn.out).mono ?_
              rintro e wl ⟨vl, rfl, hLO, hbl⟩
              have hskip := hide (fun e => rowsTo_skip (H := H) (π := π) (k := k) e)
              have hnext := hide (fun e => rowsTo_next (H := H) (π := π) (k := k) e)
              have hrow := hide (fun l => hrs.out (k : Int) l)
              have hLn := wrsL_len H k
              have h32 : H.length ≤ 1000000 := hn.out.1
              have hWe := hide (fun (e : (intsN (wrsL H (k : Int))).length = 0) => (by rw [intsN_len] at e; exact List.eq_nil_of_length_eq_zero e : wrsL H (k : Int) = []))
              have hWn := hide (fun (e : (intsN (wrsL H (k : Int))).length ≠ 0) => (by rintro e'; rw [intsN_len, e'] at e; exact e rfl : wrsL H (k : Int) ≠ []))
              have hLl : (intsN (wrsL H (k : Int))).length ≤ 1000000 := by rw [intsN_len]; omega
              have hcnt := hrl.out k
              clear hLn
              replace h32 := hide h32
              generalize intsN (wrsL H (k : Int)) = L at *
              obtain ⟨Al, cl, rfl⟩ := hLO.form
              have hb2 := hb.trans (hbl.mono hb.size)
              have k8 := k7.below hbl k7.lt
              have kO8 := kO7.below hbl kO7.lt
              have hown2 := hown.below hbl (Nat.le_refl _)
              have hszl := hbl.size
              replace hbl := hide hbl
              replace hown := hide hown
              clear hb k7 kO7
              by_cases hL0 : L.length = 0
              · have hz1 : ((L.length : Int) == 0) = true := by rw [hL0]; rfl
                have hsk := hide (hskip.out (hWe.out hL0))
                clear hL0 hskip hnext hrow hWe hWn hLO hown hbl
                go_wp2
                go_roundw
                case rel => exact ⟨k + 1, by omega, by go_num, by rw [hsk.out]; exact hown2, hb2, k8, kO8, by omega⟩
                case measure => simp [intOf]; omega
              · have hz1 : ((L.length : Int) == 0) = false := by
                  rw [beq_eq_false_iff_ne]; omega
                replace hnext := hide (hnext.out (hWn.out hL0))
                have cO := kO8.cell 0
                simp only [List.getElem?_toArray, List.getElem?_cons_zero] at cO
                have hπ8 : IntS wl (fun b => b < Wo.heap.size) (.slice Ap π.length cp) π := IntS.keep hπ.out (Agree.below hb2 fun b h => h) (fun b h => Nat.lt_of_lt_of_le (show b < _ from h) (by omega))
                clear hL0 hskip hWe hWn
                replace hLO := hide hLO
                go_wp2_with fail
                refine (sortF_any Wo.heap.size Al cl L (w.heap.size + 1) Ap cp π wl hLO.out (by omega) (by omega) cO hπ8 hpl).mono ?_
                rintro e w9 ⟨rfl, ⟨M, hM1, hM2, hM3⟩, hb9⟩
                have hML := hM1.length_eq
                have hMr := hide (hrow.out M hM1 hM2)
                have hb10 := hb2.trans (hb9.mono (by omega))
                have k10 := k8.below hb9 (by omega)
                have kO10 := kO8.below hb9 (by omega)
                have hs9 := hb9.size
                rw [← hML] at hM3
                have hMS : IntS w9 (TyK w.heap.size [3] w9) (.slice Al M.length cl) M := own_slT (own_baseT hM3 (by omega)) (fun _ => rfl) (by simp)
                have hown9 := OwnS.below hown.out (hbl.out.trans hb9) (Nat.le_refl _)
                have hrw : SRowR w9 (TyK w.heap.size [3] w9) [.int .i64 k, .slice Al M.length cl] ⟨(k : Int), M⟩ := ⟨Al, cl, rfl, hMS⟩
                have hM4 : (rowS H π (k : Int)) = ⟨(k : Int), M⟩ := by rw [hMr.out]; rfl
                rw [hM4] at hnext
                rw [← hML]
                replace hML := hide hML
                replace hM4 := hide hM4
                generalize rowsTo H π k = D at *
                replace hown9 := hide hown9
                replace hrw := hide hrw
                clear hM1 hM2 hM3 hMS hown2 hown hbl hb9 hb2 k8 kO8 cO hπ8 hLO
                go_wp2_with (at_builtin; go_loud (refine wpList_pushR SRowR.stab SRowR.one rfl (.tmp 48) (.tmp 52) 28 rfl w.heap.size 55 is _ 2 32 Try.underlying28 his hq1 hq2 hq3 rfl (by decide) [3] (by decide) (.slice Av D.length cv) D rfl hown9.out _ (⟨(k : Int), M⟩ : SRow) rfl hrw.out rfl (by unfold maxLen; omega) (by omega) (by omega) w w.heap.size (Nat.le_refl _) hb10 ?_); intro v1 w6 hown1 hag1 hb1 hat1 hkp1)
                go_roundw
                case rel => exact ⟨k + 1, by omega, by go_num, by rw [hnext.out]; exact hown1, hb1, hkp1 _ _ _ k10 (by decide), hkp1 _ _ _ kO10 (by decide), (hkp1 _ _ _ kO10 (by decide)).lt⟩
                case measure => simp [intOf]; omega
            · obtain rfl : k = 16 := by omega
              go_wp2
              go_ret
              exact ⟨_, rfl, by rw [← hax.out]; exact hown, hb⟩
    · have hz1 : ((π.length : Int) != (H.length : Int)) = true := bne_iff_ne.2 (by omega)
      have hx := hide (hbad.out (.inr (hpl2.out hlen)))
      clear hlen hbad hpl2 hps hall hrs
      go_wp2
      go_ret
      exact ⟨_, rfl, by rw [hx.out]; exact OwnS.nil _ _, hb7⟩
end Go.Proofs.Ytfhnamomiaekdaa

namespace Go.Proofs.Ytfhnamomiaekdaa
open Go.RowKit Go.Inq
set_option maxHeartbeats 4000000
attribute [local go_sem ↓] Go.wp_at_zero Go.wp_at_succ

def encC (x : Cho) : List Value := [.int .i64 x.key, .int .i64 x.a, .int .i64 x.b]
theorem encC_one : ∀ (x : Cho), ∀ u ∈ encC x, u.oneCell' = true := by
  intro x u hu
  simp [encC] at hu
  rcases hu with rfl | rfl | rfl <;> rfl
theorem infoC9 : (Try.prog.info? 44).map (fun i => (i.zero, i.size, i.bytes)) = some (some (.agg #[.int .i64 0, .int .i64 0, .int .i64 0]), 3, 24) := by kernel_rfl
/-- A slice of choices. -/
def ChoS (w : World) (K : Nat → Prop) (v : Value) (l : List Cho) : Prop := SlR 3 (Flat encC) w K v l
section
variable {w w' : World} {K K' : Nat → Prop} {v : Value} {l : List Cho}
theorem ChoS.keep (h : ChoS w K v l) (ha : Agree K w w') (hk : ∀ b, K b → K' b) : ChoS w' K' v l := SlR.keep (Flat.stab _) h ha hk
theorem ChoS.below (h : ChoS w (Old w) v l) (hb : Below w.heap.size w w') : ChoS w' (Old w') v l := SlR.below (Flat.stab _) h hb
theorem ChoS.fit (h : ChoS w K v l) (hk : ∀ b, K b → K' b) : ChoS w K' v l := SlR.fit (Flat.stab _) h hk
theorem ChoS.nil (w : World) (K : Nat → Prop) (A : Option Addr) (c : Nat) : ChoS w K (.slice A 0 c) [] := SlR.nil _ _ _ _ _ _
theorem ChoS.at_ {A : Option Addr} {n c : Nat} (h : ChoS w K (.slice A n c) l) {i : Nat} (hi : i < l.length) :
    ∃ b off, A = some ⟨b, off, none⟩ ∧ K b ∧ w.cell? ⟨b, off + i * 3, none⟩ = some (.int .i64 l[i].key) ∧ w.cell? ⟨b, off + i * 3 + 1, none⟩ = some (.int .i64 l[i].a) ∧ w.cell? ⟨b, off + i * 3 + 2, none⟩ = some (.int .i64 l[i].b) := by
  obtain ⟨b, off, cs, hA, hK, _, hR, hc⟩ := SlR.at_ h hi
  unfold Flat at hR
  subst hR
  exact ⟨b, off, hA, hK, hc 0 _ rfl, hc 1 _ rfl, hc 2 _ rfl⟩
end
/-- A row of choices of the call's own. -/
def OwnC (w : World) (base : Nat) (v : Value) (l : List Cho) : Prop := w.ownsRow base 44 3 v l.length (l.map encC).flatten
def OutC (w : World) (l : List Cho) (e : Ending) (w' : World) : Prop := ∃ v, e = .returned v ∧ OwnC w' w.heap.size v l ∧ Below w.heap.size w w'
theorem OwnC.form {w : World} {base : Nat} {v : Value} {l : List Cho} (h : OwnC w base v l) : ∃ A c, v = .slice A l.length c := own_slice h
theorem OwnC.sl {w : World} {base : Nat} {v : Value} {l : List Cho} (h : OwnC w base v l) {K : Nat → Prop} (hK : ∀ g, base ≤ g → g < w.heap.size → K g) : ChoS w K v l := SlR.of_flat h rfl (fun _ => rfl) hK
theorem OwnC.nil (w : World) (base : Nat) : OwnC w base (.slice none 0 0) [] := World.ownsRow_nil _ _ _ _
/-- A slice that the row that grows leaves as it is. -/
def Far (v : Value) (lo hi : Nat) : Prop := ∀ g, v.ownBlock = some g → g < lo ∨ hi ≤ g
set_option maxRecDepth 100000 in
theorem pairs9_any (A : Option Addr) (c : Nat) (H : List Txn) (w : World) (h : TxnS w (Old w) (.slice A H.length c) H) (hn : SmallH H) (hr : rightH H = true) :
    Calls Try.prog 31 #[.agg #[.slice A H.length c]] w (OutC w (pairsL H)) := by
  obtain ⟨ic, hic, hi1, hi2, hi3⟩ := info_parts infoC9
  obtain ⟨W0, hW0⟩ : ∃ W0, w.alloc (.cells #[.slice A H.length c] 24) = W0 := ⟨_, rfl⟩
  have hB := below_allocEq (Below.refl w.heap.size w) hW0 (Nat.le_refl _)
  have k0 := Blk.newEq hW0
  have h0 := hide (h.below hB)
  have h32 : H.length ≤ 32 := ((rightH_iff H).1 hr).1
  have hk16 := keysL_16len hr
  have hpt := hide (pairsTo_len h32)
  have hstep := hide (fun k (hk : k < (keysL H).length) => pairsTo_step hk)
  have hall := hide (pairsTo_all H)
  have hs0 := size_allocEq hW0
  replace hn := hide hn
  replace hr := hide hr
  replace h := hide h
  have c0 := k0.cell 0
  simp only [List.getElem?_toArray, List.getElem?_cons_zero, List.getElem?_cons_succ] at c0
  replace hs0 := hide hs0
  go_enter Try.func31, Try.ntmps31
  go_wp2_with fail
  clear hW0 c0
  refine (keys9_any A c H _ h0.out hn.out hr.out).mono ?_
  rintro e wk ⟨vk, rfl, hKO, hbk⟩
  obtain ⟨Ak, ck, rfl⟩ := hKO.form
  have hwW : w.heap.size < W0.heap.size := by have := hs0.out; omega
  have hKS := hide (hKO.sl (K := fun b => W0.heap.size ≤ b ∧ b < wk.heap.size) (fun g h1 h2 => ⟨h1, h2⟩))
  replace k0 := k0.below hbk k0.lt
  have hb := hB.trans (hbk.mono hB.size)
  have hszk := hbk.size
  clear hbk hB h0 hKO
  generalize hKL : keysL H = KL at *
  go_wp2_with fail
  go_loopw [3, 14] (fun s3 s14 wr => ∃ k : Nat, k ≤ KL.length ∧ s14 = .int .i64 k ∧ OwnC wr w.heap.size s3 (pairsTo H k) ∧ Below w.heap.size w wr ∧ Agree (fun b => w.heap.size ≤ b ∧ b < wk.heap.size) wk wr ∧ wk.heap.size ≤ wr.heap.size ∧ Hid (∀ g, s3.ownBlock = some g → wk.heap.size ≤ g)) (fun _ s14 _ => KL.length - (intOf s14).toNat)
  case atStart => exact ⟨0, Nat.zero_le _, by go_num, OwnC.nil _ _, hb, Agree.refl _ _, Nat.le_refl _, hide fun g hg => by simp [Value.ownBlock] at hg⟩
  case round =>
    clear hb
    obtain ⟨Wo, rfl⟩ : ∃ Wo, Wo = wr := ⟨_, rfl⟩
    obtain ⟨k, hk, rfl, hown, hb, hag, hszo, hfar⟩ := hrel
    have hi1' : (0 : Int) ≤ (k : Int) := Int.natCast_nonneg _
    by_cases hlt : k < KL.length
    · have hi2' : (k : Int) < (KL.length : Int) := by omega
      obtain ⟨bk, ok, rfl, _, hck⟩ := (hKS.out.keep (hag.mono fun b hb => ⟨by omega, hb.2⟩) (fun b h => h)).at_ hlt
      have m0 := k0.agree hag ⟨Nat.le_refl _, k0.lt⟩
      have hst := hide (hstep.out k hlt)
      have hlen := hpt.out k hk
      have c0 := m0.cell 0
      simp only [List.getElem?_toArray, List.getElem?_cons_zero, List.getElem?_cons_succ] at c0
      generalize KL[k] = key at *
      go_wp2_with fail
      clear c0 hck
      refine (writers9_any A c H key _ (h.out.below hb) hn.out hr.out).mono ?_
      rintro e wl ⟨vl, rfl, hLO, hbl⟩
      have hLn := wrsL_len H key
      have hpa := hide (pairsI_all key (wrsL H key))
      have hpi := hide (fun i (hi : i < (wrsL H key).length) => pairsI_step key (wrsL H key) hi)
      have hpl := hide (pairsI_len key (wrsL H key))
      generalize wrsL H key = L at *
      obtain ⟨Al, cl, hv⟩ := hLO.form
      rw [intsN_len] at hv
      subst hv
      have hLS := hide (hLO.sl (K := fun b => Wo.heap.size ≤ b ∧ b < wl.heap.size) (fun g h1 h2 => ⟨h1, h2⟩))
      have hb2 := hb.trans (hbl.mono hb.size)
      have hszl := hbl.size
      have hag2 : Agree (fun b => w.heap.size ≤ b ∧ b < wk.heap.size) wk wl := hag.trans (Agree.below hbl fun b hb => by omega)
      have hown2 : OwnC wl w.heap.size _ (pairsTo H k) := own_below hown hbl (Nat.le_refl _)
      have hlt2 := hide (fun g hg => (hown.lt g hg).2)
      clear hLO hbl hb hag hown m0
      go_wp2_with fail
      go_loopw [3, 23] (fun s3 s23 wq => ∃ i : Nat, i ≤ L.length ∧ s23 = .int .i64 i ∧ OwnC wq w.heap.size s3 (pairsTo H k ++ pairsI key L i) ∧ Below w.heap.size w wq ∧ Agree (fun b => w.heap.size ≤ b ∧ b < wk.heap.size) wk wq ∧ Agree (fun b => Wo.heap.size ≤ b ∧ b < wl.heap.size) wl wq ∧ wl.heap.size ≤ wq.heap.size ∧ Hid (∀ g, s3.ownBlock = some g → wk.heap.size ≤ g ∧ (g < Wo.heap.size ∨ wl.heap.size ≤ g))) (fun _ s23 _ => L.length - (intOf s23).toNat)
      case atStart => exact ⟨0, Nat.zero_le _, by go_num, by simpa [pairsI] using hown2, hb2, hag2, Agree.refl _ _, Nat.le_refl _, hide fun g hg => ⟨hfar.out g hg, .inl (hlt2.out g hg)⟩⟩
      case round =>
        clear hown2 hb2 hag2 hlt2 hfar
        obtain ⟨Wp, rfl⟩ : ∃ Wp, Wp = wr := ⟨_, rfl⟩
        obtain ⟨i, hi, rfl, hown, hb, hag, hagl, hszp, hfar⟩ := hrel
        have hj1 : (0 : Int) ≤ (i : Int) := Int.natCast_nonneg _
        by_cases hil : i < L.length
        · have hj2 : (i : Int) < (L.length : Int) := by omega
          obtain ⟨bl, ol, rfl, _, hcl⟩ := (hLS.out.keep hagl (fun b h => h)).at_ (i := i) (by rw [intsN_len]; exact hil)
          rw [intsN_at hil] at hcl
          have hpst := hide (hpi.out i hil)
          have hdl : (L.drop (i + 1)).length = L.length - (i + 1) := List.length_drop
          have hlen2 := hpl.out i
          have hlen3 : i * L.length ≤ 32 * 32 := Nat.mul_le_mul (by omega) (by omega)
          generalize L[i] = a at *
          have hle : i + 1 ≤ L.length := by omega
          have hle3 : (i : Int) + 1 ≤ (L.length : Int) := by omega
          have hcl2 : L.length ≤ cl := by
            obtain ⟨_, _, e, h2⟩ := SlR.len hLS.out
            injection e with e1 e2 e3
            rw [intsN_len] at h2
            omega
          by_cases hcap : cl = i + 1
          · have hLi : L.length = i + 1 := by omega
            have hd0 : L.drop (i + 1) = [] := List.drop_of_length_le (by omega)
            have hown3 : Hid (OwnC Wp w.heap.size u3 (pairsTo H k ++ pairsI key L (i + 1))) := hide (by rw [hpst.out, hd0, List.map_nil, List.append_nil]; exact hown)
            have hz0 : L.length - (i + 1) = 0 := by omega
            clear hd0 hcl2
            replace hown := hide hown
            subst hcap
            go_wp2_with fail
            go_loop [3, 33] (fun s3 s33 => s33 = .int .i64 0 ∧ OwnC Wp w.heap.size s3 (pairsTo H k ++ pairsI key L (i + 1)) ∧ Hid (∀ g, s3.ownBlock = some g → wk.heap.size ≤ g ∧ (g < Wo.heap.size ∨ wl.heap.size ≤ g))) (fun _ _ => 0)
            case atStart => exact ⟨rfl, hown3.out, hfar⟩
            case round =>
              clear hown3 hfar
              obtain ⟨rfl, hown3, hfar⟩ := hrel
              go_wp2
              go_roundw
              case rel => exact ⟨i + 1, by omega, by go_num, hown3, hb, hag, hagl, hszp, hfar⟩
              case measure => simp [intOf]; omega
          · go_wp2_with fail
            have hdo := hide (fun j (hj : j < L.length - (i + 1)) => (show i + 1 + j < L.length by omega))
            go_loopw [3, 33] (fun s3 s33 wq => ∃ j : Nat, j ≤ L.length - (i + 1) ∧ s33 = .int .i64 j ∧ OwnC wq w.heap.size s3 (pairsTo H k ++ pairsI key L i ++ ((L.drop (i + 1)).take j).map fun (b : Nat) => (⟨key, (a : Nat), b⟩ : Cho)) ∧ Below w.heap.size w wq ∧ Agree (fun b => w.heap.size ≤ b ∧ b < wk.heap.size) wk wq ∧ Agree (fun b => Wo.heap.size ≤ b ∧ b < wl.heap.size) wl wq ∧ wl.heap.size ≤ wq.heap.size ∧ Hid (∀ g, s3.ownBlock = some g → wk.heap.size ≤ g ∧ (g < Wo.heap.size ∨ wl.heap.size ≤ g))) (fun _ s33 _ => (L.length - (i + 1)) - (intOf s33).toNat)
            case atStart => exact ⟨0, Nat.zero_le _, by go_num, by simpa using hown, hb, hag, hagl, hszp, hfar⟩
            case round =>
              clear hown hb hag hagl hszp hfar hcl
              obtain ⟨j, hj, rfl, hown, hb, hag, hagl, hszp, hfar⟩ := hrel
              have hjj : (0 : Int) ≤ (j : Int) := Int.natCast_nonneg _
              by_cases hjl : j < L.length - (i + 1)
              · have hj3 : (j : Int) < ((L.length - (i + 1) : Nat) : Int) := by omega
                have hix := hdo.out j hjl
                obtain ⟨_, _, e, _, hcj⟩ := (hLS.out.keep hagl (fun b h => h)).at_ (i := i + 1 + j) (by rw [intsN_len]; exact hix)
                injection e with e
                injection e with e1 e2
                subst e1 e2
                rw [intsN_at hix, ← Nat.add_assoc] at hcj
                have hdj : Hid (((L.drop (i + 1)).take (j + 1)) = (L.drop (i + 1)).take j ++ [L[i + 1 + j]]) := hide (by rw [take_snoc' (by rw [hdl]; exact hjl), List.getElem_drop])
                have hjn : ((L.drop (i + 1)).take j).length ≤ 32 := by rw [List.length_take, hdl]; omega
                have hplen : (pairsTo H k).length ≤ 16384 := by omega
                have hwlen : (pairsTo H k ++ pairsI key L i ++ ((L.drop (i + 1)).take j).map fun (b : Nat) => (⟨key, (a : Nat), b⟩ : Cho)).length ≤ 20000 := by
                  rw [List.length_append, List.length_append, List.length_map]
                  omega
                obtain ⟨Av, cv, rfl⟩ := hown.form
                generalize hM : (pairsTo H k ++ pairsI key L i ++ ((L.drop (i + 1)).take j).map fun (b : Nat) => (⟨key, (a : Nat), b⟩ : Cho)) = M at *
                generalize L[i + 1 + j] = y at *
                have hM2 : Hid ((pairsTo H k ++ pairsI key L i ++ ((L.drop (i + 1)).take (j + 1)).map fun (b : Nat) => (⟨key, (a : Nat), b⟩ : Cho)) = M ++ [⟨key, a, y⟩]) := hide (by rw [hdj.out, List.map_append, ← List.append_assoc, hM]; rfl)
                have hszb := hb.size
                clear hM hjn hplen hdj
                replace hown := hide hown
                go_wp2_with (at_builtin; refine wpList_push (enc := encC) rfl (.tmp 37) (.tmp 42) 32 rfl w.heap.size 44 ic _ 3 24 Try.underlying32 hic hi1 hi2 hi3 rfl (by decide) (.slice Av M.length cv) M rfl hown.out (fun _ => rfl) (⟨key, a, y⟩ : Cho) _ rfl rfl encC_one (by simp [maxLen]; omega) (by omega) hszb w w.heap.size (Nat.le_refl _) hb ?_; intro v1 w6 hown1 hg1 hb1 hat1)
                have hg6 := hg1.size
                simp only [World.size_alloc] at hg6
                have hA1 : Agree (fun b => w.heap.size ≤ b ∧ b < wk.heap.size) wk w6 := (hag.trans (Agree.alloc (fun b hb => by omega) _)).trans (Agree.grown hg1 fun b hb => ⟨by simp; omega, fun e => by have := (hfar.out b e.symm).1; omega⟩)
                have hA2 : Agree (fun b => Wo.heap.size ≤ b ∧ b < wl.heap.size) wl w6 := (hagl.trans (Agree.alloc (fun b hb => by omega) _)).trans (Agree.grown hg1 fun b hb => ⟨by simp; omega, fun e => by have := (hfar.out b e.symm).2; omega⟩)
                go_wp2
                go_roundw
                case rel => exact ⟨j + 1, by omega, by go_num, by rw [hM2.out]; exact hown1, hb1, hA1, hA2, by omega, hide fun g hg => by
                  rcases hat1 with e | e
                  · rw [e] at hg; exact hfar.out g hg
                  · rw [e] at hg; injection hg with hg; omega⟩
                case measure => simp [intOf]; omega
              · obtain rfl : j = L.length - (i + 1) := by omega
                rw [List.take_of_length_le (by rw [hdl]; exact Nat.le_refl _), List.append_assoc, ← hpst.out] at hown
                go_wp2
                go_roundw
                case rel => exact ⟨i + 1, by omega, by go_num, hown, hb, hag, hagl, hszp, hfar⟩
                case measure => simp [intOf]; omega
        · obtain rfl : i = L.length := by omega
          rw [hpa.out, ← hst.out] at hown
          go_wp2
          go_roundw
          case rel => exact ⟨k + 1, by omega, by go_num, hown, hb, hag, by omega, hide fun g hg => (hfar.out g hg).1⟩
          case measure => simp [intOf]; omega
    · obtain rfl : k = KL.length := by omega
      rw [hall.out] at hown
      go_wp2
      go_ret
      exact ⟨_, rfl, hown, hb⟩
end Go.Proofs.Ytfhnamomiaekdaa
