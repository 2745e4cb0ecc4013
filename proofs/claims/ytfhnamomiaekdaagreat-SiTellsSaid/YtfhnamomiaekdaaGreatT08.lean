/-
  Walks: layer 21: who writes a key; rows of numbers alike.
-/
import Derived.Shelf.SlSortCmp.Whole1
import Derived.BigQuiet
import Derived.Test.YtfhnamomiaekdaaGreatT06
import Derived.Test.YtfhnamomiaekdaaGreatT07
import Derived.Test.YtfhnamomiaekdaaGreatT01
import Derived.Test.YtfhnamomiaekdaaGreatT05
import Derived.Test.YtfhnamomiaekdaaGreatT03
set_option linter.unusedVariables false
set_option linter.unusedSimpArgs false
namespace Go.Proofs.YtfhnamomiaekdaaGreat
open Go.RowKit Go.Inq
set_option maxHeartbeats 4000000
attribute [local go_sem ↓] Go.wp_at_zero Go.wp_at_succ

set_option maxRecDepth 100000 in
theorem writersS_any (A : Option Addr) (c : Nat) (H : List Txn) (key : Int) (w : World) (h : TxnS w (Old w) (.slice A H.length c) H) (hn : SmallH H) :
    Calls Tryz.prog 33 #[.agg #[.slice A H.length c], .int .i64 key] w (OutI w (intsN (wrsL H key))) := by
  obtain ⟨ii, hii, hi1, hi2, hi3⟩ := info_parts infoI10
  obtain ⟨W0, hW0⟩ : ∃ W0, w.alloc (.cells #[.slice A H.length c] 24) = W0 := ⟨_, rfl⟩
  have hB := below_allocEq (Below.refl w.heap.size w) hW0 (Nat.le_refl _)
  have k0 := Blk.newEq hW0
  have h0 := hide (h.below hB)
  have hlen := hn.1
  have hwl := hide (fun i (hi : i < H.length) => (hn.2 _ (List.getElem_mem hi)).1)
  replace hn := hide hn
  replace h := hide h
  have c0 := k0.cell 0
  simp only [List.getElem?_toArray, List.getElem?_cons_zero, List.getElem?_cons_succ] at c0
  go_enter Tryz.func33, Tryz.ntmps33
  go_wp2_with fail
  clear hW0 c0 k0 h0
  have hb := hB
  clear hB
  go_loopw [5, 11] (fun s5 s11 wr => ∃ k : Nat, k ≤ H.length ∧ s11 = .int .i64 k ∧ OwnI wr w.heap.size s5 (intsN (wrsTo H key k)) ∧ Below w.heap.size w wr) (fun _ s11 _ => H.length - (intOf s11).toNat)
  case atStart => exact ⟨0, Nat.zero_le _, by go_num, OwnI.nil _ _, hb⟩
  case round =>
    clear hb
    obtain ⟨k, hk, rfl, hown, hb⟩ := hrel
    have hi1' : (0 : Int) ≤ (k : Int) := Int.natCast_nonneg _
    by_cases hlt : k < H.length
    · have hi2' : (k : Int) < (H.length : Int) := by omega
      obtain ⟨b, off, Aw, cw, Ar, cr, rfl, _, d0, d1, d2, hws, _⟩ := TxnS.at_ (h.out.below hb) hlt
      have hwk := hwl.out k hlt
      have hst := hide (wrsTo_step H key k)
      rw [txnAt_of hlt] at hst
      have hcnt : (wrsTo H key k).length ≤ k := Nat.le_trans (List.length_filter_le _ _) (by simp)
      have hszb := hb.size
      obtain ⟨Av, cv, rfl⟩ := hown.form
      generalize H[k] = t at *
      obtain ⟨ts, ws, rs⟩ := t
      dsimp only at *
      have hws2 := hide (hws.keep (w' := wr.alloc (.cells #[.int .i64 ts, .slice Aw ws.length cw, .slice Ar rs.length cr] 86)) (Agree.alloc (fun b hb => hb) _) (fun b h => h))
      have hb2 := hb.alloc hszb (.cells #[.int .i64 ts, .slice Aw ws.length cw, .slice Ar rs.length cr] 86)
      have hown2 := hown.alloc (.cells #[.int .i64 ts, .slice Aw ws.length cw, .slice Ar rs.length cr] 86)
      clear hws
      replace hown2 := hide hown2
      have hlq := hide (intsN_len (wrsTo H key k))
      have hsn := hide (intsN_snoc (wrsTo H key k) k)
      go_wp2_with fail
      clear d0 d1 d2
      refine (contains_int Aw cw ws key _ _ hws2.out (by unfold maxLen; omega)).mono ?_
      rintro e w3 ⟨rfl, rfl⟩
      have hsz2 := hb2.size
      cases hc : ws.contains key with
      | true =>
        have hst2 : Hid (wrsTo H key (k + 1) = wrsTo H key k ++ [k]) := hide (by rw [hst.out, hc]; rfl)
        clear hc hst
        generalize wr.alloc (.cells #[.int .i64 ts, .slice Aw ws.length cw, .slice Ar rs.length cr] 86) = Wx at *
        go_wp2_with (at_builtin; refine wpList_push (enc := Go.Inq.encI) rfl (.tmp 20) (.tmp 22) 26 rfl w.heap.size 3 ii _ 1 8 Tryz.underlying26 hii hi1 hi2 hi3 rfl (by decide) (.slice Av (intsN (wrsTo H key k)).length cv) (intsN (wrsTo H key k)) rfl hown2.out (fun _ => rfl) (k : Int) _ rfl rfl Go.Inq.encI_one (by rw [hlq.out]; simp [maxLen]; omega) (by rw [hlq.out]; omega) hsz2 w w.heap.size (Nat.le_refl _) hb2 ?_; intro v1 w6 hown1 hg1 hb1 hat1)
        go_roundw
        case rel => exact ⟨k + 1, by omega, by go_num, by unfold OwnI; rw [hst2.out, hsn.out]; exact hown1, hb1⟩
        case measure => simp [intOf]; omega
      | false =>
        have hst2 : Hid (wrsTo H key (k + 1) = wrsTo H key k) := hide (by rw [hst.out, hc]; simp)
        clear hc hst
        go_wp2
        go_roundw
        case rel => exact ⟨k + 1, by omega, by go_num, by unfold OwnI; rw [hst2.out]; exact hown2.out, hb2⟩
        case measure => simp [intOf]; omega
    · obtain rfl : k = H.length := by omega
      go_wp2
      go_ret
      exact ⟨_, rfl, hown, hb⟩
/-- A key, and who writes it, in memory. -/
def SRowR (w : World) (K : Nat → Prop) (cs : List Value) (r : SRow) : Prop := ∃ A c, cs = [.int .i64 r.key, .slice A r.l.length c] ∧ IntS w K (.slice A r.l.length c) r.l
theorem SRowR.stab : Stab SRowR := fun _ _ _ _ _ _ h ha hk => by
  obtain ⟨A, c, h1, h2⟩ := h
  exact ⟨A, c, h1, IntS.keep h2 ha hk⟩
def RowS (w : World) (K : Nat → Prop) (v : Value) (l : List SRow) : Prop := SlR 2 SRowR w K v l
section
variable {w w' : World} {K K' : Nat → Prop} {v : Value} {l : List SRow}
theorem RowS.keep (h : RowS w K v l) (ha : Agree K w w') (hk : ∀ b, K b → K' b) : RowS w' K' v l := SlR.keep SRowR.stab h ha hk
theorem RowS.below (h : RowS w (Old w) v l) (hb : Below w.heap.size w w') : RowS w' (Old w') v l := SlR.below SRowR.stab h hb
theorem RowS.fit (h : RowS w K v l) (hk : ∀ b, K b → K' b) : RowS w K' v l := SlR.fit SRowR.stab h hk
theorem RowS.nil (w : World) (K : Nat → Prop) (A : Option Addr) (c : Nat) : RowS w K (.slice A 0 c) [] := SlR.nil _ _ _ _ _ _
theorem RowS.cap {A : Option Addr} {n c : Nat} (h : RowS w K (.slice A n c) l) : l.length ≤ c := by
  obtain ⟨_, _, e, h1⟩ := SlR.len h
  simp only [Value.slice.injEq] at e
  omega
theorem RowS.at_ {A : Option Addr} {n c : Nat} (h : RowS w K (.slice A n c) l) {i : Nat} (hi : i < l.length) : ∃ b off Ay cy, A = some ⟨b, off, none⟩ ∧ K b ∧ w.cell? ⟨b, off + i * 2, none⟩ = some (.int .i64 l[i].key) ∧ w.cell? ⟨b, off + i * 2 + 1, none⟩ = some (.slice Ay l[i].l.length cy) ∧ IntS w K (.slice Ay l[i].l.length cy) l[i].l := by
  obtain ⟨b, off, cs, hA, hK, -, ⟨Ay, cy, rfl, hy⟩, hc⟩ := SlR.at_ h hi
  exact ⟨b, off, Ay, cy, hA, hK, hc 0 _ rfl, hc 1 _ rfl, hy⟩
end
/-- Sizes of rows that a walk can count. -/
def FitS (R : List SRow) : Prop := R.length ≤ 1000000 ∧ ∀ r ∈ R, r.l.length ≤ 1000000
end Go.Proofs.YtfhnamomiaekdaaGreat

namespace Go.Proofs.YtfhnamomiaekdaaGreat
open Go.Joins Go.ChangeShapes Go.WideShapes Go.ChangeAt Go.RowKit Go.Deep Go.Inq
section
variable {H : Type} {enc : TypeId × Value → H} {w : World} {base : Nat} {spare : Nat → Bool} {held : Bool}

theorem open_srow {n : Nat} {cs : List Value} {x : DataW H × List MemPlace} (hC : Tryz.prog.cellsOf 30 = 2) (h : DataW.trod enc Tryz.prog w base spare held n 30 cs = some x) : ∃ r : SRow, SRowR w (Old w) cs r ∧ r.l.length ≤ maxLen := by
  obtain ⟨y0, y1, n', _, hl, h0, h1⟩ := trod_struct2 Tryz.underlying30 h
  rw [hC] at hl
  have e1 : Tryz.prog.cellsOf 3 = 1 := by kernel_rfl
  have e3 : Tryz.prog.cellsOf 26 = 1 := by kernel_rfl
  simp only [e1, e3] at h0 h1
  match cs, hl with
  | [a, b], _ =>
    obtain ⟨k0, g0, _⟩ := DataW.trod_int Tryz.underlying3 h0
    simp at g0
    have h1' : DataW.trod enc Tryz.prog w base spare held n' 26 [b] = some y1 := by simpa using h1
    obtain ⟨A, c', l, hv, hev, hle⟩ := open_nums h1'
    exact ⟨⟨k0, l⟩, ⟨A, c', by rw [g0, hv], hev⟩, hle⟩
theorem open_srows {n : Nat} {v : Value} {x : DataW H × List MemPlace} (h : DataW.trod enc Tryz.prog w base spare held n 25 [v] = some x) :
    ∃ (A : Option Addr) (c : Nat) (l : List SRow), v = .slice A l.length c ∧ RowS w (Old w) (.slice A l.length c) l ∧ l.length ≤ maxLen ∧ ∀ r ∈ l, r.l.length ≤ maxLen :=
  open_rows (R := SRowR) (size := 2) (fun r => r.l.length ≤ maxLen) ⟨0, []⟩ Tryz.underlying25 (by kernel_rfl) (by decide) (fun n cs x h => open_srow (by kernel_rfl) h) h
end
end Go.Proofs.YtfhnamomiaekdaaGreat

namespace Go.Proofs.YtfhnamomiaekdaaGreat
open Go.RowKit Go.Inq

theorem idxOf_hit (a : Int) (t : List Int) : (a :: t).idxOf a = 0 := by simp [List.idxOf_cons]
theorem idxOf_far {a x : Int} (h : a ≠ x) (t : List Int) : (a :: t).idxOf x = t.idxOf x + 1 := by
  rw [List.idxOf_cons, show (a == x) = false by simpa using h]; rfl
theorem filter_idx {p : Int → Bool} {x y : Int} (hx : p x = true) (hy : p y = true) : ∀ {l : List Int}, x ∈ l → y ∈ l → ((l.filter p).idxOf x < (l.filter p).idxOf y ↔ l.idxOf x < l.idxOf y)
  | [], h, _ => by cases h
  | a :: t, h1, h2 => by
    by_cases hpa : p a = true
    · rw [List.filter_cons_of_pos hpa]
      by_cases hax : a = x
      · subst hax
        by_cases hay : a = y
        · subst hay; exact ⟨fun h => absurd h (Nat.lt_irrefl _), fun h => absurd h (Nat.lt_irrefl _)⟩
        · rw [idxOf_hit, idxOf_hit, idxOf_far hay, idxOf_far hay]
          exact ⟨fun _ => by omega, fun _ => by omega⟩
      · by_cases hay : a = y
        · subst hay
          rw [idxOf_hit, idxOf_hit]
          exact ⟨fun h => absurd h (Nat.not_lt_zero _), fun h => absurd h (Nat.not_lt_zero _)⟩
        · rw [List.mem_cons] at h1 h2
          have g1 : x ∈ t := h1.resolve_left fun e => hax e.symm
          have g2 : y ∈ t := h2.resolve_left fun e => hay e.symm
          have := filter_idx hx hy g1 g2
          rw [idxOf_far hax, idxOf_far hay, idxOf_far hax, idxOf_far hay]
          omega
    · rw [List.filter_cons_of_neg hpa]
      have hax : a ≠ x := fun e => hpa (e ▸ hx)
      have hay : a ≠ y := fun e => hpa (e ▸ hy)
      rw [List.mem_cons] at h1 h2
      have g1 : x ∈ t := h1.resolve_left fun e => hax e.symm
      have g2 : y ∈ t := h2.resolve_left fun e => hay e.symm
      have := filter_idx hx hy g1 g2
      rw [idxOf_far hax, idxOf_far hay]
      omega
theorem rowS_mem {H : List Txn} {π : List Int} (hp : permB π H.length = true) {k : Int} {n : Nat} : ((n : Nat) : Int) ∈ (rowS H π k).l ↔ n ∈ wrsL H k := by
  unfold rowS
  rw [List.mem_filter, wrsL_mem, Int.toNat_natCast, List.contains_iff_mem]
  constructor
  · rintro ⟨h1, h2⟩
    obtain ⟨i, hi, e⟩ := List.getElem_of_mem h1
    have := perm_bd hp hi
    exact ⟨by omega, h2⟩
  · rintro ⟨h1, h2⟩
    exact ⟨perm_has hp h1, h2⟩
theorem rowS_perm {H : List Txn} {π : List Int} (hp : permB π H.length = true) (k : Int) : (rowS H π k).l.Perm (natI (wrsL H k)) := by
  refine (List.perm_ext_iff_of_nodup ((perm_nodup hp).sublist List.filter_sublist) (natI_nodup (wrsL_rise H k))).2 fun x => ?_
  constructor
  · intro hx
    have h1 := (List.mem_filter.1 hx).1
    obtain ⟨i, hi, e⟩ := List.getElem_of_mem h1
    have := perm_bd hp hi
    have hn : x = ((x.toNat : Nat) : Int) := by omega
    rw [hn] at hx
    exact natI_mem.2 ⟨_, (rowS_mem hp).1 hx, hn⟩
  · intro hx
    obtain ⟨n, hn, rfl⟩ := natI_mem.1 hx
    exact (rowS_mem hp).2 hn
theorem rowsL_ok {H : List Txn} {π : List Int} (hr : rightH H = true) (hp : permB π H.length = true) : OkS H (rowsL H π) := by
  unfold rowsL
  rw [if_pos ⟨hr, hp⟩]
  refine ⟨hr, ?_, fun r hm => ?_⟩
  · rw [List.map_map]
    exact (List.map_congr_left (g := id) fun k _ => rfl).trans (List.map_id _)
  · obtain ⟨k, hk, rfl⟩ := List.mem_map.1 hm
    exact rowS_perm hp k
theorem rowsL_right {H : List Txn} {π : List Int} (hr : rightH H = true) (hp : permB π H.length = true) : rightS H (rowsL H π) = true := (okS_iff _ _).2 (rowsL_ok hr hp)
/-- An order's rows choose as the order does. -/
theorem choS_rows {H : List Txn} {π : List Int} (hr : rightH H = true) (hp : permB π H.length = true) : choS H (rowsL H π) = ofL H π := by
  unfold choS
  rw [if_pos (rowsL_right hr hp)]
  unfold rowsL ofL pairsL
  rw [if_pos ⟨hr, hp⟩, List.map_flatten, List.map_map, List.map_map]
  congr 1
  refine List.map_congr_left fun k _ => ?_
  show (pairsK k (wrsL H k)).map (ofC (rowS H π k).l) = (pairsK k (wrsL H k)).map (ofC π)
  refine List.map_congr_left fun p hpm => ?_
  obtain ⟨hpk, a, b, ha, hb, ham, hbm⟩ := pairsK_mem hpm
  have h1 := (rowS_mem (k := k) hp).2 ham
  have h2 := (rowS_mem (k := k) hp).2 hbm
  have g1 := (List.mem_filter.1 h1).1
  have g2 := (List.mem_filter.1 h2).1
  have hf := filter_idx (p := fun t => (txnAt H t.toNat).writes.contains k) (List.mem_filter.1 h2).2 (List.mem_filter.1 h1).2 g2 g1
  have hf : (rowS H π k).l.idxOf (b : Int) < (rowS H π k).l.idxOf (a : Int) ↔ π.idxOf (b : Int) < π.idxOf (a : Int) := hf
  unfold ofC
  rw [ha, hb, idxI_idxOf h1, idxI_idxOf h2, idxI_idxOf g1, idxI_idxOf g2]
  by_cases hlt : π.idxOf (b : Int) < π.idxOf (a : Int)
  · rw [if_pos (by have := hf.2 hlt; omega), if_pos (by omega)]
  · rw [if_neg (by intro h; exact hlt (hf.1 (by omega))), if_neg (by omega)]
theorem good_si {H : List Txn} {l : List Cho} (h : goodB H 0 l = true) : goodB H 1 l = true := by
  unfold goodB at h ⊢
  rw [Bool.not_eq_true'] at h ⊢
  obtain ⟨o, ht⟩ := topoN_of h
  have h0 : ∀ x y, fullE H 0 l x y = (orE (pastE H) (wwE l) x y || rwE H l x y) := fun _ _ => rfl
  have h1 : ∀ x y, fullE H 1 l x y = (orE (pastE H) (wwE l) x y || thenE H.length (orE (pastE H) (wwE l)) (rwE H l) x y) := fun _ _ => rfl
  refine cyc_rank (fun x => o.idxOf x) fun x y hx hy he => ?_
  rw [h1, Bool.or_eq_true] at he
  rcases he with he | he
  · exact ht.up hx hy (by rw [h0, he]; rfl)
  · unfold thenE at he
    rw [List.any_eq_true] at he
    obtain ⟨z, hz, he⟩ := he
    have hz := List.mem_range.1 hz
    rw [Bool.and_eq_true] at he
    have g1 := ht.up hx hz (by rw [h0, he.1]; rfl)
    have g2 := ht.up hz hy (by rw [h0, he.2, Bool.or_true])
    exact Nat.lt_trans g1 g2
theorem check_perm {H : List Txn} {π : List Int} (h : checkB H π = true) : permB π H.length = true := by
  unfold checkB at h
  simp only [Bool.and_eq_true] at h
  exact h.1.1
/-- What an order shows to be serializable has snapshots by that order's rows. -/
theorem ser_si {H : List Txn} {π : List Int} (hr : rightH H = true) (h : checkB H π = true) : checkS H (rowsL H π) = true := by
  have hp := check_perm h
  rw [checkS_good, rowsL_right hr hp, Bool.true_and, choS_rows hr hp, ofL_dec hp]
  exact good_si (ser_good h)
theorem rowsL_or (H : List Txn) (π : List Int) : rowsL H π = [] ∨ rightS H (rowsL H π) = true := by
  by_cases h : rightH H = true ∧ permB π H.length = true
  · exact .inr (rowsL_right h.1 h.2)
  · left; unfold rowsL; rw [if_neg h]
/-- Without reads. -/
def bareH (H : List Txn) : List Txn := H.map fun t => { t with reads := [] }
theorem bareH_len (H : List Txn) : (bareH H).length = H.length := List.length_map _
theorem bareH_at {H : List Txn} {t : Nat} (h : t < H.length) : txnAt (bareH H) t = { txnAt H t with reads := [] } := by
  rw [txnAt_of (by rw [bareH_len]; exact h), txnAt_of h]
  unfold bareH
  rw [List.getElem_map]
theorem bare_check {H : List Txn} {π : List Int} (hp : permB π H.length = true) (hs : sessB (bareH H) π = true) : checkB (bareH H) π = true := by
  unfold checkB
  rw [bareH_len, hp, hs, Bool.and_true, Bool.true_and]
  unfold readsB
  rw [List.all_eq_true]
  intro t ht
  rw [bareH_len] at ht
  have ht := List.mem_range.1 ht
  unfold playL
  rw [bareH_at ht]
  simp
end Go.Proofs.YtfhnamomiaekdaaGreat

namespace Go.Proofs.YtfhnamomiaekdaaGreat
open Go.RowKit Go.Inq

/-- The keys below one that are written. -/
def keysTo (H : List Txn) (k : Nat) : List Int := ((List.range k).filter fun (x : Nat) => decide (wrsL H (x : Int) ≠ [])).map fun (x : Nat) => (x : Int)
theorem keysTo_zero (H : List Txn) : keysTo H 0 = [] := rfl
theorem keysTo_skip {H : List Txn} {k : Nat} (h : wrsL H (k : Int) = []) : keysTo H (k + 1) = keysTo H k := by
  unfold keysTo; rw [List.range_succ, List.filter_append, List.map_append]; simp [h]
theorem keysTo_next {H : List Txn} {k : Nat} (h : wrsL H (k : Int) ≠ []) : keysTo H (k + 1) = keysTo H k ++ [(k : Int)] := by
  unfold keysTo; rw [List.range_succ, List.filter_append, List.map_append]; simp [h]
theorem keysTo_len (H : List Txn) (k : Nat) : (keysTo H k).length ≤ k := by
  unfold keysTo; rw [List.length_map]; exact Nat.le_trans (List.length_filter_le _ _) (by simp)
theorem keysTo_all {H : List Txn} (hr : rightH H = true) : keysTo H 16 = keysL H := by
  rw [keysL_16 fun t ht k hk => ?_]
  · rfl
  · obtain ⟨i, hi, rfl⟩ := List.getElem_of_mem ht
    exact (((rightH_iff H).1 hr).2 i hi).wkey k hk
theorem keysTo_pre {H : List Txn} {k m : Nat} (h : k ≤ m) : keysTo H k <+: keysTo H m := by
  obtain ⟨d, rfl⟩ := Nat.le.dest h
  unfold keysTo
  rw [List.range_add, List.filter_append, List.map_append]
  exact List.prefix_append _ _
def rowOk (H : List Txn) (r : SRow) : Bool := decide (sortI r.l = natI (wrsL H r.key))
/-- Rows gone through, up to a key. -/
structure RtI (H : List Txn) (R : List SRow) (k n : Nat) : Prop where
  le : n ≤ R.length
  n16 : n ≤ k
  keys : (R.take n).map (·.key) = keysTo H k
  ok : ∀ r ∈ R.take n, rowOk H r = true
theorem RtI.start (H : List Txn) (R : List SRow) : RtI H R 0 0 := ⟨Nat.zero_le _, Nat.le_refl _, rfl, fun r h => by simp at h⟩
theorem RtI.len {H : List Txn} {R : List SRow} {k n : Nat} (h : RtI H R k n) : (keysTo H k).length = n := by rw [← h.keys, List.length_map, List.length_take]; have := h.le; omega
theorem RtI.skip {H : List Txn} {R : List SRow} {k n : Nat} (h : RtI H R k n) (hw : wrsL H (k : Int) = []) : RtI H R (k + 1) n := ⟨h.le, by have := h.n16; omega, by rw [keysTo_skip hw]; exact h.keys, h.ok⟩
theorem RtI.next {H : List Txn} {R : List SRow} {k n : Nat} (h : RtI H R k n) (hw : wrsL H (k : Int) ≠ []) (hn : n < R.length) (hk : R[n].key = (k : Int)) (ho : sortI R[n].l = intsN (wrsL H (k : Int))) : RtI H R (k + 1) (n + 1) := by
  refine ⟨hn, by have := h.n16; omega, ?_, fun r hr => ?_⟩
  · rw [List.take_succ_eq_append_getElem hn, List.map_append, h.keys, keysTo_next hw, List.map_cons, hk]; rfl
  · rw [List.take_succ_eq_append_getElem hn, List.mem_append, List.mem_singleton] at hr
    rcases hr with hr | rfl
    · exact h.ok r hr
    · unfold rowOk; rw [hk]; exact decide_eq_true ho
theorem rightS_bad {H : List Txn} {R : List SRow} (h : OkS H R → False) : rightS H R = false := by
  rw [Bool.eq_false_iff]; intro h2; exact h ((okS_iff H R).1 h2)
theorem RtI.at_ {H : List Txn} {R : List SRow} {k n : Nat} (h : RtI H R k n) (hk : k < 16) (hw : wrsL H (k : Int) ≠ []) (ho : OkS H R) : ∃ hn : n < R.length, R[n].key = (k : Int) := by
  have hp : keysTo H k ++ [(k : Int)] <+: keysL H := by rw [← keysTo_next hw, ← keysTo_all ho.right]; exact keysTo_pre (by omega)
  rw [← ho.keys] at hp
  have hl := hp.length_le
  simp only [List.length_append, h.len, List.length_map, List.length_singleton] at hl
  refine ⟨by omega, ?_⟩
  have he := hp.getElem (i := n) (by simp [h.len])
  rw [List.getElem_map, List.getElem_append_right (by rw [h.len]; exact Nat.le_refl _)] at he
  simp only [h.len, Nat.sub_self, List.getElem_cons_zero] at he
  exact he.symm
theorem RtI.few {H : List Txn} {R : List SRow} {k n : Nat} (h : RtI H R k n) (hk : k < 16) (hw : wrsL H (k : Int) ≠ []) (hn : n = R.length) : rightS H R = false :=
  rightS_bad fun ho => by obtain ⟨h1, _⟩ := h.at_ hk hw ho; omega
theorem RtI.key {H : List Txn} {R : List SRow} {k n : Nat} (h : RtI H R k n) (hk : k < 16) (hw : wrsL H (k : Int) ≠ []) (hn : n < R.length) (he : R[n].key ≠ (k : Int)) : rightS H R = false :=
  rightS_bad fun ho => by obtain ⟨_, h1⟩ := h.at_ hk hw ho; exact he h1
theorem RtI.row {H : List Txn} {R : List SRow} {k n : Nat} (h : RtI H R k n) (hk : k < 16) (hw : wrsL H (k : Int) ≠ []) (hn : n < R.length) (he : sortI R[n].l ≠ intsN (wrsL H (k : Int))) : rightS H R = false :=
  rightS_bad fun ho => by
    obtain ⟨_, h1⟩ := h.at_ hk hw ho
    have h2 := sort_iff.2 (ho.perm R[n] (List.getElem_mem hn))
    rw [h1] at h2
    exact he h2
theorem RtI.done {H : List Txn} {R : List SRow} {n : Nat} (h : RtI H R 16 n) (hr : rightH H = true) : rightS H R = decide (n = R.length) := by
  rw [Bool.eq_iff_iff, decide_eq_true_eq, okS_iff]
  constructor
  · intro ho
    have h1 := h.len
    rw [keysTo_all hr, ← ho.keys, List.length_map] at h1
    exact h1.symm
  · intro hn
    have hk := h.keys
    have ho := h.ok
    rw [hn, List.take_length] at hk ho
    rw [keysTo_all hr] at hk
    exact ⟨hr, hk, fun r hm => sort_iff.1 (of_decide_eq_true (ho r hm))⟩
theorem rightS_no {H : List Txn} {R : List SRow} (hr : rightH H = false) : rightS H R = false := rightS_bad fun ho => by rw [ho.right] at hr; cases hr
end Go.Proofs.YtfhnamomiaekdaaGreat

namespace Go.Proofs.YtfhnamomiaekdaaGreat
open Go.RowKit Go.Inq

theorem perm_by {f : Int → Int} : ∀ {a b : List Int}, a.Pairwise (fun x y => ¬ f y < f x) → b.Pairwise (fun x y => ¬ f y < f x) → (∀ x ∈ a, ∀ y ∈ a, f x = f y → x = y) → a.Perm b → a = b
  | [], b, _, _, _, h => by rw [h.nil_eq]
  | x :: a, [], _, _, _, h => by have := h.length_eq; simp at this
  | x :: a, y :: b, ha, hb, hf, h => by
    rw [List.pairwise_cons] at ha hb
    have hx : x ∈ y :: b := h.mem_iff.1 (by simp)
    have hy : y ∈ x :: a := h.mem_iff.2 (by simp)
    have hxy : x = y := by
      have hx' := hx
      have hy' := hy
      rw [List.mem_cons] at hx hy
      rcases hx with rfl | hx
      · rfl
      · rcases hy with rfl | hy
        · rfl
        · have h1 := hb.1 x hx
          have h2 := ha.1 y hy
          exact hf x (by simp) y hy' (by omega)
    subst hxy
    rw [perm_by ha.2 hb.2 (fun u hu v hv e => hf u (by simp [hu]) v (by simp [hv]) e) ((List.perm_cons x).1 h)]
theorem perm_pw {π : List Int} {n : Nat} (hp : permB π n = true) : π.Pairwise fun x y => ¬ idxI π y < idxI π x := by
  rw [List.pairwise_iff_getElem]
  intro i j hi hj hij
  rw [idxI_idxOf (List.getElem_mem hj), idxI_idxOf (List.getElem_mem hi), perm_idx hp hi, perm_idx hp hj]
  omega
/-- Writers in the order's order are the order's row. -/
theorem rowS_sorted {H : List Txn} {π l : List Int} {k : Int} (hp : permB π H.length = true) (h1 : l.Perm (intsN (wrsL H k))) (h2 : l.Pairwise fun x y => idxI π x ≤ idxI π y) : l = (rowS H π k).l := by
  replace h2 : l.Pairwise fun x y => ¬ idxI π y < idxI π x := h2.imp fun h => by omega
  have hpm := h1.trans (rowS_perm hp k).symm
  refine perm_by h2 ((perm_pw hp).sublist List.filter_sublist) (fun x hx y hy e => ?_) hpm
  have gx := (List.mem_filter.1 (hpm.mem_iff.1 hx)).1
  have gy := (List.mem_filter.1 (hpm.mem_iff.1 hy)).1
  rw [idxI_idxOf gx, idxI_idxOf gy] at e
  have e1 := List.getElem_idxOf (List.idxOf_lt_length_of_mem gx)
  have e2 := List.getElem_idxOf (List.idxOf_lt_length_of_mem gy)
  have : π[π.idxOf x]'(List.idxOf_lt_length_of_mem gx) = π[π.idxOf y]'(List.idxOf_lt_length_of_mem gy) := by simp only [show π.idxOf x = π.idxOf y by omega]
  rw [e1, e2] at this
  exact this
/-- An order, put in order, is all numbers from 0 on. -/
theorem permB_sort {π : List Int} {n : Nat} (hn : π.length = n) : permB π n = decide (sortI π = natI (List.range n)) := by
  rw [Bool.eq_iff_iff, decide_eq_true_eq]
  constructor
  · intro hp
    refine rise_perm (sortI_rise _) (natI_rise List.pairwise_lt_range) ((sortI_perm π).trans ?_)
    refine (List.perm_ext_iff_of_nodup (perm_nodup hp) (natI_nodup List.pairwise_lt_range)).2 fun x => ?_
    rw [natI_mem]
    constructor
    · intro hx
      obtain ⟨i, hi, e⟩ := List.getElem_of_mem hx
      have := perm_bd hp hi
      exact ⟨x.toNat, List.mem_range.2 (by omega), by omega⟩
    · rintro ⟨m, hm, rfl⟩
      exact perm_has hp (List.mem_range.1 hm)
  · intro he
    have hp : π.Perm (natI (List.range n)) := by rw [← he]; exact (sortI_perm π).symm
    unfold permB
    rw [decide_eq_true hn, Bool.true_and, List.all_eq_true]
    intro i hi
    exact List.contains_iff_mem.2 (hp.mem_iff.2 (natI_mem.2 ⟨i, hi, rfl⟩))
theorem sort_at {Q : List Int} {n k : Nat} (h : Q = natI (List.range n)) (hk : k < Q.length) : Q[k] = (k : Int) := by
  subst h
  simp [natI]
theorem sort_all {Q : List Int} (h : ∀ k (hk : k < Q.length), Q[k] = (k : Int)) : Q = natI (List.range Q.length) := by
  refine List.ext_getElem (by simp [natI]) fun i h1 h2 => ?_
  rw [h i h1]
  simp [natI]
def rowsTo (H : List Txn) (π : List Int) (k : Nat) : List SRow := (keysTo H k).map (rowS H π)
theorem rowsTo_skip {H : List Txn} {π : List Int} {k : Nat} (h : wrsL H (k : Int) = []) : rowsTo H π (k + 1) = rowsTo H π k := by unfold rowsTo; rw [keysTo_skip h]
theorem rowsTo_next {H : List Txn} {π : List Int} {k : Nat} (h : wrsL H (k : Int) ≠ []) : rowsTo H π (k + 1) = rowsTo H π k ++ [rowS H π (k : Int)] := by unfold rowsTo; rw [keysTo_next h, List.map_append]; rfl
theorem rowsTo_len (H : List Txn) (π : List Int) (k : Nat) : (rowsTo H π k).length ≤ k := by unfold rowsTo; rw [List.length_map]; exact keysTo_len H k
theorem rowsTo_all {H : List Txn} {π : List Int} (hr : rightH H = true) (hp : permB π H.length = true) : rowsTo H π 16 = rowsL H π := by unfold rowsTo rowsL; rw [if_pos ⟨hr, hp⟩, keysTo_all hr]
theorem rowsL_no {H : List Txn} {π : List Int} (h : rightH H = false ∨ permB π H.length = false) : rowsL H π = [] := by
  unfold rowsL
  rw [if_neg]
  rintro ⟨h1, h2⟩
  rcases h with h | h
  · rw [h] at h1; cases h1
  · rw [h] at h2; cases h2
theorem permB_len {π : List Int} {n : Nat} (h : π.length ≠ n) : permB π n = false := by unfold permB; rw [decide_eq_false h, Bool.false_and]
end Go.Proofs.YtfhnamomiaekdaaGreat

namespace Go.Proofs.YtfhnamomiaekdaaGreat
open Go.RowKit Go.Inq
set_option maxHeartbeats 2000000
attribute [local go_sem ↓] Go.wp_at_zero Go.wp_at_succ

theorem eq_take {α : Type} {l m : List α} {k : Nat} (h1 : k < l.length) (h2 : k < m.length) (ht : l.take k = m.take k) (he : l[k] = m[k]) : l.take (k + 1) = m.take (k + 1) := by
  rw [List.take_succ_eq_append_getElem h1, List.take_succ_eq_append_getElem h2, ht, he]
theorem ne_take {α : Type} {l m : List α} {k : Nat} (h1 : k < l.length) (h2 : k < m.length) (he : l[k] ≠ m[k]) : l ≠ m := by
  rintro rfl; exact he rfl
theorem ret_bool {b c : Bool} (h : b = c) : Ending.returned (.bool b) = .returned (.bool c) := by rw [h]
theorem equal_int (A1 A2 : Option Addr) (c1 c2 : Nat) (l m : List Int) (K1 K2 : Nat → Prop) (w : World) (h1 : IntS w K1 (.slice A1 l.length c1) l) (h2 : IntS w K2 (.slice A2 m.length c2) m) (hl : l.length ≤ 1000000000) (hm : m.length ≤ 1000000000) :
    Calls Tryz.prog 34 #[.slice A1 l.length c1, .slice A2 m.length c2] w fun e w' => e = .returned (.bool (decide (l = m))) ∧ Below w.heap.size w w' := by
  by_cases hlen : l.length = m.length
  · have hne := hide (fun k (g1 : k < l.length) (g2 : k < m.length) => ne_take g1 g2)
    have hst := hide (fun k (g1 : k < l.length) (g2 : k < m.length) => eq_take g1 g2)
    have hend := hide (fun (e : l.take l.length = m.take l.length) => (by rw [List.take_length, hlen, List.take_length] at e; exact e : l = m))
    have hn1 : ((l.length : Int) != (m.length : Int)) = false := by rw [hlen]; exact bne_self_eq_false _
    have hle := hide hlen
    clear hlen
    replace h1 := hide h1
    replace h2 := hide h2
    go_enter Tryz.func34, Tryz.ntmps34
    go_wp2
    go_loopw [13] (fun s13 wr => ∃ k : Nat, k ≤ l.length ∧ s13 = .int .i64 k ∧ Hid (l.take k = m.take k) ∧ Below w.heap.size w wr) (fun s13 _ => l.length - (intOf s13).toNat)
    case atStart => exact ⟨0, Nat.zero_le _, by go_num, hide (by simp), Below.refl _ _⟩
    case round =>
      obtain ⟨k, hk, rfl, htk, hb⟩ := hrel
      have hk1 : (0 : Int) ≤ (k : Int) := Int.natCast_nonneg _
      by_cases hlt : k < l.length
      · have hi2 : (k : Int) < (l.length : Int) := by omega
        have g1 : k < m.length := by rw [← hle.out]; exact hlt
        have hi3 : (k : Int) < (m.length : Int) := by omega
        obtain ⟨b1, o1, rfl, x0, x1⟩ := h1.out.at_ hlt
        obtain ⟨b2, o2, rfl, y0, y1⟩ := h2.out.at_ g1
        replace x1 := (hb.cell (p := ⟨b1, o1 + k, none⟩) (block_lt_of_cell x1)).trans x1
        replace y1 := (hb.cell (p := ⟨b2, o2 + k, none⟩) (block_lt_of_cell y1)).trans y1
        have hn := hide (hne.out k hlt g1)
        have hs := hide (hst.out k hlt g1 htk.out)
        generalize l[k] = x at *
        generalize m[k] = y at *
        cases hxy : (x != y) with
        | true =>
          have hr := hide (hn.out (by simpa using hxy))
          have hr2 : Hid (decide (l = m) = false) := hide (decide_eq_false hr.out)
          clear hn hs hr x0 y0
          go_wp2
          go_quiet (fail)
          go_wp2
          go_ret
          exact ⟨ret_bool hr2.out.symm, hb.trans ⟨rfl, rfl, rfl, Nat.le_refl _, fun _ _ => rfl⟩⟩
        | false =>
          have hr := hide (hs.out (by simpa using hxy))
          clear hn hs x0 y0
          go_wp2
          go_quiet (fail)
          go_wp2
          go_roundw
          case rel => exact ⟨k + 1, by omega, by go_num, hr, hb.trans ⟨rfl, rfl, rfl, Nat.le_refl _, fun _ _ => rfl⟩⟩
          case measure => simp [intOf]; omega
      · obtain rfl : k = l.length := by omega
        have hr2 : Hid (decide (l = m) = true) := hide (decide_eq_true (hend.out htk.out))
        go_wp2
        go_ret
        exact ⟨ret_bool hr2.out.symm, hb⟩
  · have hn1 : ((l.length : Int) != (m.length : Int)) = true := bne_iff_ne.2 (by omega)
    have hr2 : Hid (decide (l = m) = false) := hide (decide_eq_false fun e => hlen (by rw [e]))
    clear hlen
    go_enter Tryz.func34, Tryz.ntmps34
    go_wp2
    go_ret
    exact ⟨ret_bool hr2.out.symm, Below.refl _ _⟩
end Go.Proofs.YtfhnamomiaekdaaGreat

namespace Go.Proofs.YtfhnamomiaekdaaGreat
open Go.RowKit Go.Inq
set_option maxHeartbeats 4000000
attribute [local go_sem ↓] Go.wp_at_zero Go.wp_at_succ

def rightB (H : List Txn) (π : List Int) : Bool := rightH H && permB π H.length
/-- Numbers gone through: each once, below n. -/
structure OrdI (n : Nat) (l : List Int) : Prop where
  nd : l.Nodup
  bd : ∀ x ∈ l, 0 ≤ x ∧ x < (n : Int)
theorem OrdI.snoc {n : Nat} {l : List Int} {x : Int} (h : OrdI n l) (h0 : 0 ≤ x) (h1 : x < (n : Int)) (hc : l.contains x = false) : OrdI n (l ++ [x]) := by
  have hx : x ∉ l := fun hm => by rw [List.contains_iff_mem.2 hm] at hc; cases hc
  refine ⟨?_, fun y hy => ?_⟩
  · rw [List.nodup_append]
    refine ⟨h.nd, by simp, fun a ha b hb e => ?_⟩
    rw [List.mem_singleton] at hb
    subst hb; subst e; exact hx ha
  · rw [List.mem_append, List.mem_singleton] at hy
    rcases hy with hy | rfl
    · exact h.bd y hy
    · exact ⟨h0, h1⟩
theorem ord_perm {n : Nat} {l : List Int} (h : OrdI n l) (hl : l.length = n) : permB l n = true := perm_nd hl h.nd h.bd
theorem perm_out {π : List Int} {n k : Nat} (hk : k < π.length) (h : π[k] < 0 ∨ (n : Int) ≤ π[k]) : permB π n = false := by
  rw [Bool.eq_false_iff]
  intro hp
  have := perm_bd hp hk
  omega
theorem perm_twice {π : List Int} {n k : Nat} (hk : k < π.length) (h : (π.take k).contains π[k] = true) : permB π n = false := by
  rw [Bool.eq_false_iff]
  intro hp
  obtain ⟨i, hi, e⟩ := List.getElem_of_mem (List.contains_iff_mem.1 h)
  rw [List.getElem_take] at e
  rw [List.length_take] at hi
  exact perm_ne hp (show i < k by omega) hk e
/-- Who was seen, as cells. -/
def SeenA (W : World) (Bs : Nat) (l : List Int) : Prop := ∃ cs, Blk W Bs 221 cs ∧ cs.size = 32 ∧ ∀ t : Nat, t < 32 → cs[t]? = some (.bool (l.contains (t : Int)))
theorem SeenA.lt {W : World} {Bs : Nat} {l : List Int} (h : SeenA W Bs l) : Bs < W.heap.size := by
  obtain ⟨cs, h1, _⟩ := h
  exact h1.lt
theorem SeenA.cell {W : World} {Bs : Nat} {l : List Int} (h : SeenA W Bs l) (t : Nat) (ht : t < 32) : W.cell? ⟨Bs, t, none⟩ = some (.bool (l.contains (t : Int))) ∧ W.frozen? ⟨Bs, t, none⟩ = false := by
  obtain ⟨cs, h1, h2, h3⟩ := h
  exact ⟨(h1.cell _).trans (h3 t ht), h1.frozen _⟩
theorem SeenA.store {W : World} {Bs : Nat} {l : List Int} (h : SeenA W Bs l) (t : Nat) (ht : t < 32) : SeenA (W.setCell ⟨Bs, t, none⟩ (.bool true)) Bs (l ++ [(t : Int)]) := by
  obtain ⟨cs, h1, h2, h3⟩ := h
  refine ⟨_, h1.set_ _ _, by simpa using h2, fun u hu => ?_⟩
  rw [Array.getElem?_setIfInBounds, List.contains_append]
  by_cases e : t = u
  · subst e
    rw [if_pos rfl, if_pos (by rw [h2]; omega)]
    simp
  · rw [if_neg e, h3 u hu]
    have : ([(t : Int)].contains (u : Int)) = false := by
      rw [List.contains_cons, List.contains_nil, Bool.or_false, beq_eq_false_iff_ne]; omega
    rw [this, Bool.or_false]
theorem repl32 : (#[.bool false, .bool false, .bool false, .bool false, .bool false, .bool false, .bool false, .bool false, .bool false, .bool false, .bool false, .bool false, .bool false, .bool false, .bool false, .bool false, .bool false, .bool false, .bool false, .bool false, .bool false, .bool false, .bool false, .bool false, .bool false, .bool false, .bool false, .bool false, .bool false, .bool false, .bool false, .bool false] : Array Value) = Array.replicate 32 (.bool false) := rfl
theorem SeenA.new {W : World} {Bs : Nat} (h : Blk W Bs 221 (Array.replicate 32 (.bool false))) : SeenA W Bs [] :=
  ⟨_, h, by simp, fun t ht => by rw [List.contains_nil]; simp [ht]⟩
set_option maxRecDepth 100000 in
theorem serR_any (A : Option Addr) (c : Nat) (H : List Txn) (Ap : Option Addr) (cp : Nat) (π : List Int) (w : World) (h : TxnS w (Old w) (.slice A H.length c) H) (hn : SmallH H) (hπ : IntS w (Old w) (.slice Ap π.length cp) π) (hpl : π.length ≤ 1000000) :
    Calls Tryz.prog 89 #[.agg #[.slice A H.length c], .slice Ap π.length cp] w fun e w' => e = .returned (.bool (rightB H π)) ∧ Below w.heap.size w w' := by
  obtain ⟨W0, hW0⟩ : ∃ W0, w.alloc (.cells #[.slice A H.length c] 24) = W0 := ⟨_, rfl⟩
  have hB := below_allocEq (Below.refl w.heap.size w) hW0 (Nat.le_refl _)
  have k0 := Blk.newEq hW0
  have h0 := hide (h.below hB)
  have hdef : Hid (rightB H π = (rightH H && permB π H.length)) := hide rfl
  have hne := hide (fun (e : π.length ≠ H.length) => (by unfold permB; rw [decide_eq_false e, Bool.false_and] : permB π H.length = false))
  have hord := hide (fun (e : π.length = H.length) (g : OrdI H.length π) => ord_perm g e)
  have hout := hide (fun k (hk : k < π.length) e => perm_out (n := H.length) hk e)
  have htw := hide (fun k (hk : k < π.length) e => perm_twice (n := H.length) hk e)
  replace hn := hide hn
  replace h := hide h
  replace hπ := hide hπ
  have c0 := k0.cell 0
  simp only [List.getElem?_toArray, List.getElem?_cons_zero, List.getElem?_cons_succ] at c0
  go_enter Tryz.func89, Tryz.ntmps89
  go_wp2_with fail
  clear hW0 c0
  refine (right8_any A c H _ h0.out hn.out).mono ?_
  rintro e w1 ⟨rfl, hb1⟩
  have hb := hB.trans (hb1.mono hB.size)
  replace k0 := k0.below hb1 k0.lt
  clear hb1 hB h0
  cases hr : rightH H with
  | false =>
    have hx : Hid (rightB H π = false) := hide (by rw [hdef.out, hr]; rfl)
    clear hr hdef hne hord hout htw
    go_wp2
    go_ret
    exact ⟨ret_bool hx.out.symm, hb⟩
  | true =>
    have h32 : H.length ≤ 32 := ((rightH_iff H).1 hr).1
    have hdx : Hid (rightB H π = permB π H.length) := hide (by rw [hdef.out, hr]; rfl)
    have c0 := k0.cell 0
    simp only [List.getElem?_toArray, List.getElem?_cons_zero, List.getElem?_cons_succ] at c0
    clear hdef hr
    by_cases hlen : π.length = H.length
    · have hz1 : ((π.length : Int) != (H.length : Int)) = false := by rw [hlen]; exact bne_self_eq_false _
      replace hord := hide (hord.out hlen)
      have hl32 : π.length ≤ 32 := by omega
      have hll := hide hlen
      clear hne hlen
      go_upto_region 4 with fail
      rw [repl32]
      obtain ⟨W2, hW2⟩ : ∃ W2, w1.alloc (.cells (Array.replicate 32 (.bool false)) 221) = W2 := ⟨_, rfl⟩
      rw [hW2]
      have hB2 := below_allocEq (Below.refl w1.heap.size w1) hW2 (Nat.le_refl _)
      have hs2 := SeenA.new (Blk.newEq hW2)
      have hb2 := hb.trans (hB2.mono hb.size)
      have hw1 := hb.size
      clear hW2 hB2 hb k0 c0
      generalize w1.heap.size = Bs at *
      go_wp2_with fail
      go_loopw [21] (fun s21 wr => ∃ k : Nat, k ≤ π.length ∧ s21 = .int .i64 k ∧ SeenA wr Bs (π.take k) ∧ Hid (OrdI H.length (π.take k)) ∧ Below w.heap.size w wr) (fun s21 _ => π.length - (intOf s21).toNat)
      case atStart => exact ⟨0, Nat.zero_le _, by go_num, by simpa using hs2, hide ⟨by simp, fun x hx => by simp at hx⟩, hb2⟩
      case round =>
        clear hs2 hb2
        obtain ⟨k, hk, rfl, hs, ho, hb⟩ := hrel
        have hk1 : (0 : Int) ≤ (k : Int) := Int.natCast_nonneg _
        by_cases hlt : k < π.length
        · have hi2 : (k : Int) < (π.length : Int) := by omega
          obtain ⟨b, off, rfl, hbK, d0'⟩ := hπ.out.at_ hlt
          have d0 := (hb.cell (p := ⟨b, off + k, none⟩) hbK).trans d0'
          clear d0' hbK
          have h1 := hide (hout.out k hlt)
          have h2 := hide (htw.out k hlt)
          have hsn := hide (take_snoc' hlt)
          have hos := hide (fun e0 e1 e2 => ho.out.snoc (x := π[k]'hlt) e0 e1 e2)
          generalize π[k] = x at *
          by_cases q1 : x < 0
          · have q1b : decide (x < 0) = true := decide_eq_true q1
            have hx : Hid (rightB H π = false) := hide (by rw [hdx.out, h1.out (.inl q1)])
            clear q1 h1 h2 hsn hos ho
            go_wp2
            go_ret
            exact ⟨ret_bool hx.out.symm, hb⟩
          · have q1b : decide (x < 0) = false := decide_eq_false q1
            by_cases q2 : (π.length : Int) ≤ x
            · have q2b : decide (x ≥ (π.length : Int)) = true := decide_eq_true q2
              have hx : Hid (rightB H π = false) := hide (by rw [hdx.out, h1.out (.inr (by rw [← hll.out]; exact q2))])
              clear q1 q2 h1 h2 hsn hos ho
              go_wp2
              go_ret
              exact ⟨ret_bool hx.out.symm, hb⟩
            · have q2b : decide (x ≥ (π.length : Int)) = false := decide_eq_false q2
              obtain ⟨t, rfl⟩ : ∃ t : Nat, x = t := ⟨x.toNat, by omega⟩
              have q2c : decide (π.length ≤ t) = false := decide_eq_false (by omega)
              have q1c : decide ((t : Int) < 0) = false := decide_eq_false (by omega)
              clear q2b q1b
              have ht32 : t < 32 := by omega
              have hti : (t : Int) < 32 := by omega
              have ht0 : (0 : Int) ≤ (t : Int) := Int.natCast_nonneg _
              obtain ⟨g1, g2⟩ := hs.cell t ht32
              have hss := hide (hs.store t ht32)
              rw [← hsn.out] at hss
              have hlx : (t : Int) < (H.length : Int) := by rw [← hll.out]; omega
              cases hc : (π.take k).contains (t : Int) with
              | true =>
                rw [hc] at g1
                have hx : Hid (rightB H π = false) := hide (by rw [hdx.out, h2.out hc])
                clear q1 q2 h1 h2 hsn hos ho hc hss
                go_wp2
                go_ret
                exact ⟨ret_bool hx.out.symm, hb⟩
              | false =>
                rw [hc] at g1
                have ho2 := hos.out (by omega) hlx hc
                rw [← hsn.out] at ho2
                replace ho2 := hide ho2
                have hb5 := hb.setCell (p := ⟨Bs, t, none⟩) hw1 (.bool true)
                clear q1 q2 h1 h2 hsn hos ho hc
                go_wp2
                go_roundw
                case rel => exact ⟨k + 1, by omega, by go_num, hss.out, ho2, hb5⟩
                case measure => simp [intOf]; omega
        · obtain rfl : k = π.length := by omega
          rw [List.take_length] at ho
          have hx : Hid (rightB H π = true) := hide (by rw [hdx.out, hord.out ho.out])
          go_wp2
          go_ret
          exact ⟨ret_bool hx.out.symm, hb⟩
    · have hz1 : ((π.length : Int) != (H.length : Int)) = true := bne_iff_ne.2 (by omega)
      have hx : Hid (rightB H π = false) := hide (by rw [hdx.out, hne.out hlen])
      clear hlen hne hord hout htw
      go_wp2
      go_ret
      exact ⟨ret_bool hx.out.symm, hb⟩
end Go.Proofs.YtfhnamomiaekdaaGreat

namespace Go.Proofs.YtfhnamomiaekdaaGreat
open Go.RowKit Go.Inq

def tk2 : List It := [⟨0, -1⟩, ⟨1, -1⟩]
def exS : List Txn := [⟨0, [0], tk2⟩, ⟨1, [1], tk2⟩]
def exL : List Txn := [⟨0, [0], [⟨0, -1⟩]⟩, ⟨1, [0], [⟨0, -1⟩]⟩]
theorem exS_keys : keysL exS = [0, 1] := by
  rw [keysL_16 (by decide)]
  kernel_rfl
theorem exL_keys : keysL exL = [0] := by
  rw [keysL_16 (by decide)]
  kernel_rfl
theorem exS_rows : rowsL exS [0, 1] = [⟨0, [0]⟩, ⟨1, [1]⟩] := by
  unfold rowsL
  rw [if_pos ⟨by kernel_rfl, by kernel_rfl⟩, exS_keys]
  kernel_rfl
theorem exL_rows : rowsL exL [0, 1] = [⟨0, [0, 1]⟩] := by
  unfold rowsL
  rw [if_pos ⟨by kernel_rfl, by kernel_rfl⟩, exL_keys]
  kernel_rfl
theorem exS_right : rightS exS [⟨0, [0]⟩, ⟨1, [1]⟩] = true := by rw [← exS_rows]; exact rowsL_right (by kernel_rfl) (by kernel_rfl)
theorem exL_right : rightS exL [⟨0, [0, 1]⟩] = true := by rw [← exL_rows]; exact rowsL_right (by kernel_rfl) (by kernel_rfl)
theorem exS_check : checkS exS [⟨0, [0]⟩, ⟨1, [1]⟩] = true := by
  unfold checkS
  rw [exS_right]
  kernel_rfl
theorem exL_check : checkS exL [⟨0, [0, 1]⟩] = false := by
  unfold checkS
  rw [exL_right]
  kernel_rfl
theorem exL_cho : choS exL [⟨0, [0, 1]⟩] = [⟨0, 0, 1⟩] := by
  unfold choS
  rw [if_pos exL_right]
  kernel_rfl
theorem exS_ser01 : checkB exS [0, 1] = false := by kernel_rfl
theorem exS_ser10 : checkB exS [1, 0] = false := by kernel_rfl
end Go.Proofs.YtfhnamomiaekdaaGreat

namespace Go.Proofs.YtfhnamomiaekdaaGreat
open Go.RowKit Go.Inq
set_option maxHeartbeats 4000000
attribute [local go_sem ↓] Go.wp_at_zero Go.wp_at_succ

theorem cmp_any (x y : Int) (w : World) : Calls Tryz.prog 49 #[.int .i64 x, .int .i64 y] w fun e w' => e = .returned (.int .i64 (Lib.compareInt x y)) ∧ w' = w := Go.Proofs.Tryz.cmp_Compare_int x y w
theorem rows1_any (x y : Int) (Bo : Nat) (Ao : Option Addr) (co : Nat) (π : List Int) (K : Nat → Prop) (W : World) (hc : W.cell? ⟨Bo, 0, none⟩ = some (.slice Ao π.length co)) (hπ : IntS W K (.slice Ao π.length co) π) (hn : π.length ≤ 1000000) :
    Calls Tryz.prog 48 #[.int .i64 x, .int .i64 y, .pointer (some ⟨Bo, 0, none⟩)] W fun e w' => e = .returned (.int .i64 (Lib.compareInt (idxI π x) (idxI π y))) ∧ ∃ q, w' = W.drewN q := by
  have hca := hide (fun W' z (hq : IntS W' K (.slice Ao π.length co) π) => (index_int Ao co π z K W' hq (by unfold maxLen; omega)).mono fun _ _ h => (⟨h.1, h.2.symm⟩ : _ ∧ _))
  have hcc := hide (fun W' => cmp_any (idxI π x) (idxI π y) W')
  replace hπ := hide hπ
  go_enter Tryz.func48, Tryz.ntmps48
  go_wp2_with fail
  go_quiet ((first | (go_at_call 44; exact Calls.quiet_of_same (hca.out _ _ (hπ.out.keep (Agree.drewN _ _ _) (fun _ h => h)))) | (go_at_call 49; exact Calls.quiet_of_same (hcc.out _))))
  go_wp2
  go_ret
  exact ⟨rfl, _, rfl⟩
theorem permIn_all {d d' : Array Int} (h : Go.Sort.PermIn 0 d.size d d') : d'.toList.Perm d.toList := by
  obtain ⟨hs, _, hp⟩ := h
  rw [Array.extract_size, ← hs, Array.extract_size] at hp
  exact hp
theorem sortedIn_pw {lt : Int → Int → Bool} {d : Array Int} (h : Go.Sort.SortedIn lt 0 d.size d) : d.toList.Pairwise fun x y => lt y x = false := by
  rw [List.pairwise_iff_getElem]
  intro i j hi hj hij
  have hj' : j < d.size := by simpa using hj
  have hi' : i < d.size := by omega
  have := h i j (Nat.zero_le _) hij hj'
  rw [getElem!_pos d j hj', getElem!_pos d i hi'] at this
  exact this
theorem swo_idx (f : Int → Int) : Go.Sort.SWO (Go.Proofs.ltOf fun x y => Lib.compareInt (f x) (f y)) := by
  have hl : ∀ x y, Go.Proofs.ltOf (fun x y => Lib.compareInt (f x) (f y)) x y = decide (f x < f y) := fun x y => by
    unfold Go.Proofs.ltOf Lib.compareInt
    by_cases h1 : f x < f y
    · simp [h1]
    · by_cases h2 : f y < f x <;> simp [h1, h2]
  exact ⟨fun x => by rw [hl]; simp, fun x y z h1 h2 => by rw [hl] at *; simp at *; omega, fun x y z h1 h2 => by rw [hl] at *; simp at *; omega⟩
theorem swo_lt (f : Int → Int) (x y : Int) : Go.Proofs.ltOf (fun x y => Lib.compareInt (f x) (f y)) x y = decide (f x < f y) := by
  unfold Go.Proofs.ltOf Lib.compareInt
  by_cases h1 : f x < f y
  · simp [h1]
  · by_cases h2 : f y < f x <;> simp [h1, h2]
theorem sortF_any (base : Nat) (A : Option Addr) (c : Nat) (l : List Int) (Bo : Nat) (Ao : Option Addr) (co : Nat) (π : List Int) (w : World) (h : OwnI w base (.slice A l.length c) l) (hl : l.length < 4611686018427387904)
    (hBo : Bo < base) (hc : w.cell? ⟨Bo, 0, none⟩ = some (.slice Ao π.length co)) (hπ : IntS w (fun b => b < base) (.slice Ao π.length co) π) (hn : π.length ≤ 1000000) :
    Calls Tryz.prog 47 #[.slice A l.length c, .func (.func 48) #[] #[.pointer (some ⟨Bo, 0, none⟩)]] w fun e w' => e = .returned (.tuple #[]) ∧
      (∃ l', l'.Perm l ∧ l'.Pairwise (fun x y => idxI π x ≤ idxI π y) ∧ OwnI w' base (.slice A l.length c) l') ∧ Below base w w' := by
  unfold OwnI at h
  rw [flat_encI] at h
  by_cases hv : (Value.slice A l.length c) = .slice none 0 0
  · injection hv with h1 h2 h3
    subst h1 h3
    have : l = [] := List.eq_nil_of_length_eq_zero h2
    subst this
    refine (Go.Proofs.Tryz.slices_SortFunc_none (α := Int) none 0 _ w).mono ?_
    rintro e w' ⟨rfl, rfl⟩
    exact ⟨rfl, ⟨[], List.Perm.refl _, List.Pairwise.nil, World.ownsRow_nil _ _ _ _⟩, Below.refl _ _⟩
  · obtain ⟨g, cap, hv', hbg, hgl, hnn, hm, _, hH⟩ := Go.Lib.holds_of_ownsRow h hv
    injection hv' with h1 h2 h3
    subst h1 h3
    have hW : ∀ (n : Nat) (d' : Array Int) (os : Array Obj), Below base w (sortWorld (Value.int .i64) w g 0 n d' os) := fun n d' os => by
      unfold sortWorld
      have hb2 := Go.Lib.below_putRow (enc := Value.int .i64) (q := n) (d := d') (Below.refl base w) hbg
      exact hb2.trans ((below_grow _ os).mono (by have := hb2.size; exact Nat.le_trans (by omega) this))
    have hcmp : CmpLays1 Tryz.prog 48 #[.pointer (some ⟨Bo, 0, none⟩)] (Value.int .i64) (fun x y => Lib.compareInt (idxI π x) (idxI π y)) g 0 l.toArray.size w := fun m os dk _ x y => by
      have hb := hW m dk os
      refine (rows1_any x y Bo Ao co π (fun b => b < base) _ ((hb.cell (p := ⟨Bo, 0, none⟩) hBo).trans hc) (IntS.keep hπ (Agree.below hb fun b h => h) (fun b h => h)) hn).mono ?_
      rintro e w' ⟨he, q, hq⟩
      exact ⟨he, q, #[], by rw [hq, Go.Sort.grow_empty]⟩
    refine (Go.Proofs.Tryz.slices_SortFunc (Value.int .i64) (fun _ => rfl) (fun x y => Lib.compareInt (idxI π x) (idxI π y)) (swo_idx (idxI π)) 48 #[.pointer (some ⟨Bo, 0, none⟩)] g 0 c l.toArray w (enters_of Tryz.func48 (by kernel_rfl) rfl) hcmp hH hgl (by simpa using hl)).mono ?_
    rintro e w' ⟨rfl, d', n, os, hp, hs, rfl⟩
    have hp2 := permIn_all hp
    have hsz : d'.size = l.toArray.size := hp.1
    have hsz2 : d'.toList.length = l.length := by simpa using hsz
    have hs2 := sortedIn_pw (by rw [hsz]; exact hs)
    have hr := Go.Lib.ownsRow_putRow (q := n) (k := l.length) h hsz2 (Nat.le_refl _)
    rw [List.take_of_length_le (by rw [hsz2]; exact Nat.le_refl _)] at hr
    have hbw := hW n d' os
    refine ⟨rfl, ⟨d'.toList, by simpa using hp2, hs2.imp fun hlt => ?_, ?_⟩, hbw⟩
    · rw [swo_lt] at hlt
      have := of_decide_eq_false hlt
      omega
    · unfold OwnI
      rw [flat_encI, hsz2]
      have hz := (hr.lt g rfl).2
      unfold sortWorld
      have := own_below hr (below_grow _ os) (Nat.le_refl _)
      simpa using this
end Go.Proofs.YtfhnamomiaekdaaGreat

namespace Go.Proofs.YtfhnamomiaekdaaGreat
open Go.RowKit Go.Inq
set_option maxHeartbeats 4000000
attribute [local go_sem ↓] Go.wp_at_zero Go.wp_at_succ

theorem natI_intsN (l : List Nat) : natI l = intsN l := rfl
set_option maxRecDepth 100000 in
theorem rightS_any (A : Option Addr) (c : Nat) (H : List Txn) (Ar : Option Addr) (cr : Nat) (R : List SRow) (w : World) (h : TxnS w (Old w) (.slice A H.length c) H) (hn : SmallH H) (hR : RowS w (Old w) (.slice Ar R.length cr) R) (hf : FitS R) :
    Calls Tryz.prog 9 #[.agg #[.slice A H.length c], .slice Ar R.length cr] w fun e w' => e = .returned (.bool (rightS H R)) ∧ Below w.heap.size w w' := by
  obtain ⟨W0, hW0⟩ : ∃ W0, w.alloc (.cells #[.slice A H.length c] 24) = W0 := ⟨_, rfl⟩
  have hB := below_allocEq (Below.refl w.heap.size w) hW0 (Nat.le_refl _)
  have k0 := Blk.newEq hW0
  have h0 := hide (h.below hB)
  have hno := hide (rightS_no (H := H) (R := R))
  have hdone := hide (fun n (g : RtI H R 16 n) hr => g.done hr)
  have hRl := hf.1
  have hfl := hide (fun i (hi : i < R.length) => hf.2 _ (List.getElem_mem hi))
  replace hf := hide hf
  replace hn := hide hn
  replace h := hide h
  replace hR := hide hR
  have c0 := k0.cell 0
  simp only [List.getElem?_toArray, List.getElem?_cons_zero, List.getElem?_cons_succ] at c0
  go_enter Tryz.func9, Tryz.ntmps9
  go_wp2_with fail
  clear hW0 c0
  refine (right8_any A c H _ h0.out hn.out).mono ?_
  rintro e w1 ⟨rfl, hb1⟩
  replace k0 := k0.below hb1 k0.lt
  have hb := hB.trans (hb1.mono hB.size)
  clear hb1 hB h0
  cases hr : rightH H with
  | false =>
    have hx := hide (hno.out hr)
    clear hr hno hdone
    go_wp2
    go_ret
    exact ⟨ret_bool hx.out.symm, hb⟩
  | true =>
    replace hdone := hide (fun n g => hdone.out n g hr)
    replace hr := hide hr
    clear hno
    go_wp2_with fail
    go_loopw [5, 11] (fun s5 s11 wr => ∃ n k : Nat, k ≤ 16 ∧ s5 = .int .i64 n ∧ s11 = .int .i64 k ∧ Hid (RtI H R k n) ∧ n ≤ 16 ∧ Below w.heap.size w wr ∧ Blk wr w.heap.size 24 #[.slice A H.length c]) (fun _ s11 _ => 16 - (intOf s11).toNat)
    case atStart => exact ⟨0, 0, Nat.zero_le _, by go_num, by go_num, hide (RtI.start _ _), Nat.zero_le _, hb, k0⟩
    case round =>
      clear hb k0
      obtain ⟨n, k, hk, rfl, rfl, hrt, hn16, hb, k0⟩ := hrel
      have hi1 : (0 : Int) ≤ (k : Int) := Int.natCast_nonneg _
      have hi3 : (0 : Int) ≤ (n : Int) := Int.natCast_nonneg _
      have c0 := k0.cell 0
      simp only [List.getElem?_toArray, List.getElem?_cons_zero, List.getElem?_cons_succ] at c0
      by_cases hlt : k < 16
      · have hi2 : (k : Int) < 16 := by omega
        go_wp2_with fail
        clear c0
        refine (writersS_any A c H k _ (h.out.below hb) hn.out).mono ?_
        rintro e wl ⟨vl, rfl, hLO, hbl⟩
        have hskip := hide (fun e => hrt.out.skip (k := k) e)
        have hnext := hide (fun e => hrt.out.next (k := k) e)
        have hfew := hide (fun e => hrt.out.few (k := k) hlt e)
        have hkey := hide (fun e => hrt.out.key (k := k) hlt e)
        have hrow := hide (fun e => hrt.out.row (k := k) hlt e)
        have hLn := wrsL_len H k
        have h32 : H.length ≤ 1000000 := hn.out.1
        have hz0 := hide (intsN_len (wrsL H (k : Int)))
        have hWe := hide (fun (e : (intsN (wrsL H (k : Int))).length = 0) => (by rw [intsN_len] at e; exact List.eq_nil_of_length_eq_zero e : wrsL H (k : Int) = []))
        have hWn := hide (fun (e : (intsN (wrsL H (k : Int))).length ≠ 0) => (by rintro e'; rw [intsN_len, e'] at e; exact e rfl : wrsL H (k : Int) ≠ []))
        have hLl : (intsN (wrsL H (k : Int))).length ≤ 1000000 := by rw [intsN_len]; omega
        clear hLn
        replace h32 := hide h32
        generalize intsN (wrsL H (k : Int)) = L at *
        obtain ⟨Al, cl, rfl⟩ := hLO.form
        have hb2 := hb.trans (hbl.mono hb.size)
        replace k0 := k0.below hbl k0.lt
        have hLS := hLO.sl (K := Old wl) (fun g h1 h2 => h2)
        clear hLO hbl hb
        have c0 := k0.cell 0
        simp only [List.getElem?_toArray, List.getElem?_cons_zero, List.getElem?_cons_succ] at c0
        by_cases hL0 : L.length = 0
        · have hz1 : ((L.length : Int) == 0) = true := by rw [hL0]; rfl
          have hsk := hide (hskip.out (hWe.out hL0))
          clear hL0 hskip hnext hfew hkey hrow hz0 hWe hWn
          go_wp2
          go_roundw
          case rel => exact ⟨n, k + 1, by omega, by go_num, by go_num, hsk, hn16, hb2, k0⟩
          case measure => simp [intOf]; omega
        · have hz1 : ((L.length : Int) == 0) = false := by
            rw [beq_eq_false_iff_ne]; omega
          have hwn := hWn.out hL0
          replace hnext := hide (hnext.out hwn)
          replace hfew := hide (hfew.out hwn)
          replace hkey := hide (hkey.out hwn)
          replace hrow := hide (hrow.out hwn)
          have hle := hrt.out.le
          clear hL0 hwn hskip hz0 hWe hWn
          by_cases hnl : n = R.length
          · have hx := hide (hfew.out hnl)
            have hz2 : ((n : Int) == (R.length : Int)) = true := by rw [hnl]; exact beq_self_eq_true _
            clear hnl hle hfew hkey hrow hnext hrt
            go_wp2
            go_ret
            exact ⟨ret_bool hx.out.symm, hb2⟩
          · have hz2 : ((n : Int) == (R.length : Int)) = false := by rw [beq_eq_false_iff_ne]; omega
            have hlt2 : n < R.length := by omega
            have hi4 : (n : Int) < (R.length : Int) := by omega
            obtain ⟨br, or_, Ay, cy, rfl, _, d0, d1, hy⟩ := (hR.out.below hb2).at_ hlt2
            replace hnext := hide (hnext.out hlt2)
            replace hkey := hide (hkey.out hlt2)
            replace hrow := hide (hrow.out hlt2)
            have hyl := hfl.out n hlt2
            clear hnl hle hfew hrt
            generalize R[n] = row at *
            obtain ⟨rk, rl⟩ := row
            dsimp only at *
            by_cases hke : rk = (k : Int)
            · have hz3 : (rk != (k : Int)) = false := by rw [hke]; exact bne_self_eq_false _
              replace hnext := hide (hnext.out hke)
              clear hke hkey
              replace hy := hide hy
              go_wp2_with fail
              refine (valuesI_any Ay rl.length cy _).mono ?_
              rintro e w3 ⟨rfl, rfl⟩
              have hb3 := hb2.alloc hb2.size (.cells #[.slice Ay rl.length cy] 26)
              have k3 := k0.alloc (.cells #[.slice Ay rl.length cy] 26)
              have kv : Blk (wl.alloc (.cells #[.slice Ay rl.length cy] 26)) wl.heap.size 26 #[.slice Ay rl.length cy] := Blk.new _ _ _
              have hy3 := hide (hy.out.below ((Below.refl wl.heap.size wl).alloc (Nat.le_refl _) (.cells #[.slice Ay rl.length cy] 26)))
              have hL3 := hide (hLS.below ((Below.refl wl.heap.size wl).alloc (Nat.le_refl _) (.cells #[.slice Ay rl.length cy] 26)))
              generalize wl.alloc (.cells #[.slice Ay rl.length cy] 26) = w3 at *
              clear d0 d1 c0 hy hb2 k0 hLS
              have cv := kv.cell 0
              simp only [List.getElem?_toArray, List.getElem?_cons_zero] at cv
              go_wp2_with fail
              refine (sortedI_any Ay wl.heap.size cy rl hyl w3 cv hy3.out).mono ?_
              rintro e w4 ⟨v4, rfl, ho4, hb4⟩
              have hsl : (rl.mergeSort fun x y => decide (x ≤ y)).length = rl.length := List.length_mergeSort rl
              have hrw := hide (show sortI rl = (rl.mergeSort fun x y => decide (x ≤ y)) from rfl)
              rw [hrw.out] at hnext hrow
              generalize (rl.mergeSort fun x y => decide (x ≤ y)) = Q at *
              obtain ⟨A4, c4, rfl⟩ := ho4.form
              have hS4 := ho4.sl (K := Old w4) (fun g h1 h2 => h2)
              have hL4 := hL3.out.below hb4
              have hQl : Q.length ≤ 1000000000 := by omega
              have hb5 := hb3.trans (hb4.mono hb3.size)
              have k5 := k3.below hb4 k3.lt
              clear cv kv k3 hb3 hb4 ho4 hL3 hy3 hrw
              replace hsl := hide hsl
              go_wp2_with fail
              refine (equal_int Al A4 cl c4 L Q _ _ w4 hL4 hS4 (by omega) hQl).mono ?_
              rintro e w6 ⟨rfl, hb6⟩
              have hb7 := hb5.trans (hb6.mono hb5.size)
              have k7 := k5.below hb6 k5.lt
              by_cases hE : L = Q
              · have hz5 : decide (L = Q) = true := decide_eq_true hE
                rw [hz5]
                have hrt2 := hide (hnext.out hE.symm)
                clear hz5 hE hnext hrow hL4 hS4 hb5 hb6 k5
                go_wp2
                go_roundw
                case rel => exact ⟨n + 1, k + 1, by omega, by go_num, by go_num, hrt2, by have := hrt2.out.n16; omega, hb7, k7⟩
                case measure => simp [intOf]; omega
              · have hz5 : decide (L = Q) = false := decide_eq_false hE
                rw [hz5]
                have hx := hide (hrow.out fun e => hE e.symm)
                clear hz5 hE hnext hrow hL4 hS4 hb5 hb6 k5
                go_wp2
                go_ret
                exact ⟨ret_bool hx.out.symm, hb7⟩
            · have hz3 : (rk != (k : Int)) = true := bne_iff_ne.2 hke
              have hx := hide (hkey.out hke)
              clear hke hkey hnext hrow
              go_wp2
              go_ret
              exact ⟨ret_bool hx.out.symm, hb2⟩
      · obtain rfl : k = 16 := by omega
        have hx := hide (hdone.out n hrt.out)
        have hq : ((n : Int) == (R.length : Int)) = decide (n = R.length) := by
          by_cases e : n = R.length
          · rw [e]; simp
          · rw [decide_eq_false e, beq_eq_false_iff_ne]; omega
        clear hlt
        go_wp2
        go_ret
        exact ⟨ret_bool hx.out.symm, hb⟩
end Go.Proofs.YtfhnamomiaekdaaGreat

namespace Go.Inq
open Go Go.RowKit

/-- Blocks of some types from base on. -/
def TyK (base : Nat) (τs : List TypeId) (w : World) : Nat → Prop := fun b => base ≤ b ∧ ∃ t, t ∈ τs ∧ ∃ cs, Blk w b t cs
section
variable {base : Nat} {τs : List TypeId} {w w' w1 w2 : World}
theorem TyK.lt {b : Nat} (h : TyK base τs w b) : b < w.heap.size := by
  obtain ⟨_, t, _, cs, h⟩ := h
  exact h.lt
theorem TyK.ge {b : Nat} (h : TyK base τs w b) : base ≤ b := h.1
theorem TyK.step (ha : Agree (TyK base τs w) w w') {b : Nat} (h : TyK base τs w b) : TyK base τs w' b := by
  obtain ⟨h1, t, h2, cs, h3⟩ := h
  exact ⟨h1, t, h2, cs, (ha b ⟨h1, t, h2, cs, h3⟩).trans h3⟩
theorem TyK.trans (ha : Agree (TyK base τs w) w w1) (hb : Agree (TyK base τs w1) w1 w2) : Agree (TyK base τs w) w w2 := fun b h => (hb b (TyK.step ha h)).trans (ha b h)
theorem TyK.below {B : Nat} (hb : Below B w w') (hB : w.heap.size ≤ B) : Agree (TyK base τs w) w w' := Agree.below hb fun _ h => Nat.lt_of_lt_of_le h.lt hB
theorem TyK.alloc (o : Obj) : Agree (TyK base τs w) w (w.alloc o) := Agree.alloc (fun _ h => h.lt) o
theorem TyK.off {g : Nat} {t : TypeId} {cs : Array Value} (hk : Blk w g t cs) (ht : t ∉ τs) : ¬ TyK base τs w g := fun h => by
  obtain ⟨_, t', h1, cs', h2⟩ := h
  have := hk.symm.trans h2
  simp at this
  exact ht (this.2 ▸ h1)
theorem TyK.set_ {g i : Nat} {t : TypeId} {cs : Array Value} (hk : Blk w g t cs) (ht : t ∉ τs) (u : Value) : Agree (TyK base τs w) w (w.setCell ⟨g, i, none⟩ u) :=
  Agree.setCell ⟨g, i, none⟩ (TyK.off hk ht) u
theorem TyK.drew : Agree (TyK base τs w) w w.drew := Agree.drew _ _
end
section
variable {α : Type} {size : Nat} {R : World → (Nat → Prop) → List Value → α → Prop} {w w' : World} {K K' : Nat → Prop} {base : Nat} {e : TypeId} {v : Value} {l : List α} {τs : List TypeId}
theorem own_blk {n : Nat} {xs : List Value} (h : w.ownsRow base e size v n xs) {g : Nat} (hg : v.ownBlock = some g) : ∃ cs, Blk w g e cs := by
  rcases h.2 with ⟨h2, _⟩ | ⟨g', cap, cur, h2, _, hh, _⟩
  · rw [h2] at hg; simp [Value.ownBlock] at hg
  · rw [h2] at hg
    simp [Value.ownBlock] at hg
    subst hg
    exact ⟨cur, hh⟩
theorem OwnR.blk (h : OwnR size R w K base e v l) {g : Nat} (hg : v.ownBlock = some g) : ∃ cs, Blk w g e cs := by
  obtain ⟨ys, h1, _⟩ := h
  exact own_blk h1 hg
theorem OwnR.ne (h : OwnR size R w K base e v l) {g : Nat} {t : TypeId} {cs : Array Value} (hk : Blk w g t cs) (ht : t ≠ e) : v.ownBlock ≠ some g := fun hg => by
  obtain ⟨cs', h4⟩ := h.blk hg
  have := hk.symm.trans h4
  simp at this
  exact ht this.2
/-- What holds the same below, and in blocks of those types, keeps it. -/
theorem OwnR.keepT (hR : Stab R) (h : OwnR size R w (TyK base τs w) base e v l) (ha : Agree (TyK base τs w) w w') (hr : ∀ g, v.ownBlock = some g → w'.heap[g]? = w.heap[g]?) : OwnR size R w' (TyK base τs w') base e v l :=
  OwnR.keep hR h ha (fun _ g => TyK.step ha g) hr
theorem OwnR.belowT (hR : Stab R) {B : Nat} (h : OwnR size R w (TyK base τs w) base e v l) (hb : Below B w w') (hB : w.heap.size ≤ B) : OwnR size R w' (TyK base τs w') base e v l :=
  h.keepT hR (TyK.below hb hB) fun g hg => hb.block g (Nat.lt_of_lt_of_le (h.lt g hg).2 hB)
theorem OwnR.allocT (hR : Stab R) (h : OwnR size R w (TyK base τs w) base e v l) (o : Obj) : OwnR size R (w.alloc o) (TyK base τs (w.alloc o)) base e v l := h.belowT hR ((Below.refl _ _).alloc (Nat.le_refl _) o) (Nat.le_refl _)
theorem OwnR.drewT (hR : Stab R) (h : OwnR size R w (TyK base τs w) base e v l) : OwnR size R w.drew (TyK base τs w.drew) base e v l := h.keepT hR TyK.drew fun _ _ => rfl
theorem OwnR.setT (hR : Stab R) (h : OwnR size R w (TyK base τs w) base e v l) {g i : Nat} {t : TypeId} {cs : Array Value} (hk : Blk w g t cs) (h1 : t ∉ τs) (h2 : t ≠ e) (u : Value) : OwnR size R (w.setCell ⟨g, i, none⟩ u) (TyK base τs (w.setCell ⟨g, i, none⟩ u)) base e v l :=
  h.keepT hR (TyK.set_ hk h1 u) fun k hk2 => Below.heap_setCell w ⟨g, i, none⟩ u k (fun e' => h.ne hk h2 (by rw [hk2]; exact congrArg some e'))
/-- A row of the call's own, read over all that is there. -/
theorem OwnR.slOld (hR : Stab R) (h : OwnR size R w (TyK base τs w) base e v l) : SlR size R w (Old w) v l := by
  have h2 : OwnR size R w (Old w) base e v l := OwnR.keep hR h (Agree.refl _ _) (fun _ g => g.lt) fun _ _ => rfl
  exact h2.sl fun g hg => (h.lt g hg).2
theorem own_baseT {base' n : Nat} {xs : List Value} (h : w.ownsRow base e size v n xs) (hb : base' ≤ base) : w.ownsRow base' e size v n xs := by
  refine ⟨h.1, ?_⟩
  rcases h.2 with h2 | ⟨g, cap, cur, hv, hg, r⟩
  · exact .inl h2
  · exact .inr ⟨g, cap, cur, hv, by omega, r⟩
theorem OwnR.baseT (hR : Stab R) {base' : Nat} (h : OwnR size R w (TyK base τs w) base e v l) (hb : base' ≤ base) : OwnR size R w (TyK base' τs w) base' e v l := by
  obtain ⟨ys, h1, h2, h3⟩ := h
  exact ⟨ys, own_baseT h1 hb, h2, fun i cs x e1 e2 => ⟨(h3 i cs x e1 e2).1, hR _ _ _ _ _ _ (h3 i cs x e1 e2).2 (Agree.refl _ _) fun b g => ⟨Nat.le_trans hb g.1, g.2⟩⟩⟩
/-- Read over what is new. -/
theorem OwnR.slNew (hR : Stab R) (h : OwnR size R w (TyK base τs w) base e v l) : SlR size R w (fun b => base ≤ b ∧ b < w.heap.size) v l := by
  have h2 : OwnR size R w (fun b => base ≤ b ∧ b < w.heap.size) base e v l := OwnR.keep hR h (Agree.refl _ _) (fun _ g => ⟨g.1, g.lt⟩) fun _ _ => rfl
  exact h2.sl fun g hg => h.lt g hg
/-- Read over the types' blocks, and its own. -/
theorem OwnR.slT (hR : Stab R) (h : OwnR size R w (TyK base τs w) base e v l) : SlR size R w (TyK base (e :: τs) w) v l := by
  have h2 : OwnR size R w (TyK base (e :: τs) w) base e v l := OwnR.keep hR h (Agree.refl _ _) (fun _ g => by
    obtain ⟨g1, t, g2, g3⟩ := g
    exact ⟨g1, t, List.mem_cons_of_mem _ g2, g3⟩) fun _ _ => rfl
  refine h2.sl fun g hg => ?_
  obtain ⟨cs, h3⟩ := h.blk hg
  exact ⟨(h.lt g hg).1, e, List.mem_cons_self, cs, h3⟩
end
/-- A row of elements told by their cells alone, of the call's own, over its blocks. -/
theorem own_slT {α : Type} {size : Nat} {enc : α → List Value} {w : World} {base : Nat} {e : TypeId} {v : Value} {l : List α} {τs : List TypeId} (h : w.ownsRow base e size v l.length (l.map enc).flatten) (hs : ∀ x, (enc x).length = size) (he : e ∈ τs) : SlR size (Flat enc) w (TyK base τs w) v l := by
  have h2 : OwnR size (Flat enc) w (TyK base τs w) base e v l := OwnR.flat h hs
  refine h2.sl fun g hg => ?_
  obtain ⟨cs, h3⟩ := h2.blk hg
  exact ⟨(h2.lt g hg).1, e, he, cs, h3⟩
/-- append(s, x): s a row of the call's own, x one element just built, which leads to blocks of the call's own. -/
theorem wpList_pushR {P : Program} {W : World} {ops : Array Oper} {rest : List Oper} {o : Oper} {a : Act} {Q : Exit → Act → World → Prop} {α : Type} {R : World → (Nat → Prop) → List Value → α → Prop}
    (hR : Stab R) (hone : ∀ w K cs x, R w K cs x → ∀ u ∈ cs, u.oneCell' = true)
    (hgd : o.guard = none) (s x : Operand) (t : TypeId) (ho : o.op = .call { callee := .builtin .append, args := #[s, x], argTypes := #[t, t] })
    (base : Nat) (e : TypeId) (i : TypeInfo) (z : Value) (size bytes : Nat) (ht : P.underlying t = some (.slice e)) (hi : P.info? e = some i) (hz : i.zero = some z)
    (hsize : i.size = size) (hby : i.bytes = bytes) (hzs : z.cells.size = size) (hsz : 0 < size)
    (τs : List TypeId) (hτ : e ∉ τs) (v : Value) (l : List α) (hs : a.eval s = v) (hown : OwnR size R W (TyK base τs W) base e v l)
    (cs : Array Value) (x0 : α) (hcs : cs.size = size) (hrow : R W (TyK base τs W) cs.toList x0)
    (hx : a.eval x = .slice (some ⟨W.heap.size, 0, none⟩) 1 1) (h63 : l.length + 1 ≤ maxLen) (hbytes : (l.length + 1) * bytes ≤ 140737488355328) (hbase : base ≤ W.heap.size) (w0 : World) (B : Nat) (hB : B ≤ base) (hb : Below B w0 W)
    (h : ∀ v' w', OwnR size R w' (TyK base τs w') base e v' (l ++ [x0]) → Agree (TyK base τs W) W w' → Below B w0 w' → (∀ g, v'.ownBlock = some g → v.ownBlock = some g ∨ W.heap.size ≤ g) → (∀ g t cs, Blk W g t cs → t ≠ e → Blk w' g t cs) → wpList P ops Q rest (a.put o.dst v') w') :
    wpList P ops Q (o :: rest) a (W.alloc (.cells cs e)) := by
  have hown0 := hown
  obtain ⟨ys, h1, h2, h3⟩ := hown
  have hq : ∀ y ∈ ys, y.length = size ∧ ∀ u ∈ y, u.oneCell' = true := fun y hy => by
    obtain ⟨j, hj, rfl⟩ := List.getElem_of_mem hy
    obtain ⟨g1, g2⟩ := h3 j ys[j] (l[j]'(by omega)) (List.getElem?_eq_getElem hj) (List.getElem?_eq_getElem (by omega))
    exact ⟨g1, hone _ _ _ _ g2⟩
  let enc : { y : List Value // y.length = size ∧ ∀ u ∈ y, u.oneCell' = true } → List Value := fun y => y.1
  let ts : List { y : List Value // y.length = size ∧ ∀ u ∈ y, u.oneCell' = true } := ys.pmap Subtype.mk hq
  have hts : ts.map enc = ys := by
    show (ys.pmap Subtype.mk hq).map (fun y => y.1) = ys
    rw [List.map_pmap, List.pmap_eq_map, List.map_id']
  have htl : ts.length = l.length := by rw [← h2, ← hts, List.length_map]
  have hlt := h1.lt
  have hc0 : cs.toList.length = size ∧ ∀ u ∈ cs.toList, u.oneCell' = true := ⟨by simpa using hcs, hone _ _ _ _ hrow⟩
  have hA0 : Agree (TyK base τs W) W (W.alloc (.cells cs e)) := TyK.alloc _
  have hblk : ∀ b, TyK base τs W b → v.ownBlock ≠ some b := fun b hb e' => by
    obtain ⟨cs', g2⟩ := own_blk h1 e'
    exact TyK.off g2 hτ hb
  refine wpList_push (enc := enc) hgd s x t ho base e i z size bytes ht hi hz hsize hby hzs hsz v ts hs (by rw [htl, hts]; exact h1) (fun y => y.2.1) ⟨cs.toList, hc0⟩ cs rfl hx (fun y => y.2.2) (by omega) (by rw [htl]; exact hbytes) hbase w0 B hB hb ?_
  intro v' w' g1 g2 g3 g4
  have hA1 : Agree (TyK base τs W) W w' := hA0.trans (Agree.grown g2 fun b hb => ⟨by have := hb.lt; simp; omega, fun e' => hblk b hb e'.symm⟩)
  rw [List.map_append, hts, List.length_append, htl] at g1
  refine h v' w' ⟨ys ++ [cs.toList], by rw [List.length_append]; exact g1, by simp [h2], fun j y x' e1 e2 => ?_⟩ hA1 g3 ?_ (fun g t cs hk ht => (hk.alloc _).grown g2 fun e' => ?_)
  · by_cases hj : j < ys.length
    · rw [List.getElem?_append_left hj] at e1
      rw [List.getElem?_append_left (by omega)] at e2
      obtain ⟨q1, q2⟩ := h3 j y x' e1 e2
      exact ⟨q1, hR _ _ _ _ _ _ q2 hA1 fun _ g => TyK.step hA1 g⟩
    · rw [List.getElem?_append_right (by omega)] at e1 e2
      have hj0 : j - ys.length = 0 := by
        rcases Nat.eq_zero_or_pos (j - ys.length) with e' | e'
        · exact e'
        · rw [List.getElem?_eq_none (by simp; omega)] at e1; cases e1
      rw [hj0] at e1
      rw [show j - l.length = 0 by omega] at e2
      simp at e1 e2
      subst e1 e2
      exact ⟨hc0.1, hR _ _ _ _ _ _ hrow hA1 fun _ g => TyK.step hA1 g⟩
  · intro g hg
    rcases g4 with e' | e'
    · exact .inl (e' ▸ hg)
    · right
      rw [e'] at hg
      injection hg with hg
      omega
  · obtain ⟨cs', h4⟩ := own_blk h1 e'.symm
    have := hk.symm.trans h4
    simp at this
    exact ht this.2
end Go.Inq

namespace Go.Proofs.YtfhnamomiaekdaaGreat
open Go.RowKit Go.Inq
set_option maxHeartbeats 4000000
attribute [local go_sem ↓] Go.wp_at_zero Go.wp_at_succ

theorem SRowR.one : ∀ (w : World) (K : Nat → Prop) (cs : List Value) (x : SRow), SRowR w K cs x → ∀ u ∈ cs, u.oneCell' = true := by
  rintro w K cs x ⟨A, c, rfl, _⟩ u hu
  simp at hu
  rcases hu with rfl | rfl <;> rfl
theorem infoS21 : (Tryz.prog.info? 30).map (fun i => (i.zero, i.size, i.bytes)) = some (some (.agg #[.int .i64 0, .slice none 0 0]), 2, 32) := by kernel_rfl
/-- Rows of the call's own. -/
def OwnS (w : World) (base : Nat) (v : Value) (l : List SRow) : Prop := OwnR 2 SRowR w (TyK base [3] w) base 30 v l
def OutS (w : World) (l : List SRow) (e : Ending) (w' : World) : Prop := ∃ v, e = .returned v ∧ OwnS w' w.heap.size v l ∧ Below w.heap.size w w'
theorem OwnS.nil (w : World) (base : Nat) : OwnS w base (.slice none 0 0) [] := OwnR.nil _ _ _ _ _ _
theorem OwnS.form {w : World} {base : Nat} {v : Value} {l : List SRow} (h : OwnS w base v l) : ∃ A c, v = .slice A l.length c := OwnR.form h
theorem OwnS.old {w : World} {base : Nat} {v : Value} {l : List SRow} (h : OwnS w base v l) : RowS w (Old w) v l := OwnR.slOld SRowR.stab h
theorem OwnS.below {w w' : World} {base B : Nat} {v : Value} {l : List SRow} (h : OwnS w base v l) (hb : Below B w w') (hB : w.heap.size ≤ B) : OwnS w' base v l := OwnR.belowT SRowR.stab h hb hB
set_option maxRecDepth 100000 in
theorem rowsS_any (A : Option Addr) (c : Nat) (H : List Txn) (Ap : Option Addr) (cp : Nat) (π : List Int) (w : World) (h : TxnS w (Old w) (.slice A H.length c) H) (hn : SmallH H) (hπ : IntS w (Old w) (.slice Ap π.length cp) π) (hpl : π.length ≤ 1000000) :
    Calls Tryz.prog 17 #[.agg #[.slice A H.length c], .slice Ap π.length cp] w (OutS w (rowsL H π)) := by
  obtain ⟨is, his, hq1, hq2, hq3⟩ := info_parts infoS21
  obtain ⟨W0, hW0⟩ : ∃ W0, (w.alloc (.cells #[.slice A H.length c] 24)).alloc (.cells #[.slice Ap π.length cp] 26) = W0 := ⟨_, rfl⟩
  have hB : Below w.heap.size w W0 := by rw [← hW0]; exact ((Below.refl _ w).alloc (Nat.le_refl _) _).alloc (by simp) _
  have k0 : Blk W0 w.heap.size 24 #[.slice A H.length c] := by rw [← hW0]; exact (Blk.new _ _ _).alloc _
  have kO : Blk W0 (w.heap.size + 1) 26 #[.slice Ap π.length cp] := by
    rw [← hW0]
    have := Blk.new (w.alloc (.cells #[.slice A H.length c] 24)) 26 #[.slice Ap π.length cp]
    simpa using this
  have hs0 : W0.heap.size = w.heap.size + 2 := by rw [← hW0]; simp
  have hπ0 := hide (hπ.below hB)
  have hbad := hide (fun e => rowsL_no (H := H) (π := π) e)
  have hpl2 := hide (fun (e : π.length ≠ H.length) => permB_len e)
  have hps := hide (fun (e : π.length = H.length) => permB_sort (π := π) e)
  have hall := hide (fun (e1 : rightH H = true) (e2 : permB π H.length = true) => rowsTo_all e1 e2)
  have hrs := hide (fun (e2 : permB π H.length = true) (k : Int) (l : List Int) => rowS_sorted (H := H) (l := l) (k := k) e2)
  replace hπ := hide hπ
  replace hn := hide hn
  replace h := hide h
  replace hs0 := hide hs0
  have c0 := kO.cell 0
  simp only [List.getElem?_toArray, List.getElem?_cons_zero, List.getElem?_cons_succ] at c0
  go_enter Tryz.func17, Tryz.ntmps17
  go_wp2_with fail
  refine (valuesI_any Ap π.length cp _).mono ?_
  rintro e w3 ⟨rfl, rfl⟩
  obtain ⟨W1, hW1⟩ : ∃ W1, W0.alloc (.cells #[.slice Ap π.length cp] 26) = W1 := ⟨_, rfl⟩
  have hB1 := below_allocEq (Below.refl W0.heap.size W0) hW1 (Nat.le_refl _)
  have kv := Blk.newEq hW1
  have k1 := k0.allocEq hW1
  have kO1 := kO.allocEq hW1
  have hπ1 := hπ0.out.below hB1
  have hb := hB.trans (hB1.mono hB.size)
  have cv := kv.cell 0
  simp only [List.getElem?_toArray, List.getElem?_cons_zero] at cv
  rw [hs0.out] at cv
  rw [hW1]
  clear hW1 hW0 c0 kv k0 kO hB hB1 hπ0
  simp only [hs0.out]
  go_wp2_with fail
  refine (sortedI_any Ap (w.heap.size + 2) cp π hpl W1 cv hπ1).mono ?_
  rintro e w4 ⟨v4, rfl, ho4, hb4⟩
  have hsl : (π.mergeSort fun x y => decide (x ≤ y)).length = π.length := List.length_mergeSort π
  have hrw := hide (show sortI π = (π.mergeSort fun x y => decide (x ≤ y)) from rfl)
  rw [hrw.out] at hps
  generalize (π.mergeSort fun x y => decide (x ≤ y)) = Q at *
  obtain ⟨A4, c4, rfl⟩ := ho4.form
  have hQ := hide (ho4.sl (K := Old w4) (fun g h1 h2 => h2))
  have hb5 := hb.trans (hb4.mono hb.size)
  have k5 := k1.below hb4 k1.lt
  have kO5 := kO1.below hb4 kO1.lt
  have hT5 := hide (h.out.below hb5)
  have c0 := k5.cell 0
  simp only [List.getElem?_toArray, List.getElem?_cons_zero] at c0
  replace hsl := hide hsl
  clear cv k1 kO1 hb hb4 ho4 hπ1 hrw hs0
  go_wp2_with fail
  clear c0
  refine (right8_any A c H _ hT5.out hn.out).mono ?_
  rintro e w6 ⟨rfl, hb6⟩
  have hb7 := hb5.trans (hb6.mono hb5.size)
  have k7 := k5.below hb6 k5.lt
  have kO7 := kO5.below hb6 kO5.lt
  have hQ7 := hide (hQ.out.below hb6)
  clear hb5 hb6 k5 kO5 hQ hT5
  cases hr : rightH H with
  | false =>
    have hx := hide (hbad.out (.inl hr))
    clear hr hbad hpl2 hps hall hrs
    go_wp2
    go_ret
    exact ⟨_, rfl, by rw [hx.out]; exact OwnS.nil _ _, hb7⟩
  | true =>
    replace hall := hide (hall.out hr)
    have hr' := hide hr
    clear hr
    have c0 := k7.cell 0
    have cO := kO7.cell 0
    simp only [List.getElem?_toArray, List.getElem?_cons_zero] at c0 cO
    by_cases hlen : π.length = H.length
    · have hz1 : ((π.length : Int) != (H.length : Int)) = false := by rw [hlen]; exact bne_self_eq_false _
      have hsl2 : Q.length = H.length := hsl.out.trans hlen
      replace hps := hide (hps.out hlen)
      have hsa := hide (fun k (hk : k < Q.length) (e : Q = natI (List.range H.length)) => sort_at e hk)
      have hse := hide (fun (e : ∀ k (hk : k < Q.length), Q[k] = (k : Int)) => (by have := sort_all e; rw [hsl2] at this; exact this : Q = natI (List.range H.length)))
      have hQ32 : Q.length ≤ 1000000000 := by have := hsl.out; omega
      clear hpl2 hsl
      replace hlen := hide hlen
      replace hsl2 := hide hsl2
      have hpl3 : π.length = Q.length := by rw [hlen.out, hsl2.out]
      replace hpl3 := hide hpl3
      go_wp2_with fail
      clear c0 cO
      go_loopw [27] (fun s27 wr => ∃ k : Nat, k ≤ Q.length ∧ s27 = .int .i64 k ∧ Hid (∀ j (hj : j < Q.length), j < k → Q[j] = (j : Int)) ∧ Below w.heap.size w wr ∧ Blk wr w.heap.size 24 #[.slice A H.length c] ∧ Blk wr (w.heap.size + 1) 26 #[.slice Ap π.length cp] ∧ IntS wr (Old wr) (.slice A4 Q.length c4) Q) (fun s27 _ => Q.length - (intOf s27).toNat)
      case atStart => exact ⟨0, Nat.zero_le _, by go_num, hide (fun j hj h => absurd h (by omega)), hb7, k7, kO7, hQ7.out⟩
      case round =>
        clear hb7 k7 kO7 hQ7
        obtain ⟨k, hk, rfl, hj, hb, k7, kO7, hQ⟩ := hrel
        have hk1 : (0 : Int) ≤ (k : Int) := Int.natCast_nonneg _
        by_cases hlt : k < Q.length
        · have hi2 : (k : Int) < (Q.length : Int) := by omega
          obtain ⟨b, off, rfl, _, d0⟩ := hQ.at_ hlt
          have hne := hide (hsa.out k hlt)
          have hst := hide (fun (e : Q[k] = (k : Int)) j (hj2 : j < Q.length) (hjk : j < k + 1) => (by
            by_cases g : j = k
            · subst g; exact e
            · exact hj.out j hj2 (by omega) : Q[j] = (j : Int)))
          replace hQ := hide hQ
          generalize Q[k] = q at *
          by_cases hq : q = (k : Int)
          · have hz2 : ((k : Int) != q) = false := by rw [hq]; exact bne_self_eq_false _
            have hj2 := hide (hst.out hq)
            clear hq hst hne hj
            go_wp2
            go_roundw
            case rel => exact ⟨k + 1, by omega, by go_num, hj2, hb, k7, kO7, hQ.out⟩
            case measure => simp [intOf]; omega
          · have hz2 : ((k : Int) != q) = true := bne_iff_ne.2 (fun e => hq e.symm)
            have hx := hide (hbad.out (.inr (by rw [hps.out]; exact decide_eq_false fun e => hq (hne.out e))))
            clear hq hst hne hj
            go_wp2
            go_ret
            exact ⟨_, rfl, by rw [hx.out]; exact OwnS.nil _ _, hb⟩
        · obtain rfl : k = Q.length := by omega
          have hp : permB π H.length = true := by rw [hps.out]; exact decide_eq_true (hse.out fun j hj2 => hj.out j hj2 hj2)
          have hax := hide (hall.out hp)
          replace hrs := hide (hrs.out hp)
          have hR0 : Hid (rowsTo H π 0 = []) := hide rfl
          have hrl := hide (rowsTo_len H π)
          clear hp hj hps hsa hse hbad hall hQ
          go_wp2_with fail
          go_loopw [8, 36] (fun s8 s36 wr => ∃ k : Nat, k ≤ 16 ∧ s36 = .int .i64 k ∧ OwnS wr w.heap.size s8 (rowsTo H π k) ∧ Below w.heap.size w wr ∧ Blk wr w.heap.size 24 #[.slice A H.length c] ∧ Blk wr (w.heap.size + 1) 26 #[.slice Ap π.length cp] ∧ w.heap.size + 2 ≤ wr.heap.size) (fun _ s36 _ => 16 - (intOf s36).toNat)
          case atStart => exact ⟨0, Nat.zero_le _, by go_num, by rw [hR0.out]; exact OwnS.nil _ _, hb, k7, kO7, kO7.lt⟩
          case round =>
            clear hb k7 kO7
            obtain ⟨Wo, rfl⟩ : ∃ Wo, Wo = wr := ⟨_, rfl⟩
            obtain ⟨k, hk, rfl, hown, hb, k7, kO7, hsz⟩ := hrel
            have hk1 : (0 : Int) ≤ (k : Int) := Int.natCast_nonneg _
            have c0 := k7.cell 0
            simp only [List.getElem?_toArray, List.getElem?_cons_zero] at c0
            obtain ⟨Av, cv, rfl⟩ := hown.form
            by_cases hlt : k < 16
            · have hi2 : (k : Int) < 16 := by omega
              go_wp2_with fail
              clear c0
              refine (writersS_any A c H k _ (h.out.below hb) hn.out).mono ?_
              rintro e wl ⟨vl, rfl, hLO, hbl⟩
              have hskip := hide (fun e => rowsTo_skip (H := H) (π := π) (k := k) e)
              have hnext := hide (fun e => rowsTo_next (H := H) (π := π) (k := k) e)
              have hrow := hide (fun l => hrs.out (k : Int) l)
              have hLn := wrsL_len H k
              have h32 : H.length ≤ 1000000 := hn.out.1
              have hWe := hide (fun (e : (intsN (wrsL H (k : Int))).length = 0) => (by rw [intsN_len] at e; exact List.eq_nil_of_length_eq_zero e : wrsL H (k : Int) = []))
              have hWn := hide (fun (e : (intsN (wrsL H (k : Int))).length ≠ 0) => (by rintro e'; rw [intsN_len, e'] at e; exact e rfl : wrsL H (k : Int) ≠ []))
              have hLl : (intsN (wrsL H (k : Int))).length ≤ 1000000 := by rw [intsN_len]; omega
              have hcnt := hrl.out k
              clear hLn
              replace h32 := hide h32
              generalize intsN (wrsL H (k : Int)) = L at *
              obtain ⟨Al, cl, rfl⟩ := hLO.form
              have hb2 := hb.trans (hbl.mono hb.size)
              have k8 := k7.below hbl k7.lt
              have kO8 := kO7.below hbl kO7.lt
              have hown2 := hown.below hbl (Nat.le_refl _)
              have hszl := hbl.size
              replace hbl := hide hbl
              replace hown := hide hown
              clear hb k7 kO7
              by_cases hL0 : L.length = 0
              · have hz1 : ((L.length : Int) == 0) = true := by rw [hL0]; rfl
                have hsk := hide (hskip.out (hWe.out hL0))
                clear hL0 hskip hnext hrow hWe hWn hLO hown hbl
                go_wp2
                go_roundw
                case rel => exact ⟨k + 1, by omega, by go_num, by rw [hsk.out]; exact hown2, hb2, k8, kO8, by omega⟩
                case measure => simp [intOf]; omega
              · have hz1 : ((L.length : Int) == 0) = false := by
                  rw [beq_eq_false_iff_ne]; omega
                replace hnext := hide (hnext.out (hWn.out hL0))
                have cO := kO8.cell 0
                simp only [List.getElem?_toArray, List.getElem?_cons_zero] at cO
                have hπ8 : IntS wl (fun b => b < Wo.heap.size) (.slice Ap π.length cp) π := IntS.keep hπ.out (Agree.below hb2 fun b h => h) (fun b h => Nat.lt_of_lt_of_le (show b < _ from h) (by omega))
                clear hL0 hskip hWe hWn
                replace hLO := hide hLO
                go_wp2_with fail
                refine (sortF_any Wo.heap.size Al cl L (w.heap.size + 1) Ap cp π wl hLO.out (by omega) (by omega) cO hπ8 hpl).mono ?_
                rintro e w9 ⟨rfl, ⟨M, hM1, hM2, hM3⟩, hb9⟩
                have hML := hM1.length_eq
                have hMr := hide (hrow.out M hM1 hM2)
                have hb10 := hb2.trans (hb9.mono (by omega))
                have k10 := k8.below hb9 (by omega)
                have kO10 := kO8.below hb9 (by omega)
                have hs9 := hb9.size
                rw [← hML] at hM3
                have hMS : IntS w9 (TyK w.heap.size [3] w9) (.slice Al M.length cl) M := own_slT (own_baseT hM3 (by omega)) (fun _ => rfl) (by simp)
                have hown9 := OwnS.below hown.out (hbl.out.trans hb9) (Nat.le_refl _)
                have hrw : SRowR w9 (TyK w.heap.size [3] w9) [.int .i64 k, .slice Al M.length cl] ⟨(k : Int), M⟩ := ⟨Al, cl, rfl, hMS⟩
                have hM4 : (rowS H π (k : Int)) = ⟨(k : Int), M⟩ := by rw [hMr.out]; rfl
                rw [hM4] at hnext
                rw [← hML]
                replace hML := hide hML
                replace hM4 := hide hM4
                generalize rowsTo H π k = D at *
                replace hown9 := hide hown9
                replace hrw := hide hrw
                clear hM1 hM2 hM3 hMS hown2 hown hbl hb9 hb2 k8 kO8 cO hπ8 hLO
                go_wp2_with (at_builtin; go_loud (refine wpList_pushR SRowR.stab SRowR.one rfl (.tmp 48) (.tmp 52) 25 rfl w.heap.size 30 is _ 2 32 Tryz.underlying25 his hq1 hq2 hq3 rfl (by decide) [3] (by decide) (.slice Av D.length cv) D rfl hown9.out _ (⟨(k : Int), M⟩ : SRow) rfl hrw.out rfl (by unfold maxLen; omega) (by omega) (by omega) w w.heap.size (Nat.le_refl _) hb10 ?_); intro v1 w6 hown1 hag1 hb1 hat1 hkp1)
                go_roundw
                case rel => exact ⟨k + 1, by omega, by go_num, by rw [hnext.out]; exact hown1, hb1, hkp1 _ _ _ k10 (by decide), hkp1 _ _ _ kO10 (by decide), (hkp1 _ _ _ kO10 (by decide)).lt⟩
                case measure => simp [intOf]; omega
            · obtain rfl : k = 16 := by omega
              go_wp2
              go_ret
              exact ⟨_, rfl, by rw [← hax.out]; exact hown, hb⟩
    · have hz1 : ((π.length : Int) != (H.length : Int)) = true := bne_iff_ne.2 (by omega)
      have hx := hide (hbad.out (.inr (hpl2.out hlen)))
      clear hlen hbad hpl2 hps hall hrs
      go_wp2
      go_ret
      exact ⟨_, rfl, by rw [hx.out]; exact OwnS.nil _ _, hb7⟩
end Go.Proofs.YtfhnamomiaekdaaGreat

namespace Go.Proofs.YtfhnamomiaekdaaGreat
open Go.RowKit Go.Inq
set_option maxHeartbeats 4000000
attribute [local go_sem ↓] Go.wp_at_zero Go.wp_at_succ

def encC (x : Cho) : List Value := [.int .i64 x.key, .int .i64 x.a, .int .i64 x.b]
theorem encC_one : ∀ (x : Cho), ∀ u ∈ encC x, u.oneCell' = true := by
  intro x u hu
  simp [encC] at hu
  rcases hu with rfl | rfl | rfl <;> rfl
theorem infoC9 : (Tryz.prog.info? 89).map (fun i => (i.zero, i.size, i.bytes)) = some (some (.agg #[.int .i64 0, .int .i64 0, .int .i64 0]), 3, 24) := by kernel_rfl
/-- A slice of choices. -/
def ChoS (w : World) (K : Nat → Prop) (v : Value) (l : List Cho) : Prop := SlR 3 (Flat encC) w K v l
section
variable {w w' : World} {K K' : Nat → Prop} {v : Value} {l : List Cho}
theorem ChoS.keep (h : ChoS w K v l) (ha : Agree K w w') (hk : ∀ b, K b → K' b) : ChoS w' K' v l := SlR.keep (Flat.stab _) h ha hk
theorem ChoS.below (h : ChoS w (Old w) v l) (hb : Below w.heap.size w w') : ChoS w' (Old w') v l := SlR.below (Flat.stab _) h hb
theorem ChoS.fit (h : ChoS w K v l) (hk : ∀ b, K b → K' b) : ChoS w K' v l := SlR.fit (Flat.stab _) h hk
theorem ChoS.nil (w : World) (K : Nat → Prop) (A : Option Addr) (c : Nat) : ChoS w K (.slice A 0 c) [] := SlR.nil _ _ _ _ _ _
theorem ChoS.at_ {A : Option Addr} {n c : Nat} (h : ChoS w K (.slice A n c) l) {i : Nat} (hi : i < l.length) :
    ∃ b off, A = some ⟨b, off, none⟩ ∧ K b ∧ w.cell? ⟨b, off + i * 3, none⟩ = some (.int .i64 l[i].key) ∧ w.cell? ⟨b, off + i * 3 + 1, none⟩ = some (.int .i64 l[i].a) ∧ w.cell? ⟨b, off + i * 3 + 2, none⟩ = some (.int .i64 l[i].b) := by
  obtain ⟨b, off, cs, hA, hK, _, hR, hc⟩ := SlR.at_ h hi
  unfold Flat at hR
  subst hR
  exact ⟨b, off, hA, hK, hc 0 _ rfl, hc 1 _ rfl, hc 2 _ rfl⟩
end
/-- A row of choices of the call's own. -/
def OwnC (w : World) (base : Nat) (v : Value) (l : List Cho) : Prop := w.ownsRow base 89 3 v l.length (l.map encC).flatten
def OutC (w : World) (l : List Cho) (e : Ending) (w' : World) : Prop := ∃ v, e = .returned v ∧ OwnC w' w.heap.size v l ∧ Below w.heap.size w w'
theorem OwnC.form {w : World} {base : Nat} {v : Value} {l : List Cho} (h : OwnC w base v l) : ∃ A c, v = .slice A l.length c := own_slice h
theorem OwnC.sl {w : World} {base : Nat} {v : Value} {l : List Cho} (h : OwnC w base v l) {K : Nat → Prop} (hK : ∀ g, base ≤ g → g < w.heap.size → K g) : ChoS w K v l := SlR.of_flat h rfl (fun _ => rfl) hK
theorem OwnC.nil (w : World) (base : Nat) : OwnC w base (.slice none 0 0) [] := World.ownsRow_nil _ _ _ _
/-- A slice that the row that grows leaves as it is. -/
def Far (v : Value) (lo hi : Nat) : Prop := ∀ g, v.ownBlock = some g → g < lo ∨ hi ≤ g
set_option maxRecDepth 100000 in
theorem pairs9_any (A : Option Addr) (c : Nat) (H : List Txn) (w : World) (h : TxnS w (Old w) (.slice A H.length c) H) (hn : SmallH H) (hr : rightH H = true) :
    Calls Tryz.prog 141 #[.agg #[.slice A H.length c]] w (OutC w (pairsL H)) := by
  obtain ⟨ic, hic, hi1, hi2, hi3⟩ := info_parts infoC9
  obtain ⟨W0, hW0⟩ : ∃ W0, w.alloc (.cells #[.slice A H.length c] 24) = W0 := ⟨_, rfl⟩
  have hB := below_allocEq (Below.refl w.heap.size w) hW0 (Nat.le_refl _)
  have k0 := Blk.newEq hW0
  have h0 := hide (h.below hB)
  have h32 : H.length ≤ 32 := ((rightH_iff H).1 hr).1
  have hk16 := keysL_16len hr
  have hpt := hide (pairsTo_len h32)
  have hstep := hide (fun k (hk : k < (keysL H).length) => pairsTo_step hk)
  have hall := hide (pairsTo_all H)
  have hs0 := size_allocEq hW0
  replace hn := hide hn
  replace hr := hide hr
  replace h := hide h
  have c0 := k0.cell 0
  simp only [List.getElem?_toArray, List.getElem?_cons_zero, List.getElem?_cons_succ] at c0
  replace hs0 := hide hs0
  go_enter Tryz.func141, Tryz.ntmps141
  go_wp2_with fail
  clear hW0 c0
  refine (keys9_any A c H _ h0.out hn.out hr.out).mono ?_
  rintro e wk ⟨vk, rfl, hKO, hbk⟩
  obtain ⟨Ak, ck, rfl⟩ := hKO.form
  have hwW : w.heap.size < W0.heap.size := by have := hs0.out; omega
  have hKS := hide (hKO.sl (K := fun b => W0.heap.size ≤ b ∧ b < wk.heap.size) (fun g h1 h2 => ⟨h1, h2⟩))
  replace k0 := k0.below hbk k0.lt
  have hb := hB.trans (hbk.mono hB.size)
  have hszk := hbk.size
  clear hbk hB h0 hKO
  generalize hKL : keysL H = KL at *
  go_wp2_with fail
  go_loopw [3, 14] (fun s3 s14 wr => ∃ k : Nat, k ≤ KL.length ∧ s14 = .int .i64 k ∧ OwnC wr w.heap.size s3 (pairsTo H k) ∧ Below w.heap.size w wr ∧ Agree (fun b => w.heap.size ≤ b ∧ b < wk.heap.size) wk wr ∧ wk.heap.size ≤ wr.heap.size ∧ Hid (∀ g, s3.ownBlock = some g → wk.heap.size ≤ g)) (fun _ s14 _ => KL.length - (intOf s14).toNat)
  case atStart => exact ⟨0, Nat.zero_le _, by go_num, OwnC.nil _ _, hb, Agree.refl _ _, Nat.le_refl _, hide fun g hg => by simp [Value.ownBlock] at hg⟩
  case round =>
    clear hb
    obtain ⟨Wo, rfl⟩ : ∃ Wo, Wo = wr := ⟨_, rfl⟩
    obtain ⟨k, hk, rfl, hown, hb, hag, hszo, hfar⟩ := hrel
    have hi1' : (0 : Int) ≤ (k : Int) := Int.natCast_nonneg _
    by_cases hlt : k < KL.length
    · have hi2' : (k : Int) < (KL.length : Int) := by omega
      obtain ⟨bk, ok, rfl, _, hck⟩ := (hKS.out.keep (hag.mono fun b hb => ⟨by omega, hb.2⟩) (fun b h => h)).at_ hlt
      have m0 := k0.agree hag ⟨Nat.le_refl _, k0.lt⟩
      have hst := hide (hstep.out k hlt)
      have hlen := hpt.out k hk
      have c0 := m0.cell 0
      simp only [List.getElem?_toArray, List.getElem?_cons_zero, List.getElem?_cons_succ] at c0
      generalize KL[k] = key at *
      go_wp2_with fail
      clear c0 hck
      refine (writers9_any A c H key _ (h.out.below hb) hn.out hr.out).mono ?_
      rintro e wl ⟨vl, rfl, hLO, hbl⟩
      have hLn := wrsL_len H key
      have hpa := hide (pairsI_all key (wrsL H key))
      have hpi := hide (fun i (hi : i < (wrsL H key).length) => pairsI_step key (wrsL H key) hi)
      have hpl := hide (pairsI_len key (wrsL H key))
      generalize wrsL H key = L at *
      obtain ⟨Al, cl, hv⟩ := hLO.form
      rw [intsN_len] at hv
      subst hv
      have hLS := hide (hLO.sl (K := fun b => Wo.heap.size ≤ b ∧ b < wl.heap.size) (fun g h1 h2 => ⟨h1, h2⟩))
      have hb2 := hb.trans (hbl.mono hb.size)
      have hszl := hbl.size
      have hag2 : Agree (fun b => w.heap.size ≤ b ∧ b < wk.heap.size) wk wl := hag.trans (Agree.below hbl fun b hb => by omega)
      have hown2 : OwnC wl w.heap.size _ (pairsTo H k) := own_below hown hbl (Nat.le_refl _)
      have hlt2 := hide (fun g hg => (hown.lt g hg).2)
      clear hLO hbl hb hag hown m0
      go_wp2_with fail
      go_loopw [3, 23] (fun s3 s23 wq => ∃ i : Nat, i ≤ L.length ∧ s23 = .int .i64 i ∧ OwnC wq w.heap.size s3 (pairsTo H k ++ pairsI key L i) ∧ Below w.heap.size w wq ∧ Agree (fun b => w.heap.size ≤ b ∧ b < wk.heap.size) wk wq ∧ Agree (fun b => Wo.heap.size ≤ b ∧ b < wl.heap.size) wl wq ∧ wl.heap.size ≤ wq.heap.size ∧ Hid (∀ g, s3.ownBlock = some g → wk.heap.size ≤ g ∧ (g < Wo.heap.size ∨ wl.heap.size ≤ g))) (fun _ s23 _ => L.length - (intOf s23).toNat)
      case atStart => exact ⟨0, Nat.zero_le _, by go_num, by simpa [pairsI] using hown2, hb2, hag2, Agree.refl _ _, Nat.le_refl _, hide fun g hg => ⟨hfar.out g hg, .inl (hlt2.out g hg)⟩⟩
      case round =>
        clear hown2 hb2 hag2 hlt2 hfar
        obtain ⟨Wp, rfl⟩ : ∃ Wp, Wp = wr := ⟨_, rfl⟩
        obtain ⟨i, hi, rfl, hown, hb, hag, hagl, hszp, hfar⟩ := hrel
        have hj1 : (0 : Int) ≤ (i : Int) := Int.natCast_nonneg _
        by_cases hil : i < L.length
        · have hj2 : (i : Int) < (L.length : Int) := by omega
          obtain ⟨bl, ol, rfl, _, hcl⟩ := (hLS.out.keep hagl (fun b h => h)).at_ (i := i) (by rw [intsN_len]; exact hil)
          rw [intsN_at hil] at hcl
          have hpst := hide (hpi.out i hil)
          have hdl : (L.drop (i + 1)).length = L.length - (i + 1) := List.length_drop
          have hlen2 := hpl.out i
          have hlen3 : i * L.length ≤ 32 * 32 := Nat.mul_le_mul (by omega) (by omega)
          generalize L[i] = a at *
          have hle : i + 1 ≤ L.length := by omega
          have hle3 : (i : Int) + 1 ≤ (L.length : Int) := by omega
          have hcl2 : L.length ≤ cl := by
            obtain ⟨_, _, e, h2⟩ := SlR.len hLS.out
            injection e with e1 e2 e3
            rw [intsN_len] at h2
            omega
          by_cases hcap : cl = i + 1
          · have hLi : L.length = i + 1 := by omega
            have hd0 : L.drop (i + 1) = [] := List.drop_of_length_le (by omega)
            have hown3 : Hid (OwnC Wp w.heap.size u3 (pairsTo H k ++ pairsI key L (i + 1))) := hide (by rw [hpst.out, hd0, List.map_nil, List.append_nil]; exact hown)
            have hz0 : L.length - (i + 1) = 0 := by omega
            clear hd0 hcl2
            replace hown := hide hown
            subst hcap
            go_wp2_with fail
            go_loop [3, 33] (fun s3 s33 => s33 = .int .i64 0 ∧ OwnC Wp w.heap.size s3 (pairsTo H k ++ pairsI key L (i + 1)) ∧ Hid (∀ g, s3.ownBlock = some g → wk.heap.size ≤ g ∧ (g < Wo.heap.size ∨ wl.heap.size ≤ g))) (fun _ _ => 0)
            case atStart => exact ⟨rfl, hown3.out, hfar⟩
            case round =>
              clear hown3 hfar
              obtain ⟨rfl, hown3, hfar⟩ := hrel
              go_wp2
              go_roundw
              case rel => exact ⟨i + 1, by omega, by go_num, hown3, hb, hag, hagl, hszp, hfar⟩
              case measure => simp [intOf]; omega
          · go_wp2_with fail
            have hdo := hide (fun j (hj : j < L.length - (i + 1)) => (show i + 1 + j < L.length by omega))
            go_loopw [3, 33] (fun s3 s33 wq => ∃ j : Nat, j ≤ L.length - (i + 1) ∧ s33 = .int .i64 j ∧ OwnC wq w.heap.size s3 (pairsTo H k ++ pairsI key L i ++ ((L.drop (i + 1)).take j).map fun (b : Nat) => (⟨key, (a : Nat), b⟩ : Cho)) ∧ Below w.heap.size w wq ∧ Agree (fun b => w.heap.size ≤ b ∧ b < wk.heap.size) wk wq ∧ Agree (fun b => Wo.heap.size ≤ b ∧ b < wl.heap.size) wl wq ∧ wl.heap.size ≤ wq.heap.size ∧ Hid (∀ g, s3.ownBlock = some g → wk.heap.size ≤ g ∧ (g < Wo.heap.size ∨ wl.heap.size ≤ g))) (fun _ s33 _ => (L.length - (i + 1)) - (intOf s33).toNat)
            case atStart => exact ⟨0, Nat.zero_le _, by go_num, by simpa using hown, hb, hag, hagl, hszp, hfar⟩
            case round =>
              clear hown hb hag hagl hszp hfar hcl
              obtain ⟨j, hj, rfl, hown, hb, hag, hagl, hszp, hfar⟩ := hrel
              have hjj : (0 : Int) ≤ (j : Int) := Int.natCast_nonneg _
              by_cases hjl : j < L.length - (i + 1)
              · have hj3 : (j : Int) < ((L.length - (i + 1) : Nat) : Int) := by omega
                have hix := hdo.out j hjl
                obtain ⟨_, _, e, _, hcj⟩ := (hLS.out.keep hagl (fun b h => h)).at_ (i := i + 1 + j) (by rw [intsN_len]; exact hix)
                injection e with e
                injection e with e1 e2
                subst e1 e2
                rw [intsN_at hix, ← Nat.add_assoc] at hcj
                have hdj : Hid (((L.drop (i + 1)).take (j + 1)) = (L.drop (i + 1)).take j ++ [L[i + 1 + j]]) := hide (by rw [take_snoc' (by rw [hdl]; exact hjl), List.getElem_drop])
                have hjn : ((L.drop (i + 1)).take j).length ≤ 32 := by rw [List.length_take, hdl]; omega
                have hplen : (pairsTo H k).length ≤ 16384 := by omega
                have hwlen : (pairsTo H k ++ pairsI key L i ++ ((L.drop (i + 1)).take j).map fun (b : Nat) => (⟨key, (a : Nat), b⟩ : Cho)).length ≤ 20000 := by
                  rw [List.length_append, List.length_append, List.length_map]
                  omega
                obtain ⟨Av, cv, rfl⟩ := hown.form
                generalize hM : (pairsTo H k ++ pairsI key L i ++ ((L.drop (i + 1)).take j).map fun (b : Nat) => (⟨key, (a : Nat), b⟩ : Cho)) = M at *
                generalize L[i + 1 + j] = y at *
                have hM2 : Hid ((pairsTo H k ++ pairsI key L i ++ ((L.drop (i + 1)).take (j + 1)).map fun (b : Nat) => (⟨key, (a : Nat), b⟩ : Cho)) = M ++ [⟨key, a, y⟩]) := hide (by rw [hdj.out, List.map_append, ← List.append_assoc, hM]; rfl)
                have hszb := hb.size
                clear hM hjn hplen hdj
                replace hown := hide hown
                go_wp2_with (at_builtin; refine wpList_push (enc := encC) rfl (.tmp 37) (.tmp 42) 36 rfl w.heap.size 89 ic _ 3 24 Tryz.underlying36 hic hi1 hi2 hi3 rfl (by decide) (.slice Av M.length cv) M rfl hown.out (fun _ => rfl) (⟨key, a, y⟩ : Cho) _ rfl rfl encC_one (by simp [maxLen]; omega) (by omega) hszb w w.heap.size (Nat.le_refl _) hb ?_; intro v1 w6 hown1 hg1 hb1 hat1)
                have hg6 := hg1.size
                simp only [World.size_alloc] at hg6
                have hA1 : Agree (fun b => w.heap.size ≤ b ∧ b < wk.heap.size) wk w6 := (hag.trans (Agree.alloc (fun b hb => by omega) _)).trans (Agree.grown hg1 fun b hb => ⟨by simp; omega, fun e => by have := (hfar.out b e.symm).1; omega⟩)
                have hA2 : Agree (fun b => Wo.heap.size ≤ b ∧ b < wl.heap.size) wl w6 := (hagl.trans (Agree.alloc (fun b hb => by omega) _)).trans (Agree.grown hg1 fun b hb => ⟨by simp; omega, fun e => by have := (hfar.out b e.symm).2; omega⟩)
                go_wp2
                go_roundw
                case rel => exact ⟨j + 1, by omega, by go_num, by rw [hM2.out]; exact hown1, hb1, hA1, hA2, by omega, hide fun g hg => by
                  rcases hat1 with e | e
                  · rw [e] at hg; exact hfar.out g hg
                  · rw [e] at hg; injection hg with hg; omega⟩
                case measure => simp [intOf]; omega
              · obtain rfl : j = L.length - (i + 1) := by omega
                rw [List.take_of_length_le (by rw [hdl]; exact Nat.le_refl _), List.append_assoc, ← hpst.out] at hown
                go_wp2
                go_roundw
                case rel => exact ⟨i + 1, by omega, by go_num, hown, hb, hag, hagl, hszp, hfar⟩
                case measure => simp [intOf]; omega
        · obtain rfl : i = L.length := by omega
          rw [hpa.out, ← hst.out] at hown
          go_wp2
          go_roundw
          case rel => exact ⟨k + 1, by omega, by go_num, hown, hb, hag, by omega, hide fun g hg => (hfar.out g hg).1⟩
          case measure => simp [intOf]; omega
    · obtain rfl : k = KL.length := by omega
      rw [hall.out] at hown
      go_wp2
      go_ret
      exact ⟨_, rfl, hown, hb⟩
end Go.Proofs.YtfhnamomiaekdaaGreat
