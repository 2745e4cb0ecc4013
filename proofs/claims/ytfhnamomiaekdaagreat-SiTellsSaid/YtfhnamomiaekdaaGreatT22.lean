/-
  Walks: the reference of layer 8: Right.
-/
import Derived.Test.YtfhnamomiaekdaaGreatT20
import Derived.Test.YtfhnamomiaekdaaGreatT21
import Derived.Test.YtfhnamomiaekdaaGreatT06
import Derived.Test.YtfhnamomiaekdaaGreatT05
import Derived.Test.YtfhnamomiaekdaaGreatT07
import Derived.Test.YtfhnamomiaekdaaGreatT08
import Derived.Test.YtfhnamomiaekdaaGreatT17
import Derived.Test.YtfhnamomiaekdaaGreatT18
set_option linter.unusedVariables false
set_option linter.unusedSimpArgs false
namespace Go.Proofs.YtfhnamomiaekdaaGreat
open Go.RowKit Go.Inq
set_option maxHeartbeats 4000000
attribute [local go_sem ↓] Go.wp_at_zero Go.wp_at_succ

theorem right_no {H : List Txn} {n : Nat} (h : n < H.length) (hb : (txF H n).all id = false) : rightH H = false := by
  rw [← Bool.not_eq_true, rightH_iff]
  rintro ⟨_, g⟩
  rw [(txF_iff h).2 (g n h)] at hb
  cases hb
theorem right_many {H : List Txn} (h : 32 < H.length) : rightH H = false := by
  rw [← Bool.not_eq_true, rightH_iff]
  rintro ⟨g, _⟩
  omega
theorem right_yes {H : List Txn} (h : ¬ 32 < H.length) (hall : ∀ n, n < H.length → (txF H n).all id = true) : rightH H = true :=
  (rightH_iff H).2 ⟨by omega, fun j hj => (txF_iff hj).1 (hall j hj)⟩
set_option maxRecDepth 100000 in
theorem right08_big (A : Option Addr) (c : Nat) (H : List Txn) (w : World) (h : TxnS w (Old w) (.slice A H.length c) H) (hs : LenH H) :
    Calls Tryz.prog 37 #[.agg #[.slice A H.length c]] w fun e w' => e = .returned (.bool (rightH H)) ∧ Below w.heap.size w w' := by
  have hH := hs.1
  have hA : Below w.heap.size w (w.alloc (.cells #[.slice A H.length c] 24)) := (Below.refl _ _).alloc (Nat.le_refl _) _
  have kH : Blk (w.alloc (.cells #[.slice A H.length c] 24)) w.heap.size 24 #[.slice A H.length c] := Blk.new _ _ _
  have y0 := kH.cell 0
  simp only [List.getElem?_toArray, List.getElem?_cons_zero] at y0
  by_cases h32 : 32 < H.length
  · have hb : decide ((H.length : Int) > 32) = true := by simp; omega
    have hr := hide (right_many h32)
    clear h32
    go_enter Tryz.func37, Tryz.ntmps37
    go_wp2
    go_ret
    exact ⟨by rw [hr.out]; rfl, hA⟩
  · have hb : decide ((H.length : Int) > 32) = false := by simp; omega
    have hno := hide (fun n hn g => right_no (H := H) (n := n) hn g)
    have hyes := hide (right_yes h32)
    clear h32
    go_enter Tryz.func37, Tryz.ntmps37
    go_wp2_with fail
    clear y0
    generalize w.alloc (.cells #[.slice A H.length c] 24) = W0 at *
    go_loopw [3, 4] (fun s3 _ wr => ∃ n : Nat, n ≤ H.length ∧ s3 = .int .i64 n ∧ Hid (∀ j, j < n → (txF H j).all id = true) ∧ Below w.heap.size w wr ∧ Blk wr w.heap.size 24 #[.slice A H.length c]) (fun s3 _ _ => H.length - (intOf s3).toNat)
    case atStart => exact ⟨0, Nat.zero_le _, by go_num, fun j h => absurd h (by omega), hA, kH⟩
    case round =>
      clear hA kH
      obtain ⟨n, hn, rfl, hall, hB, kH⟩ := hrel
      have hn1 : (0 : Int) ≤ (n : Int) := Int.natCast_nonneg _
      have y0 := kH.cell 0
      simp only [List.getElem?_toArray, List.getElem?_cons_zero] at y0
      by_cases hlt : n < H.length
      · have hn2 : (n : Int) < (H.length : Int) := by omega
        have hc := one08_any A c H n wr (TxnS.keep h (Agree.below hB fun b h => h) (fun b h => Nat.lt_of_lt_of_le h hB.size)) hlt hs
        have hno2 := hide (hno.out n hlt)
        have hst : Hid ((txF H n).all id = true → ∀ j, j < n + 1 → (txF H j).all id = true) := fun g j hj => by
          by_cases e : j = n
          · subst e; exact g
          · exact hall.out j (by omega)
        generalize (txF H n).all id = tb at *
        go_wp2_with fail
        refine hc.mono ?_
        clear hc
        rintro e w1 ⟨rfl, hb1⟩
        have kH1 := kH.below hb1 kH.lt
        have hB1 := hB.trans (hb1.mono hB.size)
        cases tb with
        | false =>
          have hr := hide (hno2.out rfl)
          go_wp2
          go_ret
          exact ⟨by rw [hr.out]; rfl, hB1⟩
        | true =>
          have hst2 := hide (hst.out rfl)
          go_wp2
          go_roundw
          case rel => exact ⟨n + 1, by omega, by go_num, hst2, hB1, kH1⟩
          case measure => simp [intOf]; omega
      · have hr := hide (hyes.out fun j hj => hall.out j (by omega))
        go_wp2
        go_ret
        exact ⟨by rw [hr.out]; rfl, hB⟩
theorem right08_any (A : Option Addr) (c : Nat) (H : List Txn) (w : World) (h : TxnS w (Old w) (.slice A H.length c) H) (hs : SmallH H) :
    Calls Tryz.prog 37 #[.agg #[.slice A H.length c]] w fun e w' => e = .returned (.bool (rightH H)) ∧ Below w.heap.size w w' := right08_big A c H w h hs.len
theorem rise_len {l : List Int} (h1 : l.Pairwise (· < ·)) (h2 : ∀ k ∈ l, 0 ≤ k ∧ k < 16) : l.length ≤ 16 := by
  have hb : ∀ i (hi : i < l.length), (i : Int) ≤ l[i] := by
    intro i
    induction i with
    | zero => intro hi; have := h2 _ (List.getElem_mem hi); omega
    | succ i ih =>
      intro hi
      have h3 := ih (by omega)
      have h4 := List.pairwise_iff_getElem.1 h1 i (i + 1) (by omega) hi (by omega)
      omega
  rcases Nat.lt_or_ge 16 l.length with h | h
  · have h3 := hb 16 h
    have h4 := h2 _ (List.getElem_mem h)
    omega
  · exact h
/-- A history that may be is small. -/
theorem right_small {H : List Txn} (h : rightH H = true) : SmallH H := by
  obtain ⟨h1, h2⟩ := (rightH_iff H).1 h
  refine ⟨by omega, fun t ht => ?_⟩
  obtain ⟨i, hi, rfl⟩ := List.getElem_of_mem ht
  have h3 := h2 i hi
  have h4 := rise_len h3.wrise h3.wkey
  have h5 := rise_len h3.rrise (fun k hk => by obtain ⟨x, hx, rfl⟩ := List.mem_map.1 hk; exact h3.rkey x hx)
  simp at h5
  omega
end Go.Proofs.YtfhnamomiaekdaaGreat

namespace Go.Proofs.YtfhnamomiaekdaaGreat
open Go.RowKit Go.Inq
set_option maxHeartbeats 8000000
attribute [local go_sem ↓] Go.wp_at_zero Go.wp_at_succ

/-- From whom t reads a key. -/
def fromL (R : List It) (key : Int) : Int × Bool := match R.find? (fun r => r.a == key) with
  | some r => (r.b, true)
  | none => (0, false)
theorem fromL_hit {R : List It} {key : Int} {i : Nat} (hi : i < R.length) (h0 : (R.take i).any (fun r => r.a == key) = false) (h : (R[i].a == key) = true) : fromL R key = (R[i].b, true) := by
  unfold fromL
  have : R.find? (fun r => r.a == key) = some R[i] := by
    rw [List.find?_eq_some_iff_getElem]
    refine ⟨h, i, hi, rfl, fun j hj => ?_⟩
    rw [List.any_eq_false] at h0
    exact Bool.not_eq_true' _ ▸ Bool.eq_false_iff.2 (h0 R[j] (List.mem_take_iff_getElem.2 ⟨j, by omega, rfl⟩))
  rw [this]
theorem fromL_miss {R : List It} {key : Int} (h : R.any (fun r => r.a == key) = false) : fromL R key = (0, false) := by
  unfold fromL
  have : R.find? (fun r => r.a == key) = none := by
    rw [List.find?_eq_none]
    intro r hr
    exact (List.any_eq_false.1 h) r hr
  rw [this]
set_option maxRecDepth 100000 in
theorem rfrom09_any (A : Option Addr) (c : Nat) (H : List Txn) (t : Nat) (key : Int) (w : World) (h : TxnS w (Old w) (.slice A H.length c) H) (hr : rightH H = true) (hn : SmallH H) (ht : t < H.length) :
    Calls Tryz.prog 250 #[.agg #[.slice A H.length c], .int .i64 (t : Int), .int .i64 key] w fun e w' => e = .returned (.tuple #[.int .i64 (fromL H[t].reads key).1, .bool (fromL H[t].reads key).2]) ∧ Below w.heap.size w w' := by
  obtain ⟨W0, hW0⟩ : ∃ W0, w.alloc (.cells #[.slice A H.length c] 24) = W0 := ⟨_, rfl⟩
  have hb := below_allocEq (Below.refl w.heap.size w) hW0 (Nat.le_refl _)
  have k1 := Blk.newEq hW0
  have h0 := h.below hb
  have c0 := k1.cell 0
  simp only [List.getElem?_toArray, List.getElem?_cons_zero, List.getElem?_cons_succ] at c0
  have hg1 : decide ((t : Int) < 0) = false := by simp
  have hg2 : decide ((t : Int) ≥ (H.length : Int)) = false := by simp; omega
  have ht1 : (0 : Int) ≤ (t : Int) := Int.natCast_nonneg _
  have ht2 : (t : Int) < (H.length : Int) := by omega
  have hR9 : H[t].reads.length ≤ 1000000 := (hn.2 _ (List.getElem_mem ht)).2
  have hrc := hide (right08_any A c H W0 h0 hn)
  rw [hr] at hrc
  clear h
  have hhit := hide (fun i => fromL_hit (R := H[t].reads) (key := key) (i := i))
  have hmis := hide (fromL_miss (R := H[t].reads) (key := key))
  generalize fromL H[t].reads key = F at *
  obtain ⟨F1, F2⟩ := F
  go_enter Tryz.func250, Tryz.ntmps250
  go_wp2_with fail
  refine hrc.out.mono ?_
  rintro e w1 ⟨rfl, hb1⟩
  have hb2 := hb.trans (hb1.mono hb.size)
  replace k1 := k1.below hb1 k1.lt
  obtain ⟨bt, ot, Aw, cw, Ar, cr, hA, hKb, -, -, d2, -, hrs⟩ := (h0.below hb1).at_ ht
  subst hA
  clear c0 hrc h0 hb1 hW0 hr
  have c0 := k1.cell 0
  simp only [List.getElem?_toArray, List.getElem?_cons_zero, List.getElem?_cons_succ] at c0
  generalize H[t].reads = R at *
  replace hb2 := hide hb2
  replace hrs := hide hrs
  go_wp2_with fail
  clear c0 d2 k1
  go_loop [10] (fun s10 => ∃ i : Nat, i ≤ R.length ∧ s10 = .int .i64 i ∧ Hid ((R.take i).any (fun r => r.a == key) = false)) (fun s10 => R.length - (intOf s10).toNat)
  case atStart => exact ⟨0, Nat.zero_le _, by go_num, hide (by simp)⟩
  case round =>
    obtain ⟨i, hi, rfl, hc⟩ := hrel
    have hi1 : (0 : Int) ≤ (i : Int) := Int.natCast_nonneg _
    by_cases hlt : i < R.length
    · have hi2 : (i : Int) < (R.length : Int) := by omega
      obtain ⟨br, orr, rfl, -, z0, z1⟩ := hrs.out.at_ hlt
      have hst : Hid ((R.take (i + 1)).any (fun r => r.a == key) = ((R.take i).any (fun r => r.a == key) || R[i].a == key)) := hide (by rw [take_snoc' hlt, List.any_append]; simp)
      have hh := hide (fun g => hhit.out i hlt hc.out g)
      generalize R[i] = r at *
      obtain ⟨ra, rb⟩ := r
      dsimp only at *
      cases hy : (ra == key) with
      | true =>
        have hr := hh.out hy
        simp only [Prod.mk.injEq] at hr
        obtain ⟨rfl, rfl⟩ := hr
        clear hh hst hmis hhit
        replace hc := hide hc
        go_wp2
        exact bodyPost_ret (v := .tuple #[.int .i64 F1, .bool true]) (by simp [results, Tryz.results250, go_sem]) rfl ⟨rfl, hb2.out⟩
      | false =>
        have hr : Hid ((R.take (i + 1)).any (fun r => r.a == key) = false) := hide (by rw [hst.out, hc.out, hy]; rfl)
        clear hh hst
        replace hc := hide hc
        go_wp2
        go_round
        case rel => exact ⟨i + 1, by omega, by go_num, hr⟩
        case measure => simp [intOf]; omega
    · obtain rfl : i = R.length := by omega
      have hr := hmis.out (by have := hc.out; rwa [List.take_length] at this)
      simp only [Prod.mk.injEq] at hr
      obtain ⟨rfl, rfl⟩ := hr
      clear hmis hhit
      replace hc := hide hc
      go_wp2
      exact bodyPost_ret (v := .tuple #[.int .i64 0, .bool false]) (by simp [results, Tryz.results250, go_sem]) rfl ⟨rfl, hb2.out⟩
/-- Who reads a key from somebody, among the first. -/
def rdrTo (H : List Txn) (key src : Int) (n : Nat) : List Nat := (List.range n).filter fun t => fromL (txnAt H t).reads key == (src, true)
def rdrL (H : List Txn) (key src : Int) : List Nat := rdrTo H key src H.length
theorem rdrTo_step (H : List Txn) (key src : Int) (n : Nat) : rdrTo H key src (n + 1) = rdrTo H key src n ++ (if fromL (txnAt H n).reads key == (src, true) then [n] else []) := by
  unfold rdrTo
  rw [List.range_succ, List.filter_append]
  congr 1
  rw [List.filter_cons, List.filter_nil]
theorem fromL_yes {R : List It} {key src : Int} (h : (R.map (·.a)).Pairwise (· < ·)) : fromL R key = (src, true) ↔ ∃ r ∈ R, r.a = key ∧ r.b = src := by
  unfold fromL
  cases hf : R.find? (fun r => r.a == key) with
  | none =>
    rw [List.find?_eq_none] at hf
    constructor
    · intro e; cases e
    · rintro ⟨r, h1, h2, _⟩; exact absurd (by simpa using h2) (hf r h1)
  | some r =>
    have h1 := List.find?_some hf
    have h2 := List.mem_of_find?_eq_some hf
    have h1 : r.a = key := by simpa using h1
    dsimp only
    rw [Prod.mk.injEq]
    constructor
    · rintro ⟨e, -⟩; exact ⟨r, h2, h1, e⟩
    · rintro ⟨q, h3, h4, h5⟩
      refine ⟨?_, rfl⟩
      obtain ⟨i, hi, e1⟩ := List.getElem_of_mem h2
      obtain ⟨j, hj, e2⟩ := List.getElem_of_mem h3
      rw [List.pairwise_iff_getElem] at h
      rcases Nat.lt_trichotomy i j with g | g | g
      · have := h i j (by simpa using hi) (by simpa using hj) g
        simp only [List.getElem_map, e1, e2] at this
        omega
      · subst g; rw [← e1, e2]; exact h5
      · have := h j i (by simpa using hj) (by simpa using hi) g
        simp only [List.getElem_map, e1, e2] at this
        omega
theorem rdrL_mem {H : List Txn} (hr : rightH H = true) {key src : Int} {t : Nat} : t ∈ rdrL H key src ↔ t < H.length ∧ ∃ r ∈ (txnAt H t).reads, r.a = key ∧ r.b = src := by
  unfold rdrL rdrTo
  rw [List.mem_filter, List.mem_range, beq_iff_eq]
  constructor
  · rintro ⟨h1, h2⟩; exact ⟨h1, (fromL_yes (by rw [txnAt_of h1]; exact (((rightH_iff H).1 hr).2 t h1).rrise)).1 h2⟩
  · rintro ⟨h1, h2⟩; exact ⟨h1, (fromL_yes (by rw [txnAt_of h1]; exact (((rightH_iff H).1 hr).2 t h1).rrise)).2 h2⟩
theorem rdrTo_len (H : List Txn) (key src : Int) (n : Nat) : (rdrTo H key src n).length ≤ n := Nat.le_trans (List.length_filter_le _ _) (by simp)
set_option maxRecDepth 100000 in
theorem rreaders09_any (A : Option Addr) (c : Nat) (H : List Txn) (key src : Int) (w : World) (h : TxnS w (Old w) (.slice A H.length c) H) (hr : rightH H = true) (hn : SmallH H) :
    Calls Tryz.prog 224 #[.agg #[.slice A H.length c], .int .i64 key, .int .i64 src] w (OutI w (intsN (rdrL H key src))) := by
  obtain ⟨ii, hii, hi1, hi2, hi3⟩ := info_parts infoI10
  have h32 : H.length ≤ 32 := ((rightH_iff H).1 hr).1
  obtain ⟨W0, hW0⟩ : ∃ W0, w.alloc (.cells #[.slice A H.length c] 24) = W0 := ⟨_, rfl⟩
  have hB := below_allocEq (Below.refl w.heap.size w) hW0 (Nat.le_refl _)
  have k0 := Blk.newEq hW0
  go_enter Tryz.func224, Tryz.ntmps224
  go_wp2_with fail
  clear hW0
  go_loopw [7, 8] (fun s7 s8 wr => ∃ k : Nat, k ≤ H.length ∧ s8 = .int .i64 k ∧ OwnI wr (w.heap.size + 1) s7 (intsN (rdrTo H key src k)) ∧ Below w.heap.size w wr ∧ Blk wr w.heap.size 24 #[.slice A H.length c]) (fun _ s8 _ => H.length - (intOf s8).toNat)
  case atStart => exact ⟨0, Nat.zero_le _, by go_num, OwnI.nil _ _, hB, k0⟩
  case round =>
    clear k0 hB
    obtain ⟨k, hk, rfl, hown, hb, k0⟩ := hrel
    have hk1 : (0 : Int) ≤ (k : Int) := Int.natCast_nonneg _
    have c0 := k0.cell 0
    simp only [List.getElem?_toArray, List.getElem?_cons_zero, List.getElem?_cons_succ] at c0
    by_cases hlt : k < H.length
    · have hk2 : (k : Int) < (H.length : Int) := by omega
      have hst := hide (rdrTo_step H key src k)
      rw [txnAt_of hlt] at hst
      have hcnt := rdrTo_len H key src k
      have hsn := hide (intsN_snoc (rdrTo H key src k) k)
      have hlq := hide (intsN_len (rdrTo H key src k))
      have hcall := hide (rfrom09_any A c H k key wr (h.below hb) hr hn hlt)
      generalize fromL H[k].reads key = F at *
      obtain ⟨F1, F2⟩ := F
      obtain ⟨Av, cv, rfl⟩ := hown.form
      replace hown := hide hown
      replace hr := hide hr
      go_wp2_with fail
      clear c0
      refine hcall.out.mono ?_
      rintro e w2 ⟨rfl, hb2⟩
      have hb3 := hb.trans (hb2.mono hb.size)
      have k3 := k0.below hb2 k0.lt
      have hown3 := hide (own_below hown.out hb2 (Nat.le_refl _))
      have hsz2 := hb3.size
      clear hcall hown hb2
      by_cases hyes : F2 = true ∧ F1 = src
      · obtain ⟨rfl, rfl⟩ := hyes
        have hst2 : Hid (rdrTo H key F1 (k + 1) = rdrTo H key F1 k ++ [k]) := hide (by rw [hst.out]; simp)
        clear hst
        generalize rdrTo H key F1 k = L at *
        have hkL : (intsN L).length + 1 ≤ maxLen := by rw [hlq.out]; unfold maxLen; omega
        have hkb : ((intsN L).length + 1) * 8 ≤ 140737488355328 := by rw [hlq.out]; omega
        generalize intsN L = D at *
        go_wp2_with (at_builtin; go_loud (refine wpList_push (enc := Go.Inq.encI) rfl (.tmp 31) (.tmp 33) 26 rfl (w.heap.size + 1) 3 ii _ 1 8 Tryz.underlying26 hii hi1 hi2 hi3 rfl (by decide) (.slice Av D.length cv) D rfl hown3.out (fun _ => rfl) (k : Int) _ rfl rfl Go.Inq.encI_one hkL hkb k3.lt w w.heap.size (by omega) hb3 ?_); intro v1 w6 hown1 hg1 hb1 hat1)
        have k6 := (k3.alloc (.cells #[.int .i64 (k : Int)] 3)).grown hg1 (fun e => by have := (hown3.out.lt _ e.symm).1; omega)
        go_roundw
        case rel => exact ⟨k + 1, by omega, by go_num, by rw [hst2.out, hsn.out]; exact hown1, hb1, k6⟩
        case measure => simp [intOf]; omega
      · have hst2 : Hid (rdrTo H key src (k + 1) = rdrTo H key src k) := hide (by rw [hst.out, if_neg (by simp only [beq_iff_eq, Prod.mk.injEq]; exact fun g => hyes ⟨g.2, g.1⟩)]; simp)
        clear hst
        cases F2 with
        | false =>
          go_wp2
          go_roundw
          case rel => exact ⟨k + 1, by omega, by go_num, by rw [hst2.out]; exact hown3.out, hb3, k3⟩
          case measure => simp [intOf]; omega
        | true =>
          have hne : (F1 == src) = false := by simpa using hyes
          clear hyes
          go_wp2
          go_roundw
          case rel => exact ⟨k + 1, by omega, by go_num, by rw [hst2.out]; exact hown3.out, hb3, k3⟩
          case measure => simp [intOf]; omega
    · obtain rfl : k = H.length := by omega
      go_wp2
      go_ret
      exact ⟨_, rfl, own_base' hown (by omega), hb⟩
end Go.Proofs.YtfhnamomiaekdaaGreat

namespace Go.Inq
open Go Go.RowKit

/-- From w to w' the row v became v'; all other blocks of w stay, but those of S. -/
structure GrowR (S : Nat → Prop) (w : World) (v : Value) (w' : World) (v' : Value) : Prop where
  os : w'.os = w.os
  tape : w'.tape = w.tape
  output : w'.output = w.output
  size : w.heap.size ≤ w'.heap.size
  block : ∀ k, k < w.heap.size → v.ownBlock ≠ some k → ¬ S k → w'.heap[k]? = w.heap[k]?
  own : ∀ g, v'.ownBlock = some g → v.ownBlock = some g ∨ w.heap.size ≤ g
def NoS : Nat → Prop := fun _ => False
theorem noS (b : Nat) : ¬ NoS b := id
section
variable {S : Nat → Prop} {w w1 w2 : World} {v v1 v2 : Value}
theorem GrowR.refl (S : Nat → Prop) (w : World) (v : Value) : GrowR S w v w v := ⟨rfl, rfl, rfl, Nat.le_refl _, fun _ _ _ _ => rfl, fun _ h => .inl h⟩
theorem GrowR.trans (h : GrowR S w v w1 v1) (h' : GrowR S w1 v1 w2 v2) : GrowR S w v w2 v2 :=
  ⟨h'.os.trans h.os, h'.tape.trans h.tape, h'.output.trans h.output, Nat.le_trans h.size h'.size, fun k hk hv hS => (h'.block k (Nat.lt_of_lt_of_le hk h.size) (fun e => by rcases h.own k e with e | e; exact hv e; omega) hS).trans (h.block k hk hv hS),
    fun g hg => by rcases h'.own g hg with e | e; exact h.own g e; exact .inr (Nat.le_trans h.size e)⟩
theorem GrowR.mono {S' : Nat → Prop} (h : GrowR S w v w1 v1) (hS : ∀ b, S b → S' b) : GrowR S' w v w1 v1 := ⟨h.os, h.tape, h.output, h.size, fun k hk hv hn => h.block k hk hv (fun g => hn (hS k g)), h.own⟩
theorem GrowR.call {B : Nat} (h : GrowR S w v w1 v1) (hb : Below B w1 w2) (hB : w1.heap.size ≤ B) : GrowR S w v w2 v1 :=
  h.trans ⟨hb.os, hb.tape, hb.output, hb.size, fun k hk _ _ => hb.block k (by omega), fun g hg => .inl hg⟩
theorem GrowR.alloc (h : GrowR S w v w1 v1) (o : Obj) : GrowR S w v (w1.alloc o) v1 := h.call ((Below.refl _ _).alloc (Nat.le_refl _) o) (Nat.le_refl _)
theorem GrowR.drew (h : GrowR S w v w1 v1) : GrowR S w v w1.drew v1 := ⟨h.os, h.tape, h.output, h.size, h.block, h.own⟩
theorem GrowR.drewN (h : GrowR S w v w1 v1) (n : Nat) : GrowR S w v (w1.drewN n) v1 := ⟨h.os, h.tape, h.output, h.size, h.block, h.own⟩
theorem GrowR.set_ (h : GrowR S w v w1 v1) {p : Addr} (hp : v1.ownBlock = some p.block ∨ w.heap.size ≤ p.block ∨ S p.block) (u : Value) : GrowR S w v (w1.setCell p u) v1 :=
  ⟨h.os, h.tape, h.output, by simpa using h.size, fun k hk hv hS => (Below.heap_setCell w1 p u k (fun e => by
    subst e
    rcases hp with e | e | e
    · rcases h.own _ e with e | e
      · exact hv e
      · omega
    · omega
    · exact hS e)).trans (h.block k hk hv hS), h.own⟩
theorem GrowR.row (h : GrowR S w v w1 v1) (hg : w1.grownBy w2 v1.ownBlock) (hv : ∀ g, v2.ownBlock = some g → v1.ownBlock = some g ∨ w1.heap.size ≤ g) : GrowR S w v w2 v2 :=
  h.trans ⟨hg.os, hg.tape, hg.output, hg.size, fun k hk hv _ => hg.block k hk (fun e => hv e.symm), hv⟩
theorem GrowR.agree {K : Nat → Prop} (h : GrowR S w v w1 v1) (hK : ∀ b, K b → b < w.heap.size ∧ v.ownBlock ≠ some b ∧ ¬ S b) : Agree K w w1 := fun b hb => h.block b (hK b hb).1 (hK b hb).2.1 (hK b hb).2.2
theorem GrowR.blk {g : Nat} {t : TypeId} {cs : Array Value} (h : GrowR S w v w1 v1) (hk : Blk w g t cs) (hv : v.ownBlock ≠ some g) (hS : ¬ S g) : Blk w1 g t cs := (h.block g hk.lt hv hS).trans hk
theorem GrowR.below {B : Nat} {w0 : World} (h : GrowR S w v w1 v1) (hb : Below B w0 w) (hB : B ≤ w.heap.size) (hv : ∀ g, v.ownBlock = some g → B ≤ g) (hS : ∀ g, S g → B ≤ g) : Below B w0 w1 :=
  hb.trans ⟨h.os, h.tape, h.output, h.size, fun k hk => h.block k (by omega) (fun e => by have := hv k e; omega) (fun e => by have := hS k e; omega)⟩
theorem GrowR.belowN {B : Nat} {w0 : World} (h : GrowR NoS w v w1 v1) (hb : Below B w0 w) (hB : B ≤ w.heap.size) (hv : ∀ g, v.ownBlock = some g → B ≤ g) : Below B w0 w1 := h.below hb hB hv (fun g hg => hg.elim)
/-- Another row than the one that grows. -/
theorem GrowR.other (h : GrowR S w v w1 v1) {u : Value} {base : Nat} {e : TypeId} {size n : Nat} {xs : List Value} (hu : w.ownsRow base e size u n xs) (hv : ∀ g, u.ownBlock = some g → v.ownBlock ≠ some g ∧ ¬ S g) : w1.ownsRow base e size u n xs := by
  refine ⟨hu.1, ?_⟩
  rcases hu.2 with h2 | ⟨g, cap, cur, h2, hg, hh, r⟩
  · exact .inl h2
  · refine .inr ⟨g, cap, cur, h2, hg, ?_, r⟩
    have hgl : g < w.heap.size := by
      rcases Nat.lt_or_ge g w.heap.size with h | h
      · exact h
      · rw [Array.getElem?_eq_none h] at hh; cases hh
    have := hv g (by rw [h2]; rfl)
    rw [h.block g hgl this.1 this.2]
    exact hh
end

/-- append(s, x), the element a block that was just made: the row has grown. -/
theorem wpList_pushG {P : Program} {W : World} {ops : Array Oper} {rest : List Oper} {o : Oper} {a : Act} {Q : Exit → Act → World → Prop} {α : Type} {enc : α → List Value}
    (hgd : o.guard = none) (s x : Operand) (t : TypeId) (ho : o.op = .call { callee := .builtin .append, args := #[s, x], argTypes := #[t, t] })
    (base : Nat) (e : TypeId) (i : TypeInfo) (z : Value) (size bytes : Nat) (ht : P.underlying t = some (.slice e)) (hi : P.info? e = some i) (hz : i.zero = some z)
    (hsize : i.size = size) (hby : i.bytes = bytes) (hzs : z.cells.size = size) (hsz : 0 < size)
    (v : Value) (l : List α) (hs : a.eval s = v) (hown : W.ownsRow base e size v l.length (l.map enc).flatten) (hen : ∀ x, (enc x).length = size)
    (x0 : α) (cs : Array Value) (hcs : cs.toList = enc x0) (hx : a.eval x = .slice (some ⟨W.heap.size, 0, none⟩) 1 1)
    (h1 : ∀ x, ∀ u ∈ enc x, u.oneCell' = true) (h63 : l.length + 1 ≤ maxLen) (hbytes : (l.length + 1) * bytes ≤ 140737488355328) (hbase : base ≤ W.heap.size)
    (h : ∀ v' w', w'.ownsRow base e size v' (l ++ [x0]).length ((l ++ [x0]).map enc).flatten → GrowR NoS W v w' v' → wpList P ops Q rest (a.put o.dst v') w') :
    wpList P ops Q (o :: rest) a (W.alloc (.cells cs e)) := by
  refine wpList_push (enc := enc) hgd s x t ho base e i z size bytes ht hi hz hsize hby hzs hsz v l hs hown hen x0 cs hcs hx h1 h63 hbytes hbase W base (Nat.le_refl _) (Below.refl _ _) ?_
  intro v' w' g1 g2 _ g4
  refine h v' w' g1 (((GrowR.refl NoS W v).alloc _).row g2 ?_)
  intro g hg
  rcases g4 with e | e
  · exact .inl (e ▸ hg)
  · rw [e] at hg
    injection hg with hg
    subst hg
    right
    simp
end Go.Inq

namespace Go.Proofs.YtfhnamomiaekdaaGreat
open Go.RowKit Go.Inq
set_option maxHeartbeats 8000000
attribute [local go_sem ↓] Go.wp_at_zero Go.wp_at_succ

set_option maxRecDepth 100000 in
theorem rwriters09_any (A : Option Addr) (c : Nat) (H : List Txn) (key : Int) (w : World) (h : TxnS w (Old w) (.slice A H.length c) H) (hr : rightH H = true) (hn : SmallH H) :
    Calls Tryz.prog 39 #[.agg #[.slice A H.length c], .int .i64 key] w (OutI w (intsN (wrsL H key))) := by
  obtain ⟨ii, hii, hi1, hi2, hi3⟩ := info_parts infoI10
  have h32 : H.length ≤ 32 := ((rightH_iff H).1 hr).1
  obtain ⟨W0, hW0⟩ : ∃ W0, w.alloc (.cells #[.slice A H.length c] 24) = W0 := ⟨_, rfl⟩
  have hB := below_allocEq (Below.refl w.heap.size w) hW0 (Nat.le_refl _)
  have k0 := Blk.newEq hW0
  have h0 := h.below hB
  have hrc := hide (right08_any A c H W0 h0 hn)
  rw [hr] at hrc
  have c0 := k0.cell 0
  simp only [List.getElem?_toArray, List.getElem?_cons_zero, List.getElem?_cons_succ] at c0
  go_enter Tryz.func39, Tryz.ntmps39
  go_wp2_with fail
  clear hW0 c0
  refine hrc.out.mono ?_
  rintro e w1 ⟨rfl, hb1⟩
  have hB1 := hB.trans (hb1.mono hB.size)
  replace k0 := k0.below hb1 k0.lt
  clear hrc h0 hb1 hB
  go_wp2_with fail
  go_loopw [5, 7] (fun s5 s7 wr => ∃ k : Nat, k ≤ H.length ∧ s7 = .int .i64 k ∧ OwnI wr (w.heap.size + 1) s5 (intsN (wrsTo H key k)) ∧ Below w.heap.size w wr ∧ Blk wr w.heap.size 24 #[.slice A H.length c]) (fun _ s7 _ => H.length - (intOf s7).toNat)
  case atStart => exact ⟨0, Nat.zero_le _, by go_num, OwnI.nil _ _, hB1, k0⟩
  case round =>
    clear k0 hB1
    obtain ⟨k, hk, rfl, hown, hb, k0⟩ := hrel
    have hk1 : (0 : Int) ≤ (k : Int) := Int.natCast_nonneg _
    have c0 := k0.cell 0
    simp only [List.getElem?_toArray, List.getElem?_cons_zero, List.getElem?_cons_succ] at c0
    by_cases hlt : k < H.length
    · have hk2 : (k : Int) < (H.length : Int) := by omega
      obtain ⟨b, off, Aw, cw, Ar, cr, rfl, _, d0, d1, d2, hws, _⟩ := TxnS.at_ (h.below hb) hlt
      have hwl : H[k].writes.length ≤ maxLen := by have := (hn.2 _ (List.getElem_mem hlt)).1; unfold maxLen; omega
      have hst := hide (wrsTo_step H key k)
      rw [txnAt_of hlt] at hst
      have hcnt : (wrsTo H key k).length ≤ k := Nat.le_trans (List.length_filter_le _ _) (by simp)
      have hsn := hide (intsN_snoc (wrsTo H key k) k)
      have hlq := hide (intsN_len (wrsTo H key k))
      have hcw := hide (writes08_any H[k].sess Aw cw H[k].writes (.slice Ar H[k].reads.length cr) key (Old wr) wr hws (fun b h => h) hwl)
      generalize H[k].writes = L at *
      generalize H[k].sess = sy at *
      generalize H[k].reads = Ry at *
      generalize L.contains key = cb at *
      obtain ⟨Av, cv, rfl⟩ := hown.form
      replace hown := hide hown
      clear hws
      go_wp2_with fail
      clear c0 d0 d1 d2
      refine hcw.out.mono ?_
      rintro e w3 ⟨rfl, hb2⟩
      have hb3 := hb.trans (hb2.mono hb.size)
      have k3 := k0.below hb2 k0.lt
      have hown3 := hide (own_below hown.out hb2 (Nat.le_refl _))
      have hsz2 := hb3.size
      clear hcw hown hb2
      cases cb with
      | true =>
        have hst2 : Hid (wrsTo H key (k + 1) = wrsTo H key k ++ [k]) := hide (by rw [hst.out]; rfl)
        clear hst
        generalize wrsTo H key k = L at *
        have hkL : (intsN L).length + 1 ≤ maxLen := by rw [hlq.out]; unfold maxLen; omega
        have hkb : ((intsN L).length + 1) * 8 ≤ 140737488355328 := by rw [hlq.out]; omega
        generalize intsN L = D at *
        go_wp2_with (at_builtin; go_loud (refine wpList_push (enc := Go.Inq.encI) rfl (.tmp 29) (.tmp 31) 26 rfl (w.heap.size + 1) 3 ii _ 1 8 Tryz.underlying26 hii hi1 hi2 hi3 rfl (by decide) (.slice Av D.length cv) D rfl hown3.out (fun _ => rfl) (k : Int) _ rfl rfl Go.Inq.encI_one hkL hkb k3.lt w w.heap.size (by omega) hb3 ?_); intro v1 w6 hown1 hg1 hb1 hat1)
        have k6 := (k3.alloc (.cells #[.int .i64 (k : Int)] 3)).grown hg1 (fun e => by have := (hown3.out.lt _ e.symm).1; omega)
        go_roundw
        case rel => exact ⟨k + 1, by omega, by go_num, by rw [hst2.out, hsn.out]; exact hown1, hb1, k6⟩
        case measure => simp [intOf]; omega
      | false =>
        have hst2 : Hid (wrsTo H key (k + 1) = wrsTo H key k) := hide (by rw [hst.out]; simp)
        clear hst
        go_wp2
        go_roundw
        case rel => exact ⟨k + 1, by omega, by go_num, by rw [hst2.out]; exact hown3.out, hb3, k3⟩
        case measure => simp [intOf]; omega
    · obtain rfl : k = H.length := by omega
      go_wp2
      go_ret
      exact ⟨_, rfl, own_base' hown (by omega), hb⟩

/-- The pairs of the keys below k. -/
def pairsR (H : List Txn) (k : Nat) : List Cho := ((List.range k).map fun (key : Nat) => pairsK (key : Int) (wrsL H (key : Int))).flatten
theorem pairsR_step (H : List Txn) (k : Nat) : pairsR H (k + 1) = pairsR H k ++ pairsK (k : Int) (wrsL H (k : Int)) := by
  unfold pairsR
  rw [List.range_succ, List.map_append, List.flatten_append]
  simp
theorem flat_filter {α β : Type} (p : α → Bool) (f : α → List β) : ∀ l : List α, (∀ x ∈ l, p x = false → f x = []) → ((l.filter p).map f).flatten = (l.map f).flatten
  | [], _ => rfl
  | x :: l, h => by
    have ih := flat_filter p f l fun y hy => h y (by simp [hy])
    cases hp : p x with
    | true => simp [hp, ih]
    | false => simp [hp, ih, h x (by simp) hp]
theorem pairsR_all {H : List Txn} (hr : rightH H = true) : pairsR H 16 = pairsL H := by
  have hb : ∀ t ∈ H, ∀ k ∈ t.writes, 0 ≤ k ∧ k < 16 := fun t ht k hk => by
    obtain ⟨i, hi, rfl⟩ := List.getElem_of_mem ht
    exact (((rightH_iff H).1 hr).2 i hi).wkey k hk
  unfold pairsR pairsL
  rw [keysL_16 hb, List.map_map]
  symm
  refine flat_filter _ _ _ fun k _ hk => ?_
  have : wrsL H (k : Int) = [] := by simpa using hk
  show pairsK (k : Int) (wrsL H (k : Int)) = []
  rw [this]
  rfl
theorem pairsR_len {H : List Txn} (h32 : H.length ≤ 32) : ∀ k, (pairsR H k).length ≤ k * 1024
  | 0 => by simp [pairsR]
  | k + 1 => by
    rw [pairsR_step, List.length_append]
    have h1 := pairsR_len h32 k
    have h2 := pairsK_len (k : Int) (wrsL H (k : Int))
    have h3 := wrsL_len H (k : Int)
    have h4 : (wrsL H (k : Int)).length * (wrsL H (k : Int)).length ≤ 32 * 32 := Nat.mul_le_mul (by omega) (by omega)
    omega
end Go.Proofs.YtfhnamomiaekdaaGreat

namespace Go.Proofs.YtfhnamomiaekdaaGreat
open Go.RowKit Go.Inq
set_option maxHeartbeats 8000000
attribute [local go_sem ↓] Go.wp_at_zero Go.wp_at_succ

set_option maxRecDepth 100000 in
theorem rplace21_any (A : Option Addr) (c : Nat) (l : List Int) (x : Int) (K : Nat → Prop) (w : World) (h : IntS w K (.slice A l.length c) l) (hn : l.length ≤ 1000000000) :
    Calls Tryz.prog 40 #[.slice A l.length c, .int .i64 x] w fun e w' => e = .returned (.int .i64 (idxI l x)) ∧ w = w' := by
  replace h := hide h
  have hhit := hide (fun k (hk : k < l.length) => idxI_first (x := x) hk)
  have hmis := hide (idxI_miss (l := l) (x := x))
  generalize idxI l x = r at *
  go_enter Tryz.func40, Tryz.ntmps40
  go_wp2_with fail
  go_loop [5] (fun s5 => ∃ k : Nat, k ≤ l.length ∧ s5 = .int .i64 k ∧ Hid ((l.take k).contains x = false)) (fun s5 => l.length - (intOf s5).toNat)
  case atStart => exact ⟨0, Nat.zero_le _, by go_num, hide rfl⟩
  case round =>
    obtain ⟨k, hk, rfl, hc⟩ := hrel
    have hk1 : (0 : Int) ≤ (k : Int) := Int.natCast_nonneg _
    by_cases hlt : k < l.length
    · have hki : (k : Int) < (l.length : Int) := by omega
      obtain ⟨b, off, rfl, -, x1⟩ := h.out.at_ hlt
      have hst : Hid ((l.take (k + 1)).contains x = ((l.take k).contains x || l[k] == x)) := hide (by rw [take_snoc' hlt, List.contains_append]; congr 1; rw [List.contains_cons, List.contains_nil, Bool.or_false]; rw [Bool.eq_iff_iff, beq_iff_eq, beq_iff_eq]; exact eq_comm)
      have hin := hide (fun e => hhit.out k hlt hc.out e)
      generalize l[k] = y at *
      cases hy : (y == x) with
      | true =>
        have hr := hin.out (by simpa using hy)
        subst hr
        clear hin hst
        replace hc := hide hc
        replace hhit := hide hhit
        go_wp2
        go_ret
        exact ⟨rfl, rfl⟩
      | false =>
        have hr : Hid ((l.take (k + 1)).contains x = false) := hide (by rw [hst.out, hc.out, hy]; rfl)
        clear hin hst
        replace hc := hide hc
        go_wp2
        go_round
        case rel => exact ⟨k + 1, by omega, by go_num, hr⟩
        case measure => simp [intOf]; omega
    · obtain rfl : k = l.length := by omega
      have hr := hmis.out (by have := hc.out; rwa [List.take_length] at this)
      subst hr
      replace hc := hide hc
      go_wp2
      go_ret
      exact ⟨rfl, rfl⟩

set_option maxRecDepth 100000 in
theorem rwriters09_no (A : Option Addr) (c : Nat) (H : List Txn) (key : Int) (w : World) (h : TxnS w (Old w) (.slice A H.length c) H) (hr : rightH H = false) (hn : SmallH H) :
    Calls Tryz.prog 39 #[.agg #[.slice A H.length c], .int .i64 key] w (OutI w []) := by
  obtain ⟨W0, hW0⟩ : ∃ W0, w.alloc (.cells #[.slice A H.length c] 24) = W0 := ⟨_, rfl⟩
  have hB := below_allocEq (Below.refl w.heap.size w) hW0 (Nat.le_refl _)
  have k0 := Blk.newEq hW0
  have h0 := h.below hB
  have hrc := hide (right08_any A c H W0 h0 hn)
  rw [hr] at hrc
  have c0 := k0.cell 0
  simp only [List.getElem?_toArray, List.getElem?_cons_zero, List.getElem?_cons_succ] at c0
  go_enter Tryz.func39, Tryz.ntmps39
  go_wp2_with fail
  clear hW0 c0
  refine hrc.out.mono ?_
  rintro e w1 ⟨rfl, hb1⟩
  have hB1 := hB.trans (hb1.mono hB.size)
  clear hrc h0 hb1 hB k0
  go_wp2_with fail
  go_loopw [5, 7] (fun s5 s7 wr => s5 = .slice none 0 0 ∧ s7 = .int .i64 0 ∧ Below w.heap.size w wr) (fun _ s7 _ => 0)
  case atStart => exact ⟨rfl, by go_num, hB1⟩
  case round =>
    clear hB1
    obtain ⟨rfl, rfl, hb⟩ := hrel
    go_wp2
    go_ret
    exact ⟨_, rfl, OwnI.nil _ _, hb⟩

/-- Keys below one, by who writes each. -/
def ksTo (f : Nat → List Int) (k : Nat) : List Int := ((List.range k).filter fun x => decide (f x ≠ [])).map fun (x : Nat) => (x : Int)
theorem ksTo_skip {f : Nat → List Int} {k : Nat} (h : f k = []) : ksTo f (k + 1) = ksTo f k := by
  unfold ksTo; rw [List.range_succ, List.filter_append, List.map_append]; simp [h]
theorem ksTo_next {f : Nat → List Int} {k : Nat} (h : f k ≠ []) : ksTo f (k + 1) = ksTo f k ++ [(k : Int)] := by
  unfold ksTo; rw [List.range_succ, List.filter_append, List.map_append]; simp [h]
theorem ksTo_len (f : Nat → List Int) (k : Nat) : (ksTo f k).length ≤ k := by
  unfold ksTo; rw [List.length_map]; exact Nat.le_trans (List.length_filter_le _ _) (by simp)
set_option maxRecDepth 100000 in
theorem rkeys09_by (A : Option Addr) (c : Nat) (H : List Txn) (f : Nat → List Int) (w : World) (hf : ∀ k, (f k).length ≤ 1000000) (hw : ∀ W (k : Nat), Below w.heap.size w W → Calls Tryz.prog 39 #[.agg #[.slice A H.length c], .int .i64 (k : Int)] W (OutI W (f k))) :
    Calls Tryz.prog 38 #[.agg #[.slice A H.length c]] w (OutI w (ksTo f 16)) := by
  obtain ⟨ii, hii, hi1, hi2, hi3⟩ := info_parts infoI10
  obtain ⟨W0, hW0⟩ : ∃ W0, w.alloc (.cells #[.slice A H.length c] 24) = W0 := ⟨_, rfl⟩
  have hB := below_allocEq (Below.refl w.heap.size w) hW0 (Nat.le_refl _)
  have k0 := Blk.newEq hW0
  replace hw := hide hw
  go_enter Tryz.func38, Tryz.ntmps38
  go_wp2_with fail
  clear hW0
  go_loopw [3, 4] (fun s3 s4 wr => ∃ k : Nat, k ≤ 16 ∧ s4 = .int .i64 k ∧ OwnI wr (w.heap.size + 1) s3 (ksTo f k) ∧ Below w.heap.size w wr ∧ Blk wr w.heap.size 24 #[.slice A H.length c]) (fun _ s4 _ => 16 - (intOf s4).toNat)
  case atStart => exact ⟨0, Nat.zero_le _, by go_num, OwnI.nil _ _, hB, k0⟩
  case round =>
    clear k0 hB
    obtain ⟨k, hk, rfl, hown, hb, k0⟩ := hrel
    have hk1 : (0 : Int) ≤ (k : Int) := Int.natCast_nonneg _
    have c0 := k0.cell 0
    simp only [List.getElem?_toArray, List.getElem?_cons_zero, List.getElem?_cons_succ] at c0
    by_cases hlt : k < 16
    · have hk2 : (k : Int) < 16 := by omega
      obtain ⟨Av, cv, rfl⟩ := hown.form
      replace hown := hide hown
      go_wp2_with fail
      clear c0
      refine (hw.out wr k hb).mono ?_
      rintro e w3 ⟨vl, rfl, hLO, hbl⟩
      obtain ⟨Al, cl, rfl⟩ := hLO.form
      have hb3 := hb.trans (hbl.mono hb.size)
      have k3 := k0.below hbl k0.lt
      have hown3 := hide (own_below hown.out hbl (Nat.le_refl _))
      have hsz2 := hb3.size
      have hfk := hf k
      have hskip := hide (fun e => ksTo_skip (f := f) (k := k) e)
      have hnext := hide (fun e => ksTo_next (f := f) (k := k) e)
      have hcnt := ksTo_len f k
      generalize f k = L at *
      clear hown hbl hLO
      by_cases hL0 : L.length = 0
      · have hz1 : decide ((L.length : Int) > 0) = false := by rw [hL0]; rfl
        have hz2 : decide (0 < L.length) = false := by rw [hL0]; rfl
        have hst := hide (hskip.out (List.eq_nil_of_length_eq_zero hL0))
        clear hL0 hskip hnext
        go_wp2
        go_roundw
        case rel => exact ⟨k + 1, by omega, by go_num, by rw [hst.out]; exact hown3.out, hb3, k3⟩
        case measure => simp [intOf]; omega
      · have hz1 : decide ((L.length : Int) > 0) = true := decide_eq_true (by omega)
        have hz2 : decide (0 < L.length) = true := decide_eq_true (by omega)
        have hst := hide (hnext.out (fun e => hL0 (by rw [e]; rfl)))
        clear hL0 hskip hnext
        generalize ksTo f k = D at *
        have hkL : D.length + 1 ≤ maxLen := by unfold maxLen; omega
        have hkb : (D.length + 1) * 8 ≤ 140737488355328 := by omega
        go_wp2_with (at_builtin; go_loud (refine wpList_push (enc := Go.Inq.encI) rfl (.tmp 16) (.tmp 18) 26 rfl (w.heap.size + 1) 3 ii _ 1 8 Tryz.underlying26 hii hi1 hi2 hi3 rfl (by decide) (.slice Av D.length cv) D rfl hown3.out (fun _ => rfl) (k : Int) _ rfl rfl Go.Inq.encI_one hkL hkb k3.lt w w.heap.size (by omega) hb3 ?_); intro v1 w6 hown1 hg1 hb1 hat1)
        have k6 := (k3.alloc (.cells #[.int .i64 (k : Int)] 3)).grown hg1 (fun e => by have := (hown3.out.lt _ e.symm).1; omega)
        go_roundw
        case rel => exact ⟨k + 1, by omega, by go_num, by rw [hst.out]; exact hown1, hb1, k6⟩
        case measure => simp [intOf]; omega
    · obtain rfl : k = 16 := by omega
      go_wp2
      go_ret
      exact ⟨_, rfl, own_base' hown (by omega), hb⟩
/-- The keys, if a history may be. -/
def keysR (H : List Txn) : List Int := if rightH H then keysL H else []
theorem rkeys09_any (A : Option Addr) (c : Nat) (H : List Txn) (w : World) (h : TxnS w (Old w) (.slice A H.length c) H) (hn : SmallH H) :
    Calls Tryz.prog 38 #[.agg #[.slice A H.length c]] w (OutI w (keysR H)) := by
  cases hr : rightH H with
  | true =>
    have h1 := rkeys09_by A c H (fun k => intsN (wrsL H (k : Int))) w (fun k => by
      rw [intsN_len]; have := wrsL_len H (k : Int); have := hn.1; omega) (fun W k hb => rwriters09_any A c H k W (h.below hb) hr hn)
    have he : ksTo (fun k => intsN (wrsL H (k : Int))) 16 = keysR H := by
      unfold keysR
      rw [hr, if_pos rfl, ← keysTo_all hr]
      unfold ksTo keysTo
      congr 1
      refine List.filter_congr fun k _ => ?_
      show decide (intsN (wrsL H (k : Int)) ≠ []) = decide (wrsL H (k : Int) ≠ [])
      generalize wrsL H (k : Int) = L
      cases L <;> simp [intsN]
    rwa [he] at h1
  | false =>
    have h1 := rkeys09_by A c H (fun _ => []) w (fun k => by simp) (fun W k hb => rwriters09_no A c H k W (h.below hb) hr hn)
    have he : ksTo (fun _ => []) 16 = keysR H := by
      unfold keysR
      rw [hr]; rfl
    rwa [he] at h1
end Go.Proofs.YtfhnamomiaekdaaGreat

namespace Go.Proofs.YtfhnamomiaekdaaGreat
open Go.RowKit Go.Inq

theorem perm_of_sub : ∀ {a b : List Int}, a.Nodup → (∀ x ∈ a, x ∈ b) → a.length = b.length → a.Perm b
  | [], b, _, _, h => by
    have : b = [] := List.eq_nil_of_length_eq_zero (by simpa using h.symm)
    rw [this]
  | x :: a, b, hn, hs, hl => by
    rw [List.nodup_cons] at hn
    have hx : x ∈ b := hs x (by simp)
    have h1 : a.Perm (b.erase x) := perm_of_sub hn.2 (fun y hy => (List.mem_erase_of_ne (fun e : y = x => hn.1 (by rw [← e]; exact hy))).2 (hs y (by simp [hy]))) (by rw [List.length_erase_of_mem hx]; simp at hl; omega)
    exact (h1.cons x).trans (List.perm_cons_erase hx).symm
/-- A row that may be, as the reference looks at it. -/
structure RokI (H : List Txn) (r : SRow) (ky : Int) : Prop where
  key : r.key = ky
  len : r.l.length = (intsN (wrsL H ky)).length
  mem : ∀ x ∈ intsN (wrsL H ky), x ∈ r.l
theorem rightS_rok (H : List Txn) (R : List SRow) : rightS H R = true ↔ rightH H = true ∧ R.length = (keysL H).length ∧ ∀ i (h1 : i < R.length) (h2 : i < (keysL H).length), RokI H R[i] (keysL H)[i] := by
  rw [okS_iff]
  constructor
  · intro ho
    refine ⟨ho.right, by rw [← ho.keys, List.length_map], fun i h1 h2 => ?_⟩
    have hk : R[i].key = (keysL H)[i] := by
      have : (R.map (·.key))[i]'(by rw [List.length_map]; exact h1) = (keysL H)[i] := by congr 1; exact ho.keys
      rwa [List.getElem_map] at this
    have hp := ho.perm R[i] (List.getElem_mem h1)
    rw [hk] at hp
    exact ⟨hk, hp.length_eq, fun x hx => hp.mem_iff.2 hx⟩
  · rintro ⟨h1, h2, h3⟩
    refine ⟨h1, List.ext_getElem (by rw [List.length_map]; exact h2) fun i g1 g2 => ?_, fun r hr => ?_⟩
    · rw [List.getElem_map]
      exact (h3 i (by rw [List.length_map] at g1; exact g1) g2).key
    · obtain ⟨i, hi, rfl⟩ := List.getElem_of_mem hr
      have h4 := h3 i hi (by omega)
      rw [h4.key]
      exact (perm_of_sub (natI_nodup (wrsL_rise H _)) h4.mem h4.len.symm).symm
theorem rok_no {H : List Txn} {R : List SRow} {i : Nat} (h1 : i < R.length) (h2 : i < (keysL H).length) (h : RokI H R[i] (keysL H)[i] → False) : rightS H R = false := by
  rw [Bool.eq_false_iff]
  intro e
  exact h ((rightS_rok H R).1 e |>.2.2 i h1 h2)
theorem rok_len {H : List Txn} {R : List SRow} (h : R.length ≠ (keysL H).length) : rightS H R = false := by
  rw [Bool.eq_false_iff]
  intro e
  exact h ((rightS_rok H R).1 e).2.1
end Go.Proofs.YtfhnamomiaekdaaGreat

namespace Go.Proofs.YtfhnamomiaekdaaGreat
open Go.RowKit Go.Inq
set_option maxHeartbeats 8000000
attribute [local go_sem ↓] Go.wp_at_zero Go.wp_at_succ

set_option maxRecDepth 100000 in
theorem rright21_any (A : Option Addr) (c : Nat) (H : List Txn) (Ar : Option Addr) (cr : Nat) (R : List SRow) (w : World) (h : TxnS w (Old w) (.slice A H.length c) H) (hn : SmallH H) (hR : RowS w (Old w) (.slice Ar R.length cr) R) (hf : FitS R) :
    Calls Tryz.prog 10 #[.agg #[.slice A H.length c], .slice Ar R.length cr] w fun e w' => e = .returned (.bool (rightS H R)) ∧ Below w.heap.size w w' := by
  obtain ⟨W0, hW0⟩ : ∃ W0, w.alloc (.cells #[.slice A H.length c] 24) = W0 := ⟨_, rfl⟩
  have hB := below_allocEq (Below.refl w.heap.size w) hW0 (Nat.le_refl _)
  have k0 := Blk.newEq hW0
  have h0 := hide (h.below hB)
  have hno := hide (rightS_no (H := H) (R := R))
  have hRl := hf.1
  have hfl := hide (fun i (hi : i < R.length) => hf.2 _ (List.getElem_mem hi))
  replace hf := hide hf
  replace hn := hide hn
  replace h := hide h
  replace hR := hide hR
  have c0 := k0.cell 0
  simp only [List.getElem?_toArray, List.getElem?_cons_zero, List.getElem?_cons_succ] at c0
  go_enter Tryz.func10, Tryz.ntmps10
  go_wp2_with fail
  clear hW0 c0
  refine (right08_any A c H _ h0.out hn.out).mono ?_
  rintro e w1 ⟨rfl, hb1⟩
  replace k0 := k0.below hb1 k0.lt
  have hb := hB.trans (hb1.mono hB.size)
  have hT1 := hide (h0.out.below hb1)
  have c0 := k0.cell 0
  simp only [List.getElem?_toArray, List.getElem?_cons_zero, List.getElem?_cons_succ] at c0
  clear hb1 hB h0
  go_wp2_with fail
  clear c0
  refine (rkeys09_any A c H _ hT1.out hn.out).mono ?_
  rintro e w2 ⟨vk, rfl, hKO, hb2⟩
  replace k0 := k0.below hb2 k0.lt
  replace hb := hb.trans (hb2.mono hb.size)
  obtain ⟨Ak, ck, rfl⟩ := hKO.form
  have hKS := hKO.sl (K := Old w2) (fun g h1 h2 => h2)
  clear hb2 hT1 hKO
  cases hr : rightH H with
  | false =>
    have hx := hide (hno.out hr)
    clear hr hno hKS
    go_wp2
    go_ret
    exact ⟨ret_bool hx.out.symm, hb⟩
  | true =>
    have hKe : keysR H = keysL H := by unfold keysR; rw [hr]; rfl
    have hyes := hide (rightS_rok H R)
    have hbad := hide (fun i (h1 : i < R.length) (h2 : i < (keysL H).length) g => rok_no h1 h2 g)
    have hlb := hide (rok_len (H := H) (R := R))
    have hK16 := keysL_16len hr
    have hwr := hide (fun W (key : Int) (hb : Below w.heap.size w W) => rwriters09_any A c H key W (h.out.below hb) hr hn.out)
    replace hr := hide hr
    rw [hKe] at hKS ⊢
    clear hKe hno
    generalize hKK : keysL H = Ks at *
    clear hKK
    by_cases hlen : R.length = Ks.length
    · have hz1 : ((R.length : Int) != (Ks.length : Int)) = false := by rw [hlen]; exact bne_self_eq_false _
      have hend := hide (fun (g : ∀ i (h1 : i < R.length) (h2 : i < Ks.length), RokI H R[i] Ks[i]) => hyes.out.2 ⟨hr.out, hlen, g⟩)
      replace hlen := hide hlen
      clear hyes hlb
      go_wp2_with fail
      go_loopw [7] (fun s7 wr => ∃ i : Nat, i ≤ R.length ∧ s7 = .int .i64 i ∧ Hid (∀ j (h1 : j < R.length) (h2 : j < Ks.length), j < i → RokI H R[j] Ks[j]) ∧ Below w.heap.size w wr ∧ Blk wr w.heap.size 24 #[.slice A H.length c] ∧ IntS wr (Old wr) (.slice Ak Ks.length ck) Ks) (fun s7 _ => R.length - (intOf s7).toNat)
      case atStart => exact ⟨0, Nat.zero_le _, by go_num, hide (fun j _ _ g => absurd g (by omega)), hb, k0, hKS⟩
      case round =>
        clear hb k0 hKS
        obtain ⟨Wo, rfl⟩ : ∃ Wo, Wo = wr := ⟨_, rfl⟩
        obtain ⟨i, hi, rfl, hall, hb, k0, hKS⟩ := hrel
        have hi1 : (0 : Int) ≤ (i : Int) := Int.natCast_nonneg _
        by_cases hil : i < R.length
        · have hi2 : (i : Int) < (R.length : Int) := by omega
          have hik : i < Ks.length := by have := hlen.out; omega
          have hi3 : (i : Int) < (Ks.length : Int) := by omega
          have c0 := k0.cell 0
          simp only [List.getElem?_toArray, List.getElem?_cons_zero, List.getElem?_cons_succ] at c0
          obtain ⟨bk, ok, rfl, _, d0⟩ := hKS.at_ hik
          have hW1 := hide (hbad.out i hil hik)
          have hst := hide (fun (g : RokI H R[i] Ks[i]) j (h1 : j < R.length) (h2 : j < Ks.length) (hj : j < i + 1) => (by
            by_cases e : j = i
            · subst e; exact g
            · exact hall.out j h1 h2 (by omega) : RokI H R[j] Ks[j]))
          have hyl := hfl.out i hil
          go_upto_region 8 with fail
          refine wp_region_plan [0, 1, 2, 3, 4] [5, 6] (by kernel_rfl) (by kernel_rfl) (fun _ _ d _ _ h => by cases d <;> exact h) ?_
          simp only [List.filterMap_cons, List.filterMap_nil, List.getElem?_cons_zero, List.getElem?_cons_succ]
          repeat still_step
          refine wpStill_nil ?_
          have hbd : Below w.heap.size w Wo.drew := hb.trans ⟨rfl, rfl, rfl, Nat.le_refl _, fun _ _ => rfl⟩
          have kd : Blk Wo.drew w.heap.size 24 #[.slice A H.length c] := k0
          have hKd : IntS Wo.drew (Old Wo.drew) (.slice (some ⟨bk, ok, none⟩) Ks.length ck) Ks := IntS.keep hKS (Agree.drew _ _) (fun b h => h)
          have hL1 : (intsN (wrsL H Ks[i])).length ≤ 1000000 := by rw [intsN_len]; have := wrsL_len H Ks[i]; have := hn.out.1; omega
          have hgood := hide (fun (e1 : R[i].key = Ks[i]) (e2 : R[i].l.length = (intsN (wrsL H Ks[i])).length) (e3 : ∀ x ∈ intsN (wrsL H Ks[i]), x ∈ R[i].l) => hst.out ⟨e1, e2, e3⟩)
          have hbd1 := hide (fun (e : R[i].key ≠ Ks[i]) => hW1.out (fun g => e g.key))
          have hbd2 := hide (fun (e : R[i].l.length ≠ (intsN (wrsL H Ks[i])).length) => hW1.out (fun g => e g.len))
          have hbd3 := hide (fun x (hx : x ∈ intsN (wrsL H Ks[i])) (e : x ∉ R[i].l) => hW1.out (fun g => e (g.mem x hx)))
          go_wp2_with fail
          refine (hwr.out _ Ks[i] hbd).mono ?_
          rintro e wl ⟨vl, rfl, hLO, hbl'⟩
          have hbl : Below Wo.heap.size Wo wl := ⟨hbl'.os, hbl'.tape, hbl'.output, hbl'.size, hbl'.block⟩
          have hb2 := hb.trans (hbl.mono hb.size)
          have k2 := k0.below hbl k0.lt
          have hK2 := hKS.below hbl
          have d0' := (hbl.cell (p := ⟨bk, ok + i, none⟩) (block_lt_of_cell d0)).trans d0
          obtain ⟨br, or_, Ay, cy, rfl, _, e0, e1, hy⟩ := (hR.out.below hb2).at_ hil
          obtain ⟨Al, cl, rfl⟩ := hLO.form
          have hLS := hLO.sl (K := Old wl) (fun g h1 h2 => h2)
          clear hst hW1 hbd hbl' hbl kd hKd hLO c0 d0 hb k0 hKS hall
          generalize intsN (wrsL H Ks[i]) = L at *
          generalize Ks[i] = ky at *
          generalize R[i] = row at *
          obtain ⟨rk, rl⟩ := row
          dsimp only at *
          replace hy := hide hy
          replace hLS := hide hLS
          replace hK2 := hide hK2
          by_cases hke : rk = ky
          · have hz2 : (rk != ky) = false := by rw [hke]; exact bne_self_eq_false _
            by_cases hle : rl.length = L.length
            · have hz3 : ((rl.length : Int) != (L.length : Int)) = false := by rw [hle]; exact bne_self_eq_false _
              replace hgood := hide (fun g => hgood.out hke hle g)
              clear hbd1 hbd2 hke hle
              go_wp2_with fail
              go_quiet (fail)
              go_wp2_with fail
              go_loopw [9] (fun s9 wq => ∃ k : Nat, k ≤ L.length ∧ s9 = .int .i64 k ∧ Hid (∀ j (hj : j < L.length), j < k → L[j] ∈ rl) ∧ Below wl.heap.size wl wq) (fun s9 _ => L.length - (intOf s9).toNat)
              case atStart => exact ⟨0, Nat.zero_le _, by go_num, hide (fun j _ g => absurd g (by omega)), ⟨rfl, rfl, rfl, Nat.le_refl _, fun _ _ => rfl⟩⟩
              case round =>
                obtain ⟨Wp, rfl⟩ : ∃ Wp, Wp = wr := ⟨_, rfl⟩
                obtain ⟨k, hk, rfl, hin, hbq⟩ := hrel
                have hk1 : (0 : Int) ≤ (k : Int) := Int.natCast_nonneg _
                by_cases hkl : k < L.length
                · have hk2 : (k : Int) < (L.length : Int) := by omega
                  obtain ⟨bl, ol, rfl, _, f0⟩ := (hLS.out.below hbq).at_ hkl
                  have x1 := (hbq.cell (p := ⟨br, or_ + i * 2 + 1, none⟩) (block_lt_of_cell e1)).trans e1
                  have hyq := hide (hy.out.below hbq)
                  have hnx := hide (fun (g : L[k] ∈ rl) j (hj : j < L.length) (hjk : j < k + 1) => (by
                    by_cases e : j = k
                    · subst e; exact g
                    · exact hin.out j hj (by omega) : L[j] ∈ rl))
                  have hbx := hide (fun (e : L[k] ∉ rl) => hbd3.out L[k] (List.getElem_mem hkl) e)
                  have hneg := hide (idxI_neg (l := rl) (x := L[k]))
                  generalize L[k] = x at *
                  have hpl := hide (fun W K (g : IntS W K (.slice Ay rl.length cy) rl) => (rplace21_any Ay cy rl x K W g (by omega)).mono fun _ _ h => (⟨h.1, h.2.symm⟩ : _ ∧ _))
                  generalize idxI rl x = at_ at *
                  by_cases hm : x ∈ rl
                  · have hq : decide (at_ < 0) = false := decide_eq_false (fun e => by have := hneg.out.1 e; rw [List.contains_iff_mem.2 hm] at this; cases this)
                    have hn2 := hide (hnx.out hm)
                    clear hnx hbx hneg hm
                    go_wp2_with fail
                    go_quiet ((go_at_call 40; exact Calls.quiet_of_same (hpl.out _ _ (hyq.out.keep (Agree.drewN _ _ _) (fun _ h => h)))))
                    go_wp2
                    go_roundw
                    case rel => exact ⟨k + 1, by omega, by go_num, hn2, hbq.trans ⟨rfl, rfl, rfl, Nat.le_refl _, fun _ _ => rfl⟩⟩
                    case measure => simp [intOf]; omega
                  · have hq : decide (at_ < 0) = true := decide_eq_true (hneg.out.2 (by rw [Bool.eq_false_iff]; intro e; exact hm (List.contains_iff_mem.1 e)))
                    have hx := hide (hbx.out hm)
                    clear hnx hbx hneg hm
                    go_wp2_with fail
                    go_quiet ((go_at_call 40; exact Calls.quiet_of_same (hpl.out _ _ (hyq.out.keep (Agree.drewN _ _ _) (fun _ h => h)))))
                    go_wp2
                    go_ret
                    exact ⟨ret_bool hx.out.symm, (hb2.trans (hbq.mono hb2.size)).trans ((⟨rfl, rfl, rfl, Nat.le_refl _, fun _ _ => rfl⟩ : Below Wp.heap.size Wp (Wp.drewN nq)).mono (Nat.le_trans hb2.size hbq.size))⟩
                · obtain rfl : k = L.length := by omega
                  have hn2 := hide (hgood.out (fun x hx => by
                    obtain ⟨j, hj, rfl⟩ := List.getElem_of_mem hx
                    exact hin.out j hj hj))
                  have hK3 := hK2.out.below hbq
                  have k3 := k2.below hbq k2.lt
                  clear hgood hbd3 hin
                  go_wp2
                  go_roundw
                  case rel => exact ⟨i + 1, by omega, by go_num, hn2, hb2.trans (hbq.mono hb2.size), k3, hK3⟩
                  case measure => simp [intOf]; omega
            · have hz3 : ((rl.length : Int) != (L.length : Int)) = true := bne_iff_ne.2 (by omega)
              have hx := hide (hbd2.out hle)
              clear hgood hbd1 hbd2 hbd3 hle hke
              go_wp2_with fail
              go_quiet (fail)
              go_wp2
              go_ret
              exact ⟨ret_bool hx.out.symm, hb2.trans ⟨rfl, rfl, rfl, Nat.le_refl _, fun _ _ => rfl⟩⟩
          · have hz2 : (rk != ky) = true := bne_iff_ne.2 hke
            have hx := hide (hbd1.out hke)
            clear hgood hbd1 hbd2 hbd3 hke
            go_wp2_with fail
            go_quiet (fail)
            go_wp2
            go_ret
            exact ⟨ret_bool hx.out.symm, hb2.trans ⟨rfl, rfl, rfl, Nat.le_refl _, fun _ _ => rfl⟩⟩
        · obtain rfl : i = R.length := by omega
          have hx := hide (hend.out (fun j h1 h2 => hall.out j h1 h2 h1))
          clear hall hend
          go_wp2
          go_ret
          exact ⟨ret_bool hx.out.symm, hb⟩
    · have hz1 : ((R.length : Int) != (Ks.length : Int)) = true := bne_iff_ne.2 (by omega)
      have hx := hide (hlb.out hlen)
      clear hlen hlb hyes hbad hwr
      go_wp2
      go_ret
      exact ⟨ret_bool hx.out.symm, hb⟩
end Go.Proofs.YtfhnamomiaekdaaGreat

namespace Go.Proofs.YtfhnamomiaekdaaGreat
open Go.RowKit Go.Inq

/-- Does a row turn a pair? -/
def turnR (p : Cho) (r : SRow) : Bool := decide (r.key = p.key) && decide (idxI r.l p.a > idxI r.l p.b)
/-- A pair, behind the first rows. -/
def turnTo (R : List SRow) (p : Cho) (k : Nat) : Cho := if (R.take k).any (turnR p) then turnB p else p
theorem turnTo_zero (R : List SRow) (p : Cho) : turnTo R p 0 = p := by unfold turnTo; simp
theorem turnTo_step {R : List SRow} {p : Cho} {k : Nat} (h : k < R.length) : turnTo R p (k + 1) = if turnR p R[k] then turnB p else turnTo R p k := by
  unfold turnTo
  rw [List.take_succ_eq_append_getElem h, List.any_append, List.any_cons, List.any_nil, Bool.or_false]
  generalize (R.take k).any (turnR p) = a
  generalize turnR p R[k] = b
  cases a <;> cases b <;> rfl
theorem turnTo_key (R : List SRow) (p : Cho) (k : Nat) : (turnTo R p k).key = p.key := by unfold turnTo; split <;> rfl
theorem turnTo_ofC {H : List Txn} {R : List SRow} (ho : OkS H R) {r : SRow} (hr : r ∈ R) {p : Cho} (hk : p.key = r.key) : turnTo R p R.length = ofC r.l p := by
  unfold turnTo ofC
  rw [List.take_length]
  have he : R.any (turnR p) = decide (idxI r.l p.a > idxI r.l p.b) := by
    rw [Bool.eq_iff_iff, List.any_eq_true, decide_eq_true_eq]
    unfold turnR
    constructor
    · rintro ⟨r', hr', e⟩
      rw [Bool.and_eq_true, decide_eq_true_eq, decide_eq_true_eq] at e
      obtain rfl := ho.one hr' hr (e.1.trans hk)
      exact e.2
    · intro e
      exact ⟨r, hr, by rw [Bool.and_eq_true, decide_eq_true_eq, decide_eq_true_eq]; exact ⟨hk.symm, e⟩⟩
  rw [he]
  by_cases hq : idxI r.l p.a > idxI r.l p.b
  · rw [if_pos (decide_eq_true hq), if_pos hq]; rfl
  · rw [if_neg (by simpa using hq), if_neg hq]
theorem choS_turn {H : List Txn} {R : List SRow} (h : rightS H R = true) : choS H R = (pairsL H).map fun p => turnTo R p R.length := by
  have ho := (okS_iff H R).1 h
  have he : choS H R = (R.map (choR H)).flatten := by unfold choS; rw [h]; rfl
  rw [he]
  unfold pairsL
  rw [← ho.keys, List.map_map, List.map_flatten, List.map_map]
  congr 1
  refine List.map_congr_left fun r hr => ?_
  unfold choR
  refine List.map_congr_left fun p hp => ?_
  exact (turnTo_ofC ho hr (pairsK_mem hp).1).symm
end Go.Proofs.YtfhnamomiaekdaaGreat

namespace Go.Proofs.YtfhnamomiaekdaaGreat
open Go.RowKit Go.Inq
set_option maxHeartbeats 8000000
attribute [local go_sem ↓] Go.wp_at_zero Go.wp_at_succ

theorem pairIn_step {L : List Nat} {key : Int} {i y : Nat} (hi : i < L.length) (hy : y < L.length) (hiy : i + 1 ≤ y) (P : List Cho) :
    P ++ (((L.drop (i + 1)).take (y + 1 - (i + 1))).map fun (b : Nat) => (⟨key, (L[i] : Nat), b⟩ : Cho)) = (P ++ (((L.drop (i + 1)).take (y - (i + 1))).map fun (b : Nat) => (⟨key, (L[i] : Nat), b⟩ : Cho))) ++ [⟨key, (L[i] : Nat), (L[y] : Nat)⟩] := by
  have hd : y - (i + 1) < (L.drop (i + 1)).length := by rw [List.length_drop]; omega
  rw [show y + 1 - (i + 1) = y - (i + 1) + 1 by omega, List.take_succ_eq_append_getElem hd, List.map_append, ← List.append_assoc]
  congr 1
  simp only [List.map_cons, List.map_nil, List.getElem_drop]
  congr 3
  congr 1
  congr 1
  omega
set_option maxRecDepth 100000 in
theorem rpairs09_any (A : Option Addr) (c : Nat) (H : List Txn) (w : World) (h : TxnS w (Old w) (.slice A H.length c) H) (hr : rightH H = true) (hn : SmallH H) :
    Calls Tryz.prog 45 #[.agg #[.slice A H.length c]] w (OutC w (pairsL H)) := by
  obtain ⟨ic, hic, hi1, hi2, hi3⟩ := info_parts infoC9
  have h32 : H.length ≤ 32 := ((rightH_iff H).1 hr).1
  have hall := hide (pairsR_all hr)
  have hlen := hide (pairsR_len h32)
  obtain ⟨W0, hW0⟩ : ∃ W0, w.alloc (.cells #[.slice A H.length c] 24) = W0 := ⟨_, rfl⟩
  have hB := below_allocEq (Below.refl w.heap.size w) hW0 (Nat.le_refl _)
  have k0 := Blk.newEq hW0
  go_enter Tryz.func45, Tryz.ntmps45
  go_wp2_with fail
  clear hW0
  go_loopw [3, 4] (fun s3 s4 wr => ∃ k : Nat, k ≤ 16 ∧ s4 = .int .i64 k ∧ OwnC wr (w.heap.size + 1) s3 (pairsR H k) ∧ Below w.heap.size w wr ∧ Blk wr w.heap.size 24 #[.slice A H.length c]) (fun _ s4 _ => 16 - (intOf s4).toNat)
  case atStart => exact ⟨0, Nat.zero_le _, by go_num, OwnC.nil _ _, hB, k0⟩
  case round =>
    clear k0 hB
    obtain ⟨k, hk, rfl, hown, hb, k0⟩ := hrel
    have hk1 : (0 : Int) ≤ (k : Int) := Int.natCast_nonneg _
    have c0 := k0.cell 0
    simp only [List.getElem?_toArray, List.getElem?_cons_zero, List.getElem?_cons_succ] at c0
    by_cases hlt : k < 16
    · have hk2 : (k : Int) < 16 := by omega
      have hst := hide (pairsR_step H k)
      have hlk := hlen.out k
      have hcw := hide (rwriters09_any A c H (k : Int) wr (h.below hb) hr hn)
      have hLn := wrsL_len H (k : Int)
      have hpa := hide (pairsI_all (k : Int) (wrsL H (k : Int)))
      have hpi := hide (fun i (hi : i < (wrsL H (k : Int)).length) => pairsI_step (k : Int) (wrsL H (k : Int)) hi)
      have hpl := hide (pairsI_len (k : Int) (wrsL H (k : Int)))
      generalize wrsL H (k : Int) = L at *
      obtain ⟨Av, cv, rfl⟩ := hown.form
      replace hr := hide hr
      generalize hq : pairsR H k = Q at *
      replace hq := hide hq
      go_wp2_with fail
      clear c0
      refine hcw.out.mono ?_
      rintro e wl ⟨vl, rfl, hLO, hbl⟩
      obtain ⟨Al, cl, hv⟩ := hLO.form
      rw [intsN_len] at hv
      subst hv
      have hLS := hLO.sl (K := fun b => wr.heap.size ≤ b ∧ b < wl.heap.size) (fun g h1 h2 => ⟨h1, h2⟩)
      have hb2 := hb.trans (hbl.mono hb.size)
      have k2 := k0.below hbl k0.lt
      have hown2 : OwnC wl (w.heap.size + 1) (.slice Av Q.length cv) Q := own_below hown hbl (Nat.le_refl _)
      have hlt2 := hide (fun g hg => hown.lt g hg)
      clear hcw hLO hbl hb hown k0
      go_wp2_with fail
      go_loopw [3, 6] (fun s3 s6 wq => ∃ i : Nat, i ≤ L.length ∧ s6 = .int .i64 i ∧ OwnC wq (w.heap.size + 1) s3 (Q ++ pairsI k L i) ∧ GrowR NoS wl (.slice Av Q.length cv) wq s3) (fun _ s6 _ => L.length - (intOf s6).toNat)
      case atStart => exact ⟨0, Nat.zero_le _, by go_num, by simpa [pairsI] using hown2, GrowR.refl _ _ _⟩
      case round =>
        clear hown2
        obtain ⟨Wo, rfl⟩ : ∃ Wo, Wo = wr := ⟨_, rfl⟩
        obtain ⟨i, hi, rfl, hown, hg⟩ := hrel
        have hi1' : (0 : Int) ≤ (i : Int) := Int.natCast_nonneg _
        by_cases hil : i < L.length
        · have hi2' : (i : Int) < (L.length : Int) := by omega
          have hpst := hide (hpi.out i hil)
          have hlen2 := hpl.out i
          have hlen3 : i * L.length ≤ 32 * 32 := Nat.mul_le_mul (by omega) (by omega)
          obtain ⟨Ar, cr, rfl⟩ := OwnC.form hown
          replace hown := hide hown
          go_wp2_with fail
          go_loopw [3, 7] (fun s3 s7 wq => ∃ y : Nat, i + 1 ≤ y ∧ y ≤ L.length ∧ s7 = .int .i64 y ∧ OwnC wq (w.heap.size + 1) s3 (Q ++ pairsI k L i ++ (((L.drop (i + 1)).take (y - (i + 1))).map fun (b : Nat) => (⟨k, (L[i] : Nat), b⟩ : Cho))) ∧ GrowR NoS wl (.slice Av Q.length cv) wq s3) (fun _ s7 _ => L.length - (intOf s7).toNat)
          case atStart => exact ⟨i + 1, Nat.le_refl _, hil, by go_num, by simpa using hown.out, hg⟩
          case round =>
            clear hown hg
            obtain ⟨Wp, rfl⟩ : ∃ Wp, Wp = wr := ⟨_, rfl⟩
            obtain ⟨y, hiy, hy, rfl, hown, hg⟩ := hrel
            have hy1' : (0 : Int) ≤ (y : Int) := Int.natCast_nonneg _
            by_cases hyl : y < L.length
            · have hy2' : (y : Int) < (L.length : Int) := by omega
              have hin := hide (pairIn_step (key := (k : Int)) hil hyl hiy (Q ++ pairsI k L i))
              have hLq := hLS.keep (K' := fun b => wr.heap.size ≤ b ∧ b < wl.heap.size) (hg.agree fun b hb => ⟨hb.2, fun e => by have := (hlt2.out b e).2; omega, noS b⟩) (fun b h => h)
              obtain ⟨bl, ol, rfl, -, z0⟩ := hLq.at_ (i := i) (by rw [intsN_len]; exact hil)
              have z1 := (hLq.cells (i := y) (by rw [intsN_len]; exact hyl)).2
              rw [intsN_at hil] at z0
              rw [intsN_at hyl] at z1
              have hDl : (Q ++ pairsI k L i ++ (((L.drop (i + 1)).take (y - (i + 1))).map fun (b : Nat) => (⟨k, (L[i] : Nat), b⟩ : Cho))).length ≤ 100000 := by
                simp only [List.length_append, List.length_map, List.length_take, List.length_drop]
                omega
              generalize Q ++ pairsI k L i ++ (((L.drop (i + 1)).take (y - (i + 1))).map fun (b : Nat) => (⟨k, (L[i] : Nat), b⟩ : Cho)) = D at *
              generalize L[i] = a at *
              generalize L[y] = b at *
              obtain ⟨Ad, cd, rfl⟩ := OwnC.form hown
              have hkD : D.length + 1 ≤ maxLen := by unfold maxLen; omega
              have hkb : (D.length + 1) * 24 ≤ 140737488355328 := by omega
              replace hown := hide hown
              have hsz2 : w.heap.size + 1 ≤ Wp.heap.size := by have := k2.lt; have := hg.size; omega
              go_wp2_with fail
              refine wp_region_plan [0, 1, 2, 3, 4, 5, 6, 7, 8, 9, 10] [11, 12, 13] (by kernel_rfl) (by kernel_rfl) (fun _ _ d _ _ h => by cases d <;> exact h) ?_
              simp only [List.filterMap_cons, List.filterMap_nil, List.getElem?_cons_zero, List.getElem?_cons_succ]
              repeat still_step
              refine wpStill_nil ?_
              have hown' := hide (show OwnC Wp.drew (w.heap.size + 1) (.slice Ad D.length cd) D from hown.out)
              have hg' := hg.drew
              have hsz3 : w.heap.size + 1 ≤ Wp.drew.heap.size := hsz2
              clear hg hsz2
              change wpList _ _ _ _ _ Wp.drew
              generalize Wp.drew = Wx at *
              refine wpList_plain rfl (fun K hK => ?_)
              go_simp
              refine hK _ _ ?_
              clear hK K
              refine wpList_pushG (enc := encC) rfl (.tmp 29) (.tmp 40) 36 rfl (w.heap.size + 1) 89 ic _ 3 24 Tryz.underlying36 hic hi1 hi2 hi3 rfl (by decide) (.slice Ad D.length cd) D rfl hown'.out (fun _ => rfl) (⟨(k : Int), (a : Int), (b : Int)⟩ : Cho) _ rfl rfl encC_one hkD hkb hsz3 ?_
              intro v1 w6 hown1 hg1
              go_wp2
              go_roundw
              case rel => exact ⟨y + 1, by omega, by omega, by go_num, by rw [hin.out]; exact hown1, hg'.trans hg1⟩
              case measure => simp [intOf]; omega
            · obtain rfl : y = L.length := by omega
              have hq2 : Q ++ pairsI k L i ++ (((L.drop (i + 1)).take (L.length - (i + 1))).map fun (b : Nat) => (⟨k, (L[i] : Nat), b⟩ : Cho)) = Q ++ pairsI k L (i + 1) := by
                rw [List.take_of_length_le (by simp), hpst.out, List.append_assoc]
              rw [hq2] at hown
              clear hq2
              go_wp2
              go_roundw
              case rel => exact ⟨i + 1, by omega, by go_num, hown, hg⟩
              case measure => simp [intOf]; omega
        · obtain rfl : i = L.length := by omega
          have hown4 := hide (show OwnC Wo (w.heap.size + 1) u3 (pairsR H (k + 1)) by rw [hst.out, ← hpa.out]; exact hown)
          have hbF := hide (hg.belowN hb2 hb2.size (fun g e => by have := (hlt2.out g e).1; omega))
          have k4 := hide (hg.blk k2 (fun e => by have := (hlt2.out _ e).1; omega) (noS _))
          clear hown hg
          go_wp2
          go_roundw
          case rel => exact ⟨k + 1, by omega, by go_num, hown4.out, hbF.out, k4.out⟩
          case measure => simp [intOf]; omega
    · obtain rfl : k = 16 := by omega
      rw [hall.out] at hown
      go_wp2
      go_ret
      exact ⟨_, rfl, own_base' hown (by omega), hb⟩
end Go.Proofs.YtfhnamomiaekdaaGreat

namespace Go.Proofs.YtfhnamomiaekdaaGreat
open Go.RowKit Go.Inq
set_option maxHeartbeats 8000000
attribute [local go_sem ↓] Go.wp_at_zero Go.wp_at_succ

theorem rback18_any (k a b : Int) (w : World) : Calls Tryz.prog 46 #[.agg #[.int .i64 k, .int .i64 a, .int .i64 b]] w fun e w' => e = .returned (.agg #[.int .i64 k, .int .i64 b, .int .i64 a]) ∧ Below w.heap.size w w' := by
  obtain ⟨W0, hW0⟩ : ∃ W0, (w.alloc (.cells #[.int .i64 k, .int .i64 a, .int .i64 b] 89)).alloc (.cells #[.int .i64 0, .int .i64 0, .int .i64 0] 89) = W0 := ⟨_, rfl⟩
  have hb := below_two hW0
  have k1 := Blk.two1 hW0
  have k2 := Blk.two2 hW0
  have a0 := k1.cell 0
  have a1 := k1.cell 1
  have a2 := k1.cell 2
  have b0 := k2.cell 0
  have b1 := k2.cell 1
  have b2 := k2.cell 2
  have f0 := k2.frozen 0
  have f1 := k2.frozen 1
  have f2 := k2.frozen 2
  simp only [List.getElem?_toArray, List.getElem?_cons_zero, List.getElem?_cons_succ] at a0 a1 a2 b0 b1 b2
  have hz := hide (((hb.setCell (p := ⟨w.heap.size + 1, 0, none⟩) (by simp) (.int .i64 k)).setCell (p := ⟨w.heap.size + 1, 1, none⟩) (by simp) (.int .i64 b)).setCell (p := ⟨w.heap.size + 1, 2, none⟩) (by simp) (.int .i64 a))
  have hq := ((k2.set_ 0 (.int .i64 k)).set_ 1 (.int .i64 b)).set_ 2 (.int .i64 a)
  simp only [List.setIfInBounds_toArray, List.set_cons_zero, List.set_cons_succ] at hq
  have y0 := hq.cell 0
  have y1 := hq.cell 1
  have y2 := hq.cell 2
  simp only [List.getElem?_toArray, List.getElem?_cons_zero, List.getElem?_cons_succ] at y0 y1 y2
  clear hq
  go_enter Tryz.func46, Tryz.ntmps46
  go_wp2_with fail
  exact bodyPost_ret (v := .agg #[.int .i64 k, .int .i64 b, .int .i64 a]) (by simp [results, Tryz.results46, go_sem, y0, y1, y2]) rfl ⟨rfl, hz.out⟩
end Go.Proofs.YtfhnamomiaekdaaGreat

namespace Go.Proofs.YtfhnamomiaekdaaGreat
open Go.RowKit Go.Inq
set_option maxHeartbeats 8000000
attribute [local go_sem ↓] Go.wp_at_zero Go.wp_at_succ

set_option maxRecDepth 100000 in
theorem rcho21_any (A : Option Addr) (c : Nat) (H : List Txn) (Ar : Option Addr) (cr : Nat) (R : List SRow) (w : World) (h : TxnS w (Old w) (.slice A H.length c) H) (hn : SmallH H) (hR : RowS w (Old w) (.slice Ar R.length cr) R) (hf : FitS R) :
    Calls Tryz.prog 15 #[.agg #[.slice A H.length c], .slice Ar R.length cr] w (OutC w (choS H R)) := by
  obtain ⟨ic, hic, hi1, hi2, hi3⟩ := info_parts infoC9
  obtain ⟨W0, hW0⟩ : ∃ W0, w.alloc (.cells #[.slice A H.length c] 24) = W0 := ⟨_, rfl⟩
  have hB := below_allocEq (Below.refl w.heap.size w) hW0 (Nat.le_refl _)
  have k0 := Blk.newEq hW0
  have hT := h.below hB
  have hRS := hR.below hB
  have hrc := hide (rright21_any A c H Ar cr R W0 hT hn hRS hf)
  have hno := hide (fun (e : rightS H R = false) => (choS_no e).1)
  have hyes := hide (choS_turn (H := H) (R := R))
  obtain ⟨C, hC⟩ : ∃ C, choS H R = C := ⟨_, rfl⟩
  rw [hC] at hno hyes ⊢
  clear hC
  have hRl := hf.1
  have hfl := hide (fun i (hi : i < R.length) => hf.2 _ (List.getElem_mem hi))
  have hrt := hide (fun (e : rightS H R = true) => ((okS_iff H R).1 e).right)
  have hok := hide (fun (e : rightS H R = true) => ((okS_iff H R).1 e).len)
  replace hf := hide hf
  have c0 := k0.cell 0
  simp only [List.getElem?_toArray, List.getElem?_cons_zero, List.getElem?_cons_succ] at c0
  clear h hR
  go_enter Tryz.func15, Tryz.ntmps15
  go_wp2_with fail
  clear c0 hW0
  refine hrc.out.mono ?_
  rintro e w1 ⟨rfl, hb1⟩
  have hB1 := hB.trans (hb1.mono hB.size)
  replace k0 := k0.below hb1 k0.lt
  have hT1 := hT.below hb1
  have hR1 := hRS.below hb1
  have c0 := k0.cell 0
  simp only [List.getElem?_toArray, List.getElem?_cons_zero, List.getElem?_cons_succ] at c0
  clear hrc hT hRS hb1 hB
  cases hr : rightS H R with
  | false =>
    obtain rfl := hno.out hr
    clear hr hno hyes hrt hok
    go_wp2
    go_ret
    exact ⟨.slice none 0 0, rfl, OwnC.nil _ _, hB1⟩
  | true =>
    have hrH := hrt.out hr
    have hPl := pairsL_len hrH
    have hR16 := hok.out hr
    obtain rfl := hyes.out hr
    have hcall := hide (rpairs09_any A c H w1 hT1 hrH hn)
    clear hr hno hyes hrt hok hrH
    generalize pairsL H = P at *
    go_wp2_with fail
    clear c0
    refine hcall.out.mono ?_
    rintro e wl ⟨vl, rfl, hLO, hbl⟩
    obtain ⟨Al, cl, rfl⟩ := hLO.form
    have hB2 := hB1.trans (hbl.mono hB1.size)
    have hLS := hide (hLO.sl (K := Old wl) (fun g h1 h2 => h2))
    have hRW := hide (hR1.below hbl)
    clear hLO hbl hcall hR1 k0 hB1 hT1
    go_wp2_with fail
    go_loopw [6, 8] (fun s6 s8 wr => ∃ i : Nat, i ≤ P.length ∧ s8 = .int .i64 i ∧ OwnC wr wl.heap.size s6 ((P.take i).map fun p => turnTo R p R.length) ∧ Below wl.heap.size wl wr) (fun _ s8 _ => P.length - (intOf s8).toNat)
    case atStart => exact ⟨0, Nat.zero_le _, by go_num, by simpa using OwnC.nil _ _, Below.refl _ _⟩
    case round =>
      obtain ⟨Wo, rfl⟩ : ∃ Wo, Wo = wr := ⟨_, rfl⟩
      obtain ⟨i, hi, rfl, hown, hb⟩ := hrel
      have hi1' : (0 : Int) ≤ (i : Int) := Int.natCast_nonneg _
      by_cases hlt : i < P.length
      · have hi2' : (i : Int) < (P.length : Int) := by omega
        have hst : Hid ((P.take (i + 1)).map (fun p => turnTo R p R.length) = (P.take i).map (fun p => turnTo R p R.length) ++ [turnTo R P[i] R.length]) := hide (by rw [take_snoc' hlt, List.map_append]; rfl)
        have hDl : ((P.take i).map (fun p => turnTo R p R.length)).length ≤ 16384 := by rw [List.length_map, List.length_take]; omega
        obtain ⟨b, off, rfl, -, y0, y1, y2⟩ := (hLS.out.below hb).at_ hlt
        have ht0 := hide (turnTo_zero R P[i])
        have htk := hide (turnTo_key R P[i])
        have hts := hide (fun k (hk : k < R.length) => turnTo_step (p := P[i]) hk)
        have htR : Hid (∀ k (hk : k < R.length), turnR P[i] R[k] = (decide (R[k].key = P[i].key) && decide (idxI R[k].l P[i].b < idxI R[k].l P[i].a))) := hide (fun _ _ => rfl)
        obtain ⟨Ad, cd, rfl⟩ := hown.form
        generalize (P.take i).map (fun p => turnTo R p R.length) = D at *
        generalize P[i] = p at *
        obtain ⟨key, xa, xb⟩ := p
        dsimp only at *
        have hkD : D.length + 1 ≤ maxLen := by unfold maxLen; omega
        have hkb : (D.length + 1) * 24 ≤ 140737488355328 := by omega
        have hlt3 := hide (fun g hg => (hown.lt g hg).2)
        replace hown := hide hown
        obtain ⟨W3, hW3⟩ : ∃ W3, Wo.alloc (.cells #[.int .i64 key, .int .i64 xa, .int .i64 xb] 89) = W3 := ⟨_, rfl⟩
        have hB3 := below_allocEq (Below.refl Wo.heap.size Wo) hW3 (Nat.le_refl _)
        have k3 := Blk.newEq hW3
        go_upto_region 10 with fail
        clear hW3
        go_wp2_with fail
        go_loopw [10] (fun s10 wq => ∃ k : Nat, k ≤ R.length ∧ s10 = .int .i64 k ∧ Blk wq Wo.heap.size 89 #[.int .i64 key, .int .i64 (turnTo R ⟨key, xa, xb⟩ k).a, .int .i64 (turnTo R ⟨key, xa, xb⟩ k).b] ∧ Below Wo.heap.size Wo wq) (fun s10 _ => R.length - (intOf s10).toNat)
        case atStart => exact ⟨0, Nat.zero_le _, by go_num, by rw [ht0.out]; exact k3, hB3⟩
        case round =>
          obtain ⟨Wp, rfl⟩ : ∃ Wp, Wp = wr := ⟨_, rfl⟩
          obtain ⟨k, hk, rfl, kc, hbq⟩ := hrel
          have hk1 : (0 : Int) ≤ (k : Int) := Int.natCast_nonneg _
          have hbw := hb.trans (hbq.mono hb.size)
          by_cases hkl : k < R.length
          · have hk2 : (k : Int) < (R.length : Int) := by omega
            obtain ⟨br, or_, Ay, cy, rfl, _, e0, e1, hy⟩ := (hRW.out.below hbw).at_ hkl
            have hyl := hfl.out k hkl
            have hs2 := hide (hts.out k hkl)
            have hr2 := hide (htR.out k hkl)
            have z0 := (hbq.cell (p := ⟨b, off + i * 3, none⟩) (block_lt_of_cell y0)).trans y0
            have z1 := (hbq.cell (p := ⟨b, off + i * 3 + 1, none⟩) (block_lt_of_cell y1)).trans y1
            have z2 := (hbq.cell (p := ⟨b, off + i * 3 + 2, none⟩) (block_lt_of_cell y2)).trans y2
            generalize turnR ⟨key, xa, xb⟩ R[k] = tr at *
            generalize turnTo R ⟨key, xa, xb⟩ k = tk at *
            generalize R[k] = row at *
            obtain ⟨rk, rl⟩ := row
            dsimp only at *
            have q0 := kc.cell 0
            have q1 := kc.cell 1
            have q2 := kc.cell 2
            have f0 := kc.frozen 0
            have f1 := kc.frozen 1
            have f2 := kc.frozen 2
            simp only [List.getElem?_toArray, List.getElem?_cons_zero, List.getElem?_cons_succ] at q0 q1 q2
            have hya := hide (hy.keep (Agree.refl _ _) fun _ h => h)
            have hpx := hide (fun W K z (g : IntS W K (.slice Ay rl.length cy) rl) => (rplace21_any Ay cy rl z K W g (by omega)).mono fun _ _ h => (⟨h.1, h.2.symm⟩ : _ ∧ _))
            clear hy hts htR ht0
            by_cases hke : rk = key
            · have g1 : (rk == key) = true := by simpa using hke
              have hk2' := hide (decide_eq_true hke)
              clear hke
              go_wp2_with fail
              go_quiet ((go_at_call 40; exact Calls.quiet_of_same (hpx.out _ _ _ (hya.out.keep (Agree.drewN _ _ _) (fun _ h => h)))))
              generalize idxI rl xa = qa at *
              generalize idxI rl xb = qb at *
              rw [hk2'.out, Bool.true_and] at hr2
              have hbn : Below Wo.heap.size Wo (Wp.drewN nq) := hbq.trans ⟨rfl, rfl, rfl, Nat.le_refl _, fun _ _ => rfl⟩
              have kn : Blk (Wp.drewN nq) Wo.heap.size 89 #[.int .i64 key, .int .i64 tk.a, .int .i64 tk.b] := kc
              generalize hgb : decide (qb < qa) = bq
              rw [hgb] at hr2
              have hr3 := hr2.out
              clear hgb hr2
              subst hr3
              cases tr with
              | true =>
                have hs3 : Hid (turnTo R ⟨key, xa, xb⟩ (k + 1) = turnB ⟨key, xa, xb⟩) := hide (by rw [hs2.out]; rfl)
                clear hs2
                go_wp2_with fail
                refine (rback18_any key xa xb (Wp.drewN nq)).mono ?_
                rintro e Wz ⟨rfl, hbz⟩
                have kz := kn.below hbz kn.lt
                have hbz2 := hbn.trans (hbz.mono hbn.size)
                have b0 := kz.cell 0
                have b1 := kz.cell 1
                have b2 := kz.cell 2
                have f0 := kz.frozen 0
                have f1 := kz.frozen 1
                have f2 := kz.frozen 2
                simp only [List.getElem?_toArray, List.getElem?_cons_zero, List.getElem?_cons_succ] at b0 b1 b2
                have hbU := hide (((hbz2.setCell (p := ⟨Wo.heap.size, 0, none⟩) (Nat.le_refl _) (.int .i64 key)).setCell (p := ⟨Wo.heap.size, 1, none⟩) (Nat.le_refl _) (.int .i64 xb)).setCell (p := ⟨Wo.heap.size, 2, none⟩) (Nat.le_refl _) (.int .i64 xa))
                have hq := ((kz.set_ 0 (.int .i64 key)).set_ 1 (.int .i64 xb)).set_ 2 (.int .i64 xa)
                simp only [List.setIfInBounds_toArray, List.set_cons_zero, List.set_cons_succ] at hq
                replace hq := hide hq
                go_wp2
                go_roundw
                case rel => exact ⟨k + 1, by omega, by go_num, by rw [hs3.out]; exact hq.out, hbU.out⟩
                case measure => simp [intOf]; omega
              | false =>
                have hs3 : Hid (turnTo R ⟨key, xa, xb⟩ (k + 1) = tk) := hide (by rw [hs2.out]; rfl)
                clear hs2
                go_wp2
                go_roundw
                case rel => exact ⟨k + 1, by omega, by go_num, by rw [hs3.out]; exact kn, hbn⟩
                case measure => simp [intOf]; omega
            · have g1 : (rk == key) = false := by simpa using hke
              have hs3 : Hid (turnTo R ⟨key, xa, xb⟩ (k + 1) = tk) := hide (by rw [hs2.out, hr2.out, decide_eq_false hke, Bool.false_and]; rfl)
              clear hs2 hr2 hke
              go_wp2_with fail
              go_quiet (fail)
              go_wp2
              go_roundw
              case rel => exact ⟨k + 1, by omega, by go_num, by rw [hs3.out]; exact kc, hbq.trans ⟨rfl, rfl, rfl, Nat.le_refl _, fun _ _ => rfl⟩⟩
              case measure => simp [intOf]; omega
          · obtain rfl : k = R.length := by omega
            have hbS := hbw
            have hownU := hide (show OwnC Wp wl.heap.size (.slice Ad D.length cd) D from own_below hown.out hbq (Nat.le_refl _))
            have hkk := hide (htk.out R.length)
            have q0 := kc.cell 0
            have q1 := kc.cell 1
            have q2 := kc.cell 2
            simp only [List.getElem?_toArray, List.getElem?_cons_zero, List.getElem?_cons_succ] at q0 q1 q2
            have htn : Hid (turnTo R ⟨key, xa, xb⟩ R.length = ⟨key, (turnTo R ⟨key, xa, xb⟩ R.length).a, (turnTo R ⟨key, xa, xb⟩ R.length).b⟩) := hide (by
              have := hkk.out
              generalize turnTo R ⟨key, xa, xb⟩ R.length = t at *
              obtain ⟨tk, ta, tb⟩ := t
              simp at this
              rw [this])
            generalize turnTo R ⟨key, xa, xb⟩ R.length = tn at *
            obtain ⟨tk, ta, tb⟩ := tn
            dsimp only at *
            rw [htn.out] at hst
            clear htn hkk hts htR ht0 htk hown
            go_wp2_with (at_builtin; go_loud (refine wpList_push (enc := encC) rfl (.tmp 72) (.tmp 74) 36 rfl wl.heap.size 89 ic _ 3 24 Tryz.underlying36 hic hi1 hi2 hi3 rfl (by decide) (.slice Ad D.length cd) D rfl hownU.out (fun _ => rfl) (⟨key, ta, tb⟩ : Cho) _ rfl rfl encC_one hkD hkb hbS.size wl wl.heap.size (Nat.le_refl _) hbS ?_); intro v1 w6 hown1 hg1 hb1 hat1)
            go_roundw
            case rel => exact ⟨i + 1, by omega, by go_num, by rw [hst.out]; exact hown1, hb1⟩
            case measure => simp [intOf]; omega
      · obtain rfl : i = P.length := by omega
        rw [List.take_length] at hown
        have hsz := hB2.size
        obtain ⟨Az, cz, hv⟩ := hown.form
        rw [List.length_map] at hv
        subst hv
        have hF : Hid (OwnC Wo w.heap.size (.slice Az P.length cz) (P.map fun p => turnTo R p R.length)) := hide (own_base' hown hsz)
        go_wp2
        go_ret
        exact ⟨.slice Az P.length cz, rfl, hF.out, hB2.trans (hb.mono hsz)⟩
end Go.Proofs.YtfhnamomiaekdaaGreat

namespace Go.Proofs.YtfhnamomiaekdaaGreat
open Go.RowKit Go.Inq
set_option maxHeartbeats 8000000
attribute [local go_sem ↓] Go.wp_at_zero Go.wp_at_succ

theorem cloTo_at (E : Edges) (k x y : Nat) : cloTo E (k + 1) x y = (cloTo E k x y || (cloTo E k x k && cloTo E k k y)) := rfl
set_option maxRecDepth 100000 in
theorem rclose13_any (n : Nat) (A : Option Addr) (c : Nat) (E : Edges) (w : World) (h : GrS w (Old w) n A c E) :
    Calls Tryz.prog 163 #[.agg #[.int .i64 n, .slice A n c]] w fun e w' => ∃ A' c', e = .returned (.agg #[.int .i64 n, .slice A' n c']) ∧ GrS w' (Old w') n A' c' (cloE n E) ∧ Below w.heap.size w w' := by
  have hn64 := h.n64
  go_enter Tryz.func163, Tryz.ntmps163
  go_upto_region 2 with fail
  obtain ⟨W0, hW0⟩ : ∃ W0, ((w.alloc (.cells #[.int .i64 n, .slice A n c] 174)).alloc (.cells #[.int .i64 0, .slice none 0 0] 174)).alloc (.cells #[.int .i64 n, .slice A n c] 174) = W0 := ⟨_, rfl⟩
  rw [hW0]
  have hb := below_three hW0
  have k1 := Blk.three1 hW0
  have k3 := Blk.three2 hW0
  have k2 := Blk.three3 hW0
  have hg := h.keep (K' := fun b => b < W0.heap.size ∧ b ≠ w.heap.size + 1 ∧ b ≠ w.heap.size + 1 + 1) (Agree.below hb fun b h => h) (fun b (h : b < w.heap.size) => ⟨Nat.lt_of_lt_of_le h hb.size, by omega, by omega⟩)
  clear hW0 h
  go_wp2_with fail
  go_loopw [4] (fun s4 wr => ∃ (k : Nat) (Av : Option Addr) (cv : Nat), k ≤ n ∧ s4 = .int .i64 k ∧ Blk wr (w.heap.size + 1 + 1) 174 #[.int .i64 n, .slice Av n cv] ∧ GrS wr (fun b => b < wr.heap.size ∧ b ≠ w.heap.size + 1 ∧ b ≠ w.heap.size + 1 + 1) n Av cv (cloTo E k) ∧ Below (w.heap.size + 1 + 1) W0 wr) (fun s4 _ => n - (intOf s4).toNat)
  case atStart => exact ⟨0, A, c, Nat.zero_le _, by go_num, k2, hg, Below.refl _ _⟩
  case round =>
    clear k2 hg
    obtain ⟨k, Av, cv, hk, rfl, k2, hgr, hbr⟩ := hrel
    have hk1 : (0 : Int) ≤ (k : Int) := Int.natCast_nonneg _
    have k1r := k1.below hbr (by omega)
    have a0 := k1r.cell 0
    simp only [List.getElem?_toArray, List.getElem?_cons_zero, List.getElem?_cons_succ] at a0
    by_cases hlt : k < n
    · have hk2 : (k : Int) < (n : Int) := by omega
      go_wp2_with fail
      refine (rnew12_any n hn64 wr).mono ?_
      rintro e w1 ⟨v, rfl, hR, hb1⟩
      clear a0
      obtain ⟨Ad, cd, rfl, -⟩ := hR.gr hn64 (K := fun _ => True) (fun _ _ _ => trivial)
      go_upto_region 6 with fail
      obtain ⟨W5, hW5⟩ : ∃ W5, w1.alloc (.cells #[.int .i64 n, .slice Ad n cd] 174) = W5 := ⟨_, rfl⟩
      rw [hW5]
      have hP := RGP.start hR hn64 hW5
      have hs1 := hb1.size
      have hb5 := below_allocEq hb1 hW5 hs1
      have k2l := k2.lt
      have hszr := hbr.size
      have hcat := hide (cloTo_at E k)
      generalize hFe : cloTo E (k + 1) = F at *
      replace hFe := hide hFe
      generalize cloTo E k = D at *
      clear hW5 hR hb1
      replace hgr := hide hgr
      go_wp2_with fail
      go_loopw [6] (fun s6 wq => ∃ x : Nat, x ≤ n ∧ s6 = .int .i64 x ∧ RGP wq wr.heap.size w1.heap.size n (uptoE F x 0) Ad cd ∧ Below wr.heap.size wr wq) (fun s6 _ => n - (intOf s6).toNat)
      case atStart => exact ⟨0, Nat.zero_le _, by go_num, by rw [uptoE_zero]; exact hP, hb5⟩
      case round =>
        clear hP hb5
        obtain ⟨Wo, rfl⟩ : ∃ Wo, Wo = wr := ⟨_, rfl⟩
        obtain ⟨x, hx, rfl, hPx, hbx⟩ := hrel
        have hx1 : (0 : Int) ≤ (x : Int) := Int.natCast_nonneg _
        have k1x := k1r.below hbx k1r.lt
        have k2x := k2.below hbx k2.lt
        have a0 := k1x.cell 0
        simp only [List.getElem?_toArray, List.getElem?_cons_zero, List.getElem?_cons_succ] at a0
        by_cases hlx : x < n
        · have hx2 : (x : Int) < (n : Int) := by omega
          go_wp2_with fail
          clear a0 k1x
          go_loopw [7] (fun s7 wq => ∃ y : Nat, y ≤ n ∧ s7 = .int .i64 y ∧ RGP wq wr.heap.size w1.heap.size n (uptoE F x y) Ad cd ∧ Below wr.heap.size wr wq) (fun s7 _ => n - (intOf s7).toNat)
          case atStart => exact ⟨0, Nat.zero_le _, by go_num, hPx, hbx⟩
          case round =>
            clear hPx hbx k2x
            obtain ⟨Wp, rfl⟩ : ∃ Wp, Wp = wr := ⟨_, rfl⟩
            obtain ⟨y, hy, rfl, hPy, hby⟩ := hrel
            have hy1 : (0 : Int) ≤ (y : Int) := Int.natCast_nonneg _
            have k1y := k1r.below hby k1r.lt
            have k2y := k2.below hby k2.lt
            have a0 := k1y.cell 0
            have c0 := k2y.cell 0
            have c1 := k2y.cell 1
            simp only [List.getElem?_toArray, List.getElem?_cons_zero, List.getElem?_cons_succ] at a0 c0 c1
            by_cases hly : y < n
            · have hy2 : (y : Int) < (n : Int) := by omega
              have hst := hide (uptoE_step (E := F) (x := x) (y := y))
              have hsk := hide (uptoE_skip (E := F) (x := x) (y := y))
              have hFx := hide (hcat.out x y)
              have hh1 := hide (rhas12_any n Av cv D x y (fun b => b < wr.heap.size ∧ b ≠ w.heap.size + 1 ∧ b ≠ w.heap.size + 1 + 1) Wp (hgr.out.keep (Agree.below hby fun b h => h.1) (fun b h => h)) (fun b h => Nat.lt_of_lt_of_le h.1 hby.size) hlx hly)
              generalize D x y = e1 at *
              generalize hd2 : D x k = e2 at *
              generalize hd3 : D k y = e3 at *
              replace hd2 := hide hd2
              replace hd3 := hide hd3
              go_wp2_with fail
              clear a0 c0 c1
              refine hh1.out.mono ?_
              rintro e w2 ⟨rfl, hb2⟩
              have hb3 := hby.trans (hb2.mono hby.size)
              have hP3 := hPy.below hb2 (Nat.le_refl _)
              have k2z := k2.below hb3 k2.lt
              have c0 := k2z.cell 0
              have c1 := k2z.cell 1
              simp only [List.getElem?_toArray, List.getElem?_cons_zero, List.getElem?_cons_succ] at c0 c1
              have hh2 := hide (rhas12_any n Av cv D x k (fun b => b < wr.heap.size ∧ b ≠ w.heap.size + 1 ∧ b ≠ w.heap.size + 1 + 1) w2 (hgr.out.keep (Agree.below hb3 fun b h => h.1) (fun b h => h)) (fun b h => Nat.lt_of_lt_of_le h.1 hb3.size) hlx hlt)
              rw [hd2.out] at hh2
              clear hh1 hb2 hby hPy k1y k2y
              go_wp2_with fail
              clear c0 c1
              refine hh2.out.mono ?_
              rintro e w3 ⟨rfl, hb4⟩
              have hb5 := hb3.trans (hb4.mono hb3.size)
              have hP5 := hP3.below hb4 (Nat.le_refl _)
              have k2u := k2.below hb5 k2.lt
              have c0 := k2u.cell 0
              have c1 := k2u.cell 1
              simp only [List.getElem?_toArray, List.getElem?_cons_zero, List.getElem?_cons_succ] at c0 c1
              have hh3 := hide (rhas12_any n Av cv D k y (fun b => b < wr.heap.size ∧ b ≠ w.heap.size + 1 ∧ b ≠ w.heap.size + 1 + 1) w3 (hgr.out.keep (Agree.below hb5 fun b h => h.1) (fun b h => h)) (fun b h => Nat.lt_of_lt_of_le h.1 hb5.size) hlt hly)
              rw [hd3.out] at hh3
              clear hh2 hb3 hP3 k2z hb4
              go_wp2_with fail
              clear c0 c1
              refine hh3.out.mono ?_
              rintro e w6 ⟨rfl, hb6⟩
              have hb4 := hb5.trans (hb6.mono hb5.size)
              have hP4 := hP5.below hb6 (Nat.le_refl _)
              clear hh3 hb5 hP5 k2u hb6 hd2 hd3
              cases e1 <;> cases e2 <;> cases e3
              · have hE2 := hide (hsk.out (by rw [hFx.out]; rfl))
                clear hst hsk hFx
                go_wp2
                go_roundw
                case rel => exact ⟨y + 1, by omega, by go_num, by rw [hE2.out]; exact hP4, hb4⟩
                case measure => simp [intOf]; omega
              · have hE2 := hide (hsk.out (by rw [hFx.out]; rfl))
                clear hst hsk hFx
                go_wp2
                go_roundw
                case rel => exact ⟨y + 1, by omega, by go_num, by rw [hE2.out]; exact hP4, hb4⟩
                case measure => simp [intOf]; omega
              · have hE2 := hide (hsk.out (by rw [hFx.out]; rfl))
                clear hst hsk hFx
                go_wp2
                go_roundw
                case rel => exact ⟨y + 1, by omega, by go_num, by rw [hE2.out]; exact hP4, hb4⟩
                case measure => simp [intOf]; omega
              · have hE2 := hide (hst.out (by rw [hFx.out]; rfl))
                obtain ⟨g, rfl, hX⟩ := hP4.at_ hlx
                have hP5 := hide (hX.add (y := y) hlx hly).drew
                have hb5 := hide (below_drew (hb4.setCell (p := ⟨g, x, none⟩) hX.B (.int .u64 (withB (setB ((uptoE F x y) x) n) (y : Int) : Nat))))
                obtain ⟨-, c0, c1, d0, df, gp, gl, -, h64⟩ := hX
                clear hst hsk hFx hP4 hb4
                generalize setB ((uptoE F x y) x) n = s at *
                go_upto_region 16 with fail
                refine wp_region_still_tail 11 (by kernel_rfl) (by kernel_rfl) ?_
                simp only [List.take_succ_cons, List.take_zero, List.drop_succ_cons, List.drop_zero]
                repeat still_step
                still_call ((rwith10_any _ h64 _ _).mono fun _ _ h => ⟨h.1, h.2.symm⟩)
                repeat still_step
                refine wpStill_nil ?_
                change wpList _ _ _ _ _ (w6).drew
                go_wp2
                go_roundw
                case rel => exact ⟨y + 1, by omega, by go_num, by rw [hE2.out]; exact hP5.out, hb5.out⟩
                case measure => simp [intOf]; omega
              · have hE2 := hide (hst.out (by rw [hFx.out]; rfl))
                obtain ⟨g, rfl, hX⟩ := hP4.at_ hlx
                have hP5 := hide (hX.add (y := y) hlx hly).drew
                have hb5 := hide (below_drew (hb4.setCell (p := ⟨g, x, none⟩) hX.B (.int .u64 (withB (setB ((uptoE F x y) x) n) (y : Int) : Nat))))
                obtain ⟨-, c0, c1, d0, df, gp, gl, -, h64⟩ := hX
                clear hst hsk hFx hP4 hb4
                generalize setB ((uptoE F x y) x) n = s at *
                go_upto_region 16 with fail
                refine wp_region_still_tail 11 (by kernel_rfl) (by kernel_rfl) ?_
                simp only [List.take_succ_cons, List.take_zero, List.drop_succ_cons, List.drop_zero]
                repeat still_step
                still_call ((rwith10_any _ h64 _ _).mono fun _ _ h => ⟨h.1, h.2.symm⟩)
                repeat still_step
                refine wpStill_nil ?_
                change wpList _ _ _ _ _ (w6).drew
                go_wp2
                go_roundw
                case rel => exact ⟨y + 1, by omega, by go_num, by rw [hE2.out]; exact hP5.out, hb5.out⟩
                case measure => simp [intOf]; omega
              · have hE2 := hide (hst.out (by rw [hFx.out]; rfl))
                obtain ⟨g, rfl, hX⟩ := hP4.at_ hlx
                have hP5 := hide (hX.add (y := y) hlx hly).drew
                have hb5 := hide (below_drew (hb4.setCell (p := ⟨g, x, none⟩) hX.B (.int .u64 (withB (setB ((uptoE F x y) x) n) (y : Int) : Nat))))
                obtain ⟨-, c0, c1, d0, df, gp, gl, -, h64⟩ := hX
                clear hst hsk hFx hP4 hb4
                generalize setB ((uptoE F x y) x) n = s at *
                go_upto_region 16 with fail
                refine wp_region_still_tail 11 (by kernel_rfl) (by kernel_rfl) ?_
                simp only [List.take_succ_cons, List.take_zero, List.drop_succ_cons, List.drop_zero]
                repeat still_step
                still_call ((rwith10_any _ h64 _ _).mono fun _ _ h => ⟨h.1, h.2.symm⟩)
                repeat still_step
                refine wpStill_nil ?_
                change wpList _ _ _ _ _ (w6).drew
                go_wp2
                go_roundw
                case rel => exact ⟨y + 1, by omega, by go_num, by rw [hE2.out]; exact hP5.out, hb5.out⟩
                case measure => simp [intOf]; omega
              · have hE2 := hide (hst.out (by rw [hFx.out]; rfl))
                obtain ⟨g, rfl, hX⟩ := hP4.at_ hlx
                have hP5 := hide (hX.add (y := y) hlx hly).drew
                have hb5 := hide (below_drew (hb4.setCell (p := ⟨g, x, none⟩) hX.B (.int .u64 (withB (setB ((uptoE F x y) x) n) (y : Int) : Nat))))
                obtain ⟨-, c0, c1, d0, df, gp, gl, -, h64⟩ := hX
                clear hst hsk hFx hP4 hb4
                generalize setB ((uptoE F x y) x) n = s at *
                go_upto_region 16 with fail
                refine wp_region_still_tail 11 (by kernel_rfl) (by kernel_rfl) ?_
                simp only [List.take_succ_cons, List.take_zero, List.drop_succ_cons, List.drop_zero]
                repeat still_step
                still_call ((rwith10_any _ h64 _ _).mono fun _ _ h => ⟨h.1, h.2.symm⟩)
                repeat still_step
                refine wpStill_nil ?_
                change wpList _ _ _ _ _ (w6).drew
                go_wp2
                go_roundw
                case rel => exact ⟨y + 1, by omega, by go_num, by rw [hE2.out]; exact hP5.out, hb5.out⟩
                case measure => simp [intOf]; omega
              · have hE2 := hide (hst.out (by rw [hFx.out]; rfl))
                obtain ⟨g, rfl, hX⟩ := hP4.at_ hlx
                have hP5 := hide (hX.add (y := y) hlx hly).drew
                have hb5 := hide (below_drew (hb4.setCell (p := ⟨g, x, none⟩) hX.B (.int .u64 (withB (setB ((uptoE F x y) x) n) (y : Int) : Nat))))
                obtain ⟨-, c0, c1, d0, df, gp, gl, -, h64⟩ := hX
                clear hst hsk hFx hP4 hb4
                generalize setB ((uptoE F x y) x) n = s at *
                go_upto_region 16 with fail
                refine wp_region_still_tail 11 (by kernel_rfl) (by kernel_rfl) ?_
                simp only [List.take_succ_cons, List.take_zero, List.drop_succ_cons, List.drop_zero]
                repeat still_step
                still_call ((rwith10_any _ h64 _ _).mono fun _ _ h => ⟨h.1, h.2.symm⟩)
                repeat still_step
                refine wpStill_nil ?_
                change wpList _ _ _ _ _ (w6).drew
                go_wp2
                go_roundw
                case rel => exact ⟨y + 1, by omega, by go_num, by rw [hE2.out]; exact hP5.out, hb5.out⟩
                case measure => simp [intOf]; omega
            · obtain rfl : y = n := by omega
              have hP4 := hide (hPy.congr (F := uptoE F (x + 1) 0) fun a b _ hb => uptoE_row hb)
              clear hPy
              go_wp2
              go_roundw
              case rel => exact ⟨x + 1, by omega, by go_num, hP4.out, hby⟩
              case measure => simp [intOf]; omega
        · obtain rfl : x = n := by omega
          have hP4 := hPx.congr (F := F) fun a b ha _ => uptoE_all ha
          have d0 := hP4.c0
          have d1 := hP4.c1
          have f0 := k2x.frozen 0
          have f1 := k2x.frozen 1
          have e0 := k2x.cell 0
          have e1 := k2x.cell 1
          simp only [List.getElem?_toArray, List.getElem?_cons_zero, List.getElem?_cons_succ] at e0 e1
          have hq := (k2x.set_ 0 (.int .i64 x)).set_ 1 (.slice Ad x cd)
          simp only [List.setIfInBounds_toArray, List.set_cons_zero, List.set_cons_succ] at hq
          have hR2 := (hP4.rg.far (p := ⟨w.heap.size + 1 + 1, 0, none⟩) k2l (.int .i64 x)).far (p := ⟨w.heap.size + 1 + 1, 1, none⟩) k2l (.slice Ad x cd)
          have hz := ((hbr.trans (hbx.mono (by omega))).setCell (p := ⟨w.heap.size + 1 + 1, 0, none⟩) (by simp) (.int .i64 x)).setCell (p := ⟨w.heap.size + 1 + 1, 1, none⟩) (by simp) (.slice Ad x cd)
          obtain ⟨A2, c2, e2, hG2⟩ := hR2.gr hn64 (K := fun b => b < ((Wo.setCell ⟨w.heap.size + 1 + 1, 0, none⟩ (.int .i64 x)).setCell ⟨w.heap.size + 1 + 1, 1, none⟩ (.slice Ad x cd)).heap.size ∧ b ≠ w.heap.size + 1 ∧ b ≠ w.heap.size + 1 + 1) (fun g h1 h2 => ⟨h2, by omega, by omega⟩)
          simp only [Value.slice.injEq, true_and] at e2
          obtain ⟨rfl, rfl⟩ := e2
          replace hG2 := hide hG2
          replace hz := hide hz
          replace hq := hide hq
          clear hR2 hPx hP4
          go_wp2
          go_roundw
          case rel => exact ⟨k + 1, _, _, by omega, by go_num, hq.out, by rw [hFe.out]; exact hG2.out, hz.out⟩
          case measure => simp [intOf]; omega
    · obtain rfl : k = n := by omega
      have c0 := k2.cell 0
      have c1 := k2.cell 1
      have k3r := k3.below hbr (by omega)
      have f0 := k3r.frozen 0
      have f1 := k3r.frozen 1
      have e0 := k3r.cell 0
      have e1 := k3r.cell 1
      have hq := (k3r.set_ 0 (.int .i64 k)).set_ 1 (.slice Av k cv)
      simp only [List.setIfInBounds_toArray, List.set_cons_zero, List.set_cons_succ] at hq
      have y0 := hq.cell 0
      have y1 := hq.cell 1
      simp only [List.getElem?_toArray, List.getElem?_cons_zero, List.getElem?_cons_succ] at c0 c1 y0 y1 e0 e1
      have hF := hide (hgr.keep (K' := fun b => b < wr.heap.size) ((Agree.setCell ⟨w.heap.size + 1, 0, none⟩ (fun h => h.2.1 rfl) (.int .i64 k)).trans (Agree.setCell ⟨w.heap.size + 1, 1, none⟩ (fun h => h.2.1 rfl) (.slice Av k cv))) (fun b h => h.1))
      have hz := hide (((hb.trans (hbr.mono (by omega))).setCell (p := ⟨w.heap.size + 1, 0, none⟩) (by simp) (.int .i64 k)).setCell (p := ⟨w.heap.size + 1, 1, none⟩) (by simp) (.slice Av k cv))
      clear hq hgr
      go_wp2_with fail
      exact bodyPost_ret (v := .agg #[.int .i64 k, .slice Av k cv]) (by simp [results, Tryz.results163, go_sem, y0, y1]) rfl ⟨_, _, rfl, hF.out.keep (Agree.refl _ _) (fun b (h : b < wr.heap.size) => by show b < _; simpa using h), hz.out⟩
end Go.Proofs.YtfhnamomiaekdaaGreat

namespace Go.Proofs.YtfhnamomiaekdaaGreat
open Go.RowKit Go.Inq
set_option maxHeartbeats 8000000
attribute [local go_sem ↓] Go.wp_at_zero Go.wp_at_succ

set_option maxRecDepth 100000 in
theorem rcyc13_any (n : Nat) (A : Option Addr) (c : Nat) (E : Edges) (w : World) (h : GrS w (Old w) n A c E) :
    Calls Tryz.prog 100 #[.agg #[.int .i64 n, .slice A n c]] w fun e w' => e = .returned (.bool (cycB n E)) ∧ Below w.heap.size w w' := by
  have hn64 := h.n64
  obtain ⟨W0, hW0⟩ : ∃ W0, w.alloc (.cells #[.int .i64 n, .slice A n c] 174) = W0 := ⟨_, rfl⟩
  have hb := below_allocEq (Below.refl w.heap.size w) hW0 (Nat.le_refl _)
  have k1 := Blk.newEq hW0
  have hg := h.below hb
  have c0 := k1.cell 0
  have c1 := k1.cell 1
  simp only [List.getElem?_toArray, List.getElem?_cons_zero, List.getElem?_cons_succ] at c0 c1
  have hno : Hid ((∀ x, x < n → cloE n E x x = false) → cycB n E = false) := hide (fun g => by
    unfold cycB
    rw [List.any_eq_false]
    intro x hx
    rw [g x (List.mem_range.1 hx)]
    decide)
  have hyes : Hid (∀ x, x < n → cloE n E x x = true → cycB n E = true) := hide (fun x hx g => by
    unfold cycB
    rw [List.any_eq_true]
    exact ⟨x, List.mem_range.2 hx, g⟩)
  have hcl := hide (fun (w1 : World) (hb1 : Below W0.heap.size W0 w1) => rclose13_any n A c E w1 (hg.below hb1))
  have hri := hide (rright12_any n A c E (Old W0) W0 hg (fun b h => h))
  generalize cycB n E = r at *
  clear h hg
  go_enter Tryz.func100, Tryz.ntmps100
  go_wp2_with fail
  clear hW0 c0 c1
  refine hri.out.mono ?_
  rintro e w1 ⟨rfl, hb1⟩
  have k1b := k1.below hb1 k1.lt
  have c0 := k1b.cell 0
  have c1 := k1b.cell 1
  simp only [List.getElem?_toArray, List.getElem?_cons_zero, List.getElem?_cons_succ] at c0 c1
  have hc1 := hide (hcl.out w1 hb1)
  have hb2 := hb.trans (hb1.mono hb.size)
  clear hri hcl
  go_wp2_with fail
  clear c0 c1
  refine hc1.out.mono ?_
  rintro e w2 ⟨A2, c2, rfl, hG, hb3⟩
  have k1c := k1b.below hb3 k1b.lt
  have hb4 := hb2.trans (hb3.mono hb2.size)
  clear hc1 k1b k1
  go_upto_region 5 with fail
  obtain ⟨W5, hW5⟩ : ∃ W5, w2.alloc (.cells #[.int .i64 n, .slice A2 n c2] 174) = W5 := ⟨_, rfl⟩
  rw [hW5]
  have hBa := below_allocEq (Below.refl w2.heap.size w2) hW5 (Nat.le_refl _)
  have k2 := Blk.newEq hW5
  have hG5 := hide (hG.below hBa)
  have k1d := k1c.below hBa k1c.lt
  have hb5 := hb4.trans (hBa.mono hb4.size)
  clear hW5 hG hBa k1c hb4
  generalize w2.heap.size = p at *
  go_wp2_with fail
  go_loopw [5] (fun s5 wr => ∃ x : Nat, x ≤ n ∧ s5 = .int .i64 x ∧ Hid (∀ y, y < x → cloE n E y y = false) ∧ Below W5.heap.size W5 wr) (fun s5 _ => n - (intOf s5).toNat)
  case atStart => exact ⟨0, Nat.zero_le _, by go_num, hide (fun y hy => absurd hy (by omega)), Below.refl _ _⟩
  case round =>
    obtain ⟨x, hx, rfl, hall, hbr⟩ := hrel
    have hx1 : (0 : Int) ≤ (x : Int) := Int.natCast_nonneg _
    have m1 := k1d.below hbr k1d.lt
    have m2 := k2.below hbr k2.lt
    have c0 := m1.cell 0
    have d0 := m2.cell 0
    have d1 := m2.cell 1
    simp only [List.getElem?_toArray, List.getElem?_cons_zero, List.getElem?_cons_succ] at c0 d0 d1
    by_cases hlt : x < n
    · have hx2 : (x : Int) < (n : Int) := by omega
      have hha := hide (rhas12_any n A2 c2 (cloE n E) x x (Old wr) wr (hG5.out.below hbr) (fun b h => h) hlt hlt)
      have hy := hide (hyes.out x hlt)
      have hst := hide (fun (g : cloE n E x x = false) => (fun y (hy : y < x + 1) => (by
        by_cases e : y = x
        · subst e; exact g
        · exact hall.out y (by omega) : cloE n E y y = false)))
      generalize cloE n E x x = q at *
      go_wp2_with fail
      refine hha.out.mono ?_
      rintro e w3 ⟨rfl, hb3'⟩
      have hbz := hbr.trans (hb3'.mono hbr.size)
      clear hha c0 d0 d1
      cases q with
      | true =>
        have hr := hy.out rfl
        subst hr
        clear hst hy hall hno hyes
        go_wp2
        go_ret
        exact ⟨rfl, hb5.trans (hbz.mono hb5.size)⟩
      | false =>
        have hg := hide (hst.out rfl)
        clear hst hy hall
        go_wp2
        go_roundw
        case rel => exact ⟨x + 1, by omega, by go_num, hg, hbz⟩
        case measure => simp [intOf]; omega
    · obtain rfl : x = n := by omega
      have hr := hno.out hall.out
      subst hr
      clear hall hno hyes
      go_wp2
      go_ret
      exact ⟨rfl, hb5.trans (hbr.mono hb5.size)⟩
end Go.Proofs.YtfhnamomiaekdaaGreat
