/-
  Plain words of layer 21: the choices of rows that may be, may be; no program in sight.
-/
import Derived.Deep.OwnRows
import Derived.Test.YtfhnamomiaekdaaGreatT09
import Derived.Test.YtfhnamomiaekdaaGreatT16
import Derived.Test.YtfhnamomiaekdaaGreatT01
import Derived.Test.YtfhnamomiaekdaaGreatT05
set_option linter.unusedVariables false
set_option linter.unusedSimpArgs false
namespace Go.Proofs.YtfhnamomiaekdaaGreat
open Go.RowKit Go.Inq

theorem ofC_one {H : List Txn} {o : List Int} {p : Cho} (h : oneB H p = true) : oneB H (ofC o p) = true := by
  unfold ofC
  split
  · exact turn_one h
  · exact h
theorem choS_rightC {H : List Txn} {R : List SRow} (h : rightS H R = true) : rightC H (choS H R) = true := by
  have hok := (okS_iff H R).1 h
  have he : choS H R = (R.map (choR H)).flatten := by unfold choS; rw [h]; rfl
  have ht : choS H R = choTo H R R.length := by unfold choTo; rw [he, List.take_length]
  have hl := choTo_len (H := H) (R := R) ((rightH_iff H).1 hok.right).1 R.length (Nat.le_refl _)
  rw [← ht] at hl
  have hR := hok.len
  unfold rightC
  rw [hok.right, Bool.true_and, Bool.and_eq_true, decide_eq_true_eq, List.all_eq_true]
  refine ⟨by omega, fun c hc => ?_⟩
  rw [he, List.mem_flatten] at hc
  obtain ⟨l, hl, hcl⟩ := hc
  obtain ⟨r, hr, rfl⟩ := List.mem_map.1 hl
  unfold choR at hcl
  obtain ⟨p, hp, rfl⟩ := List.mem_map.1 hcl
  refine ofC_one (pairs_one ?_)
  unfold pairsL
  rw [List.mem_flatten]
  refine ⟨_, List.mem_map.2 ⟨r.key, ?_, rfl⟩, hp⟩
  rw [← hok.keys]
  exact List.mem_map_of_mem hr
theorem choS_no {H : List Txn} {R : List SRow} (h : rightS H R = false) : choS H R = [] ∧ checkS H R = false := by
  refine ⟨by unfold choS; rw [h]; rfl, ?_⟩
  rw [checkS_good, h]; rfl
theorem checkS_yes {H : List Txn} {R : List SRow} (h : rightS H R = true) : checkS H R = !cycB H.length (fullE H 1 (choS H R)) := by
  rw [checkS_good, h]; rfl
end Go.Proofs.YtfhnamomiaekdaaGreat

namespace Go.Proofs.YtfhnamomiaekdaaGreat
open Go.RowKit Go.Inq
set_option maxHeartbeats 8000000
attribute [local go_sem ↓] Go.wp_at_zero Go.wp_at_succ

theorem fitS_rows {H : List Txn} {π : List Int} (hp : π.length ≤ 1000000) : FitS (rowsL H π) := by
  unfold rowsL
  split
  · next h =>
    have := keysL_16len h.1
    refine ⟨by rw [List.length_map]; omega, fun r hr => ?_⟩
    obtain ⟨k, hk, rfl⟩ := List.mem_map.1 hr
    exact Nat.le_trans (List.length_filter_le _ _) hp
  · exact ⟨by simp, fun r hr => by cases hr⟩
theorem serC_split {H : List Txn} {π : List Int} (h : serC H π = true) : rightS H (rowsL H π) = true ∧ checkS H (rowsL H π) = true := by
  unfold serC at h
  rw [Bool.and_eq_true] at h
  exact ⟨rowsL_right h.1 (check_perm h.2), ser_si h.1 h.2⟩
end Go.Proofs.YtfhnamomiaekdaaGreat

namespace Go.Proofs.YtfhnamomiaekdaaGreat
open Go.RowKit Go.Inq
set_option maxHeartbeats 1000000
attribute [local go_sem ↓] Go.wp_at_zero Go.wp_at_succ

theorem testBit_div (s i : Nat) : decide (s / 2 ^ i % 2 = 1) = s.testBit i := by
  rw [Nat.testBit_eq_decide_div_mod_eq]
theorem pow_63 {i : Nat} (h : i ≤ 63) : 2 ^ i ≤ 9223372036854775808 := by
  have := Nat.pow_le_pow_right (n := 2) (by decide) h
  simpa using this
theorem with_add {s i : Nat} (hs : s < 18446744073709551616) (hi : i ≤ 63) (h : s.testBit i = false) : s + 2 ^ i = s ||| 2 ^ i := by
  have hp := pow_63 hi
  have hand : BitVec.ofNat 65 s &&& BitVec.ofNat 65 (2 ^ i) = 0#65 := by
    refine BitVec.eq_of_toNat_eq ?_
    rw [BitVec.toNat_and, BitVec.toNat_ofNat, BitVec.toNat_ofNat, Nat.mod_eq_of_lt (by omega), Nat.mod_eq_of_lt (by omega)]
    refine Nat.eq_of_testBit_eq fun j => ?_
    rw [Nat.testBit_and, Nat.testBit_two_pow]
    by_cases e : i = j
    · subst e; simp [h]
    · simp [e]
  have h1 := congrArg BitVec.toNat (BitVec.add_eq_or_of_and_eq_zero _ _ hand)
  have e1 : (BitVec.ofNat 65 s).toNat = s := by rw [BitVec.toNat_ofNat]; exact Nat.mod_eq_of_lt (by omega)
  have e2 : (BitVec.ofNat 65 (2 ^ i)).toNat = 2 ^ i := by rw [BitVec.toNat_ofNat]; exact Nat.mod_eq_of_lt (by omega)
  rw [BitVec.toNat_add, BitVec.toNat_or, e1, e2, Nat.mod_eq_of_lt (by omega)] at h1
  exact h1
/-- A power of two. -/
def pow2 (n : Nat) : Nat := 2 ^ n
theorem rin10_any (i : Int) (w : World) : Calls Tryz.prog 248 #[.int .i64 i] w fun e w' => e = .returned (.bool (decide (0 ≤ i) && decide (i ≤ 63))) ∧ w = w' := by
  by_cases h0 : 0 ≤ i
  · have h1 : decide (i ≥ 0) = true := by simpa using h0
    have h2 : decide (0 ≤ i) = true := by simpa using h0
    go_enter Tryz.func248, Tryz.ntmps248
    go_wp2
    go_ret
    exact ⟨by simp [h2], rfl⟩
  · have h1 : decide (i ≥ 0) = false := by simpa using h0
    have h2 : decide (0 ≤ i) = false := by simpa using h0
    clear h0
    go_enter Tryz.func248, Tryz.ntmps248
    go_wp2
    go_ret
    exact ⟨by simp [h2], rfl⟩
theorem rpow10_any (n : Nat) (hn : n ≤ 63) (w : World) : Calls Tryz.prog 249 #[.int .i64 (n : Int)] w fun e w' => e = .returned (.int .u64 (pow2 n : Nat)) ∧ w = w' := by
  go_enter Tryz.func249, Tryz.ntmps249
  go_wp2
  go_loop [3, 4] (fun s3 s4 => ∃ k : Nat, k ≤ n ∧ s4 = .int .i64 k ∧ ∃ x : Nat, s3 = .int .u64 x ∧ Hid (x = pow2 k)) (fun _ s4 => n - (intOf s4).toNat)
  case atStart => exact ⟨0, Nat.zero_le _, by go_num, 1, by go_num, hide rfl⟩
  case round =>
    obtain ⟨k, hk, rfl, x, rfl, hx⟩ := hrel
    have hk1 : (0 : Int) ≤ (k : Int) := Int.natCast_nonneg _
    by_cases hlt : k < n
    · have hx2 : x ≤ 9223372036854775807 := by
        rw [hx.out]
        unfold pow2
        have := Nat.pow_lt_pow_right (a := 2) (by decide) (show k < 63 by omega)
        have h63 : (2 : Nat) ^ 63 = 9223372036854775808 := by decide
        omega
      have hxs : Hid (x + x = pow2 (k + 1)) := hide (by rw [hx.out]; unfold pow2; rw [Nat.pow_succ]; omega)
      replace hx := hide hx
      have hwr : IntKind.u64.wrap ((x : Int) + (x : Int)) = ((x + x : Nat) : Int) := by rw [IntKind.wrap_u64]; omega
      go_wp2
      go_round
      case rel => exact ⟨k + 1, by omega, by go_num, x + x, by go_num, hxs⟩
      case measure => simp [intOf]; omega
    · obtain rfl : k = n := by omega
      go_wp2
      go_ret
      exact ⟨by rw [hx.out]; rfl, rfl⟩
theorem rhas10_any (s : Nat) (hs : s < 18446744073709551616) (i : Int) (w : World) : Calls Tryz.prog 218 #[.int .u64 s, .int .i64 i] w fun e w' => e = .returned (.bool (Go.Inq.hasB s i)) ∧ w = w' := by
  by_cases hi : 0 ≤ i ∧ i ≤ 63
  · obtain ⟨n, rfl⟩ : ∃ n : Nat, i = n := ⟨i.toNat, by omega⟩
    have hn : n ≤ 63 := by omega
    have hb : (decide ((0 : Int) ≤ (n : Int)) && decide ((n : Int) ≤ 63)) = true := by simp; omega
    have hr := hide (hasB_nat s n)
    have hq := hide (testBit_div s n)
    clear hi
    go_enter Tryz.func218, Tryz.ntmps218
    go_wp2_with fail
    refine (rin10_any (n : Int) _).mono ?_
    rw [hb]
    rintro e w1 ⟨rfl, rfl⟩
    go_wp2_with fail
    refine (rpow10_any n hn _).mono ?_
    rintro e w1 ⟨rfl, rfl⟩
    have hp : Hid (pow2 n = 2 ^ n) := hide rfl
    have hp0 : 0 < pow2 n := Nat.two_pow_pos n
    generalize pow2 n = p at *
    have hp1 : ((p : Int) == 0) = false := by rw [beq_eq_false_iff_ne]; omega
    have hw : Hid (IntKind.u64.wrap ((s : Int) / (p : Int)) = ((s / p : Nat) : Int)) := hide (by
      have h1 : s / p ≤ s := Nat.div_le_self _ _
      have e : (s : Int) / (p : Int) = ((s / p : Nat) : Int) := (Int.natCast_ediv s p).symm
      rw [e]
      generalize s / p = q at *
      rw [IntKind.wrap_u64]
      omega)
    go_wp2
    go_ret
    refine ⟨ret_bool ?_, rfl⟩
    rw [hr.out, ← hq.out, ← hp.out, hw.out]
    generalize s / p = q
    rw [Int.tmod_eq_emod_of_nonneg (Int.natCast_nonneg _), Bool.eq_iff_iff]
    simp
    omega
  · have hb : (decide (0 ≤ i) && decide (i ≤ 63)) = false := by
      rw [Bool.and_eq_false_iff]
      simp
      omega
    have hr : Hid (Go.Inq.hasB s i = false) := hide (by
      unfold Go.Inq.hasB
      by_cases h0 : 0 ≤ i
      · rw [Nat.testBit_lt_two_pow (Nat.lt_of_lt_of_le hs (by
          have : (2 : Nat) ^ 64 ≤ 2 ^ i.toNat := Nat.pow_le_pow_right (by decide) (by omega)
          omega))]
        simp
      · simp [h0])
    clear hi
    go_enter Tryz.func218, Tryz.ntmps218
    go_wp2_with fail
    refine (rin10_any i _).mono ?_
    rw [hb]
    rintro e w1 ⟨rfl, rfl⟩
    go_wp2
    go_ret
    exact ⟨by rw [hr.out]; rfl, rfl⟩
theorem rwith10_any (s : Nat) (hs : s < 18446744073709551616) (i : Int) (w : World) : Calls Tryz.prog 220 #[.int .u64 s, .int .i64 i] w fun e w' => e = .returned (.int .u64 (withB s i : Nat)) ∧ w = w' := by
  cases hh : Go.Inq.hasB s i with
  | true =>
    have hr : Hid (withB s i = s) := hide (by
      unfold Go.Inq.hasB at hh
      rw [Bool.and_eq_true, decide_eq_true_eq] at hh
      unfold withB bitN
      by_cases h : i < 64
      · rw [if_pos ⟨hh.1, h⟩]
        refine Nat.eq_of_testBit_eq fun j => ?_
        rw [Nat.testBit_or, Nat.testBit_two_pow]
        by_cases e : i.toNat = j
        · subst e; simp [hh.2]
        · simp [e]
      · rw [if_neg (by omega), Nat.or_zero])
    have hc := hide (rhas10_any s hs i)
    rw [hh] at hc
    replace hh := hide hh
    go_enter Tryz.func220, Tryz.ntmps220
    go_wp2_with fail
    refine (hc.out _).mono ?_
    rintro e w1 ⟨rfl, rfl⟩
    go_wp2
    go_ret
    exact ⟨by rw [hr.out]; rfl, rfl⟩
  | false =>
    have hc := hide (rhas10_any s hs i)
    rw [hh] at hc
    by_cases hi : 0 ≤ i ∧ i ≤ 63
    · obtain ⟨n, rfl⟩ : ∃ n : Nat, i = n := ⟨i.toNat, by omega⟩
      have hn : n ≤ 63 := by omega
      have hb : (decide ((0 : Int) ≤ (n : Int)) && decide ((n : Int) ≤ 63)) = true := by simp; omega
      have hbit : s.testBit n = false := by rw [← hasB_nat]; exact hh
      have hadd := with_add hs hn hbit
      have hr : Hid (withB s (n : Int) = s + pow2 n) := hide (by unfold withB; rw [bitN_in (by omega) (by omega), Int.toNat_natCast, ← hadd]; rfl)
      have hlt : s + pow2 n < 18446744073709551616 := by rw [← hr.out]; exact withB_lt hs _
      replace hadd := hide hadd
      clear hi hh hbit
      go_enter Tryz.func220, Tryz.ntmps220
      go_wp2_with fail
      refine (hc.out _).mono ?_
      rintro e w1 ⟨rfl, rfl⟩
      go_wp2_with fail
      refine (rin10_any (n : Int) _).mono ?_
      rw [hb]
      rintro e w1 ⟨rfl, rfl⟩
      go_wp2_with fail
      refine (rpow10_any n hn _).mono ?_
      rintro e w1 ⟨rfl, rfl⟩
      generalize pow2 n = p at *
      have hw : IntKind.u64.wrap ((s : Int) + (p : Int)) = ((s + p : Nat) : Int) := by rw [IntKind.wrap_u64]; omega
      go_wp2
      go_ret
      exact ⟨by rw [hr.out]; first | rfl | simp, rfl⟩
    · have hb : (decide (0 ≤ i) && decide (i ≤ 63)) = false := by
        rw [Bool.and_eq_false_iff]
        simp
        omega
      have hr : Hid (withB s i = s) := hide (by unfold withB bitN; rw [if_neg (by omega), Nat.or_zero])
      clear hi hh
      go_enter Tryz.func220, Tryz.ntmps220
      go_wp2_with fail
      refine (hc.out _).mono ?_
      rintro e w1 ⟨rfl, rfl⟩
      go_wp2_with fail
      refine (rin10_any i _).mono ?_
      rw [hb]
      rintro e w1 ⟨rfl, rfl⟩
      go_wp2
      go_ret
      exact ⟨by rw [hr.out]; rfl, rfl⟩
end Go.Proofs.YtfhnamomiaekdaaGreat

namespace Go.Proofs.YtfhnamomiaekdaaGreat
open Go.RowKit Go.Inq
set_option maxHeartbeats 2000000
attribute [local go_sem ↓] Go.wp_at_zero Go.wp_at_succ

theorem infoU12 : (Tryz.prog.info? 246).map (fun i => (i.zero, i.size, i.bytes)) = some (some (.int .u64 0), 1, 8) := by kernel_rfl
/-- What makes a graph tells. -/
abbrev OutG := NewG 246
theorem hB_box {w : World} {o : Obj} : Below w.heap.size w (w.alloc o) := (Below.refl _ _).alloc (Nat.le_refl _) _
/-- Is there an edge, of whatever numbers? -/
def hasE (n : Nat) (E : Edges) (a b : Int) : Bool := decide (0 ≤ a) && decide (a < (n : Int)) && Go.Inq.hasB (setB (E a.toNat) n) b
theorem hasE_nat {n : Nat} {E : Edges} {a b : Nat} (ha : a < n) (hb : b < n) : hasE n E (a : Int) (b : Int) = E a b := by
  unfold hasE
  rw [hasB_nat, Int.toNat_natCast, testBit_setB]
  simp [ha, hb]
end Go.Proofs.YtfhnamomiaekdaaGreat

namespace Go.Proofs.YtfhnamomiaekdaaGreat
open Go.RowKit Go.Inq
set_option maxHeartbeats 1000000

theorem own_base' {w : World} {base base' : Nat} {e : TypeId} {size n : Nat} {v : Value} {xs : List Value} (h : w.ownsRow base e size v n xs) (hb : base' ≤ base) : w.ownsRow base' e size v n xs := by
  refine ⟨h.1, ?_⟩
  rcases h.2 with h2 | ⟨g, cap, cur, hv, hg, r⟩
  · exact .inl h2
  · exact .inr ⟨g, cap, cur, hv, Nat.le_trans hb hg, r⟩
end Go.Proofs.YtfhnamomiaekdaaGreat

namespace Go.Proofs.YtfhnamomiaekdaaGreat
open Go.RowKit Go.Inq
set_option maxHeartbeats 4000000
attribute [local go_sem ↓] Go.wp_at_zero Go.wp_at_succ

/-- A row of sets that grows. -/
def OwnU (w : World) (base : Nat) (v : Value) (l : List Nat) : Prop := w.ownsRow base 246 1 v l.length (l.map encU).flatten
theorem encU_one12 (x : Nat) : ∀ u ∈ encU x, u.oneCell' = true := by intro u hu; simp [encU] at hu; subst hu; rfl
theorem OwnU.form {w : World} {base : Nat} {v : Value} {l : List Nat} (h : OwnU w base v l) : ∃ A c, v = .slice A l.length c := own_slice h
/-- A reference's graph: rows of the call's own, with room perhaps. -/
def RG (W : World) (base n : Nat) (E : Edges) (v : Value) : Prop :=
  (n = 0 ∧ v = .slice none 0 0) ∨ ∃ g cap cur, v = .slice (some ⟨g, 0, none⟩) n cap ∧ base ≤ g ∧ Blk W g 246 cur ∧ n ≤ cap ∧ cap ≤ maxLen ∧ cur.size = cap ∧ ∀ i, i < n → cur[i]? = some (.int .u64 (setB (E i) n : Nat))
theorem RG.of_own {W : World} {base n : Nat} {E : Edges} {v : Value} (h : OwnU W base v (rowsG n E)) : RG W base n E v := by
  obtain ⟨h1, h2⟩ := h
  rw [rowsG_length] at h2
  rcases h2 with ⟨h3, h4⟩ | ⟨g, cap, cur, h3, h4, h5, h6, h7, h8, h9⟩
  · exact .inl ⟨h4, h3⟩
  · refine .inr ⟨g, cap, cur, h3, h4, h5, h6, h7, by rw [h8]; simp, fun i hi => ?_⟩
    have h10 : (cur.toList.take (n * 1))[i]? = some (.int .u64 (setB (E i) n : Nat)) := by
      rw [h9]
      have : ∀ l : List Nat, (l.map encU).flatten = l.map fun x : Nat => Value.int .u64 x := fun l => by
        induction l with
        | nil => rfl
        | cons a l ih => simp [encU] at ih ⊢; exact ih
      rw [this, List.getElem?_map, List.getElem?_eq_getElem (by rw [rowsG_length]; exact hi), rowsG_at hi]
      rfl
    rw [List.getElem?_take] at h10
    split at h10
    · simpa using h10
    · cases h10
theorem rowsG_no (n : Nat) : rowsG n noE = List.replicate n 0 := by
  unfold rowsG
  rw [List.eq_replicate_iff]
  refine ⟨by simp, fun x hx => ?_⟩
  obtain ⟨a, _, rfl⟩ := List.mem_map.1 hx
  refine Nat.eq_of_testBit_eq fun j => ?_
  rw [testBit_setB]
  simp [noE]
/-- What New tells: a graph with no edge, in memory of its own. -/
def OutR (w : World) (n : Nat) (E : Edges) (e : Ending) (w' : World) : Prop := ∃ v, e = .returned (.agg #[.int .i64 n, v]) ∧ RG w' w.heap.size n E v ∧ Below w.heap.size w w'
set_option maxRecDepth 100000 in
theorem rnew12_any (n : Nat) (hn : n ≤ 64) (w : World) : Calls Tryz.prog 219 #[.int .i64 (n : Int)] w (OutR w n noE) := by
  obtain ⟨iu, hiu, hi1, hi2, hi3⟩ := info_parts infoU12
  go_enter Tryz.func219, Tryz.ntmps219
  go_upto_region 2 with fail
  obtain ⟨W0, hW0⟩ : ∃ W0, (w.alloc (.cells #[.int .i64 0, .slice none 0 0] 174)).alloc (.cells #[.int .i64 n, .slice none 0 0] 174) = W0 := ⟨_, rfl⟩
  have hb := below_two hW0
  have k1 := Blk.two1 hW0
  have k2 := Blk.two2 hW0
  have s0 := size_two hW0
  rw [hW0]
  clear hW0
  replace s0 := hide s0
  go_wp2_with fail
  go_loopw [4] (fun s4 wr => ∃ k : Nat, k ≤ n ∧ s4 = .int .i64 k ∧ ∃ v, Blk wr w.heap.size 174 #[.int .i64 0, .slice none 0 0] ∧ Blk wr (w.heap.size + 1) 174 #[.int .i64 n, v] ∧ OwnU wr (w.heap.size + 2) v (List.replicate k 0) ∧ Below w.heap.size w wr) (fun s4 _ => n - (intOf s4).toNat)
  case atStart => exact ⟨0, Nat.zero_le _, by go_num, _, k1, k2, World.ownsRow_nil _ _ _ _, hb⟩
  case round =>
    obtain ⟨k, hk, rfl, v, m1, m2, hown, hbr⟩ := hrel
    obtain ⟨Wr, rfl⟩ : ∃ Wr, Wr = wr := ⟨_, rfl⟩
    have hk1 : (0 : Int) ≤ (k : Int) := Int.natCast_nonneg _
    obtain ⟨A, c, rfl⟩ := OwnU.form hown
    have c0 := m2.cell 0
    have c1 := m2.cell 1
    have f1 := m2.frozen 1
    have m2l := m2.lt
    simp only [List.getElem?_toArray, List.getElem?_cons_zero, List.getElem?_cons_succ] at c0 c1
    by_cases hlt : k < n
    · have hki : (k : Int) < (n : Int) := by omega
      have hll : (List.replicate k 0).length = k := List.length_replicate
      have hkD : (List.replicate k (0 : Nat)).length + 1 ≤ maxLen := by unfold maxLen; simp; omega
      have hkb : ((List.replicate k (0 : Nat)).length + 1) * 8 ≤ 140737488355328 := by simp; omega
      have hsn : Hid (List.replicate k (0 : Nat) ++ [0] = List.replicate (k + 1) 0) := hide (by rw [List.replicate_succ'])
      clear hll
      generalize List.replicate k (0 : Nat) = D at *
      have hsz : w.heap.size + 2 ≤ Wr.heap.size := by omega
      have hfar : ∀ g, (Value.slice A D.length c).ownBlock = some g → w.heap.size + 2 ≤ g := fun g hg => (hown.lt g hg).1
      replace hown := hide hown
      replace hfar := hide hfar
      go_upto_region 5 with fail
      go_wp2_with (at_builtin; go_loud (refine wpList_push (enc := encU) rfl (.tmp 13) (.tmp 14) 172 rfl (w.heap.size + 2) 246 iu _ 1 8 Tryz.underlying172 hiu hi1 hi2 hi3 rfl (by decide) (.slice A D.length c) D rfl hown.out (fun _ => rfl) 0 _ rfl rfl encU_one12 hkD hkb hsz w w.heap.size (by omega) hbr ?_); intro v1 w6 hown1 hg1 hb1 hat1; have j1 := (m1.alloc (.cells #[.int .u64 0] 246)).grown hg1 (fun e => by have := hfar.out _ e.symm; omega); have j2 := (m2.alloc (.cells #[.int .u64 0] 246)).grown hg1 (fun e => by have := hfar.out _ e.symm; omega); have d1 := j2.cell 1; have g1 := j2.frozen 1; simp only [List.getElem?_toArray, List.getElem?_cons_zero, List.getElem?_cons_succ] at d1; obtain ⟨A6, c6, rfl⟩ := OwnU.form hown1)
      go_roundw
      case rel =>
        refine ⟨k + 1, by omega, by go_num, .slice A6 (D ++ [0]).length c6, j1.far (p := ⟨w.heap.size + 1, 1, none⟩) (show w.heap.size ≠ w.heap.size + 1 by omega) _, ?_, ?_, hb1.setCell (p := ⟨w.heap.size + 1, 1, none⟩) (by simp) _⟩
        · have := j2.set_ 1 (.slice A6 (D ++ [0]).length c6)
          simpa using this
        · rw [← hsn.out]
          exact own_setCell hown1 (p := ⟨w.heap.size + 1, 1, none⟩) (fun e => by have h := (World.ownsRow.lt hown1 (w.heap.size + 1) e).1; omega) _
      case measure => simp [intOf]; omega
    · obtain rfl : k = n := by omega
      have d0 := m1.cell 0
      have d1 := m1.cell 1
      have g0 := m1.frozen 0
      have g1 := m1.frozen 1
      simp only [List.getElem?_toArray, List.getElem?_cons_zero, List.getElem?_cons_succ] at d0 d1
      rw [List.length_replicate] at hown
      have hlr : (List.replicate k (0 : Nat)).length = k := List.length_replicate
      have hq := (m1.set_ 0 (.int .i64 k)).set_ 1 (.slice A k c)
      simp only [List.setIfInBounds_toArray, List.set_cons_zero, List.set_cons_succ] at hq
      have y0 := hq.cell 0
      have y1 := hq.cell 1
      simp only [List.getElem?_toArray, List.getElem?_cons_zero, List.getElem?_cons_succ] at y0 y1
      have hO : Hid (OwnU Wr (w.heap.size + 2) (.slice A k c) (rowsG k noE)) := hide (by rw [rowsG_no]; exact hown)
      replace hlr := hide hlr
      go_wp2_with fail
      refine bodyPost_ret (v := .agg #[.int .i64 k, .slice A k c]) (by simp [results, Tryz.results219, go_sem, y0, y1]) rfl ⟨_, rfl, RG.of_own ?_, (hbr.setCell (p := ⟨w.heap.size, 0, none⟩) (by simp) _).setCell (p := ⟨w.heap.size, 1, none⟩) (by simp) _⟩
      have h1 := own_setCell (own_setCell hO.out (p := ⟨w.heap.size, 0, none⟩) (fun e => by have h := (hO.out.lt _ e).1; dsimp only at h; omega) (.int .i64 k)) (p := ⟨w.heap.size, 1, none⟩) (fun e => by have h := (hO.out.lt _ e).1; dsimp only at h; omega) (.slice A k c)
      exact own_base' h1 (by omega)
theorem hasB_setB {p : Nat → Bool} {n b : Nat} (hb : b < n) : Go.Inq.hasB (setB p n) (b : Int) = p b := by
  rw [hasB_nat, testBit_setB]; simp [hb]
theorem RG.gr {W : World} {base n : Nat} {E : Edges} {v : Value} (h : RG W base n E v) (hn : n ≤ 64) {K : Nat → Prop} (hK : ∀ g, base ≤ g → g < W.heap.size → K g) : ∃ A c, v = .slice A n c ∧ GrS W K n A c E := by
  rcases h with ⟨h1, rfl⟩ | ⟨g, cap, cur, rfl, h2, h3, h4, h5, h6, h7⟩
  · subst h1
    exact ⟨none, 0, rfl, GrS.zero _ _ _ _ _⟩
  · refine ⟨_, cap, rfl, ⟨?_, hn⟩⟩
    refine ⟨some ⟨g, 0, none⟩, cap, (rowsG n E).map encU, by rw [rowsG_length], by rw [rowsG_length]; exact h4, by simp, fun i cs x g1 g2 => ?_, fun _ => ⟨g, 0, rfl, hK g h2 h3.lt, fun i j cs u g1 g2 => ?_⟩⟩
    · rw [List.getElem?_map, g2] at g1
      injection g1 with g1
      exact ⟨by rw [← g1]; rfl, g1.symm⟩
    · rw [List.getElem?_map] at g1
      cases hx : (rowsG n E)[i]? with
      | none => rw [hx] at g1; cases g1
      | some x =>
        rw [hx] at g1
        injection g1 with g1
        subst g1
        obtain ⟨hi, he⟩ := List.getElem?_eq_some_iff.1 hx
        have hi' : i < n := by rw [rowsG_length] at hi; exact hi
        rw [rowsG_at hi'] at he
        cases j with
        | succ j => simp [encU] at g2
        | zero =>
          simp [encU] at g2
          subst g2
          have := (h3.cell i).trans (h7 i hi')
          rw [he] at this
          simpa using this
/-- One more edge, by a store. -/
theorem RG.add {W : World} {base n : Nat} {E : Edges} {g cap : Nat} (h : RG W base n E (.slice (some ⟨g, 0, none⟩) n cap)) {x y : Nat} (hx : x < n) (hy : y < n) (hn : n ≤ 64) :
    RG (W.setCell ⟨g, x, none⟩ (.int .u64 (withB (setB (E x) n) (y : Int) : Nat))) base n (orE E (oneE x y)) (.slice (some ⟨g, 0, none⟩) n cap) := by
  rcases h with ⟨h1, h2⟩ | ⟨g', cap', cur, h1, h2, h3, h4, h5, h6, h7⟩
  · cases h2
  · simp only [Value.slice.injEq, Option.some.injEq, Addr.mk.injEq, and_true, true_and] at h1
    obtain ⟨rfl, rfl⟩ := h1
    refine .inr ⟨g, cap, _, rfl, h2, h3.set_ x _, h4, h5, by simp [h6], fun i hi => ?_⟩
    rw [setB_with hy hn]
    by_cases e : i = x
    · subst e
      rw [Array.getElem?_setIfInBounds_self_of_lt (by omega)]
      congr 3
      refine setB_congr fun b hb => ?_
      simp [orE, oneE]
    · rw [Array.getElem?_setIfInBounds_ne (by omega), h7 i hi]
      congr 3
      refine setB_congr fun b hb => ?_
      simp [orE, oneE, e]
set_option maxRecDepth 100000 in
theorem rhas12_any (n : Nat) (A : Option Addr) (c : Nat) (E : Edges) (a b : Nat) (K : Nat → Prop) (w : World) (h : GrS w K n A c E) (hK : ∀ b, K b → b < w.heap.size) (ha : a < n) (hb : b < n) :
    Calls Tryz.prog 164 #[.agg #[.int .i64 n, .slice A n c], .int .i64 (a : Int), .int .i64 (b : Int)] w fun e w' => e = .returned (.bool (E a b)) ∧ Below w.heap.size w w' := by
  have hn64 := h.n64
  obtain ⟨g, off, rfl, hg, hc⟩ := h.at_ ha
  have hgl := hK _ hg
  have hB : Below w.heap.size w (w.alloc (.cells #[.int .i64 n, .slice (some ⟨g, off, none⟩) n c] 174)) := (Below.refl _ _).alloc (Nat.le_refl _) _
  have hc2 := (hB.cell (p := ⟨g, off + a, none⟩) hgl).trans hc
  have hai : (a : Int) < (n : Int) := by omega
  have ha0 : (0 : Int) ≤ (a : Int) := Int.natCast_nonneg _
  have hr := hide (hasB_setB (p := E a) hb)
  have hs := setB_64 (p := E a) hn64
  generalize setB (E a) n = x at *
  clear h
  replace hB := hide hB
  go_enter Tryz.func164, Tryz.ntmps164
  go_wp2_with fail
  refine (rhas10_any x hs (b : Int) _).mono ?_
  rw [hr.out]
  rintro e w1 ⟨rfl, rfl⟩
  go_wp2
  go_ret
  exact ⟨rfl, hB.out⟩
end Go.Proofs.YtfhnamomiaekdaaGreat

namespace Go.Proofs.YtfhnamomiaekdaaGreat
open Go.RowKit Go.Inq
set_option maxHeartbeats 4000000
attribute [local go_sem ↓] Go.wp_at_zero Go.wp_at_succ

theorem hasB_beyond {p : Nat → Bool} {n b : Nat} (hb : n ≤ b) : Go.Inq.hasB (setB p n) (b : Int) = false := by
  rw [hasB_nat, testBit_setB]; simp; omega
set_option maxRecDepth 100000 in
theorem rright12_any (n : Nat) (A : Option Addr) (c : Nat) (E : Edges) (K : Nat → Prop) (w : World) (h : GrS w K n A c E) (hK : ∀ b, K b → b < w.heap.size) :
    Calls Tryz.prog 162 #[.agg #[.int .i64 n, .slice A n c]] w fun e w' => e = .returned (.bool true) ∧ Below w.heap.size w w' := by
  have hn64 := h.n64
  have hB : Below w.heap.size w (w.alloc (.cells #[.int .i64 n, .slice A n c] 174)) := (Below.refl _ _).alloc (Nat.le_refl _) _
  have kG := Blk.new w 174 #[.int .i64 n, .slice A n c]
  have hg := hide (h.keep (Agree.below hB hK) (fun b hb => hb))
  have h0 : decide ((n : Int) < 0) = false := by simp
  have h1 : decide ((n : Int) > 64) = false := by simp; omega
  clear h
  go_enter Tryz.func162, Tryz.ntmps162
  go_upto_region 1 with fail
  generalize w.alloc (.cells #[.int .i64 n, .slice A n c] 174) = W at *
  have c0 := kG.cell 0
  have c1 := kG.cell 1
  simp only [List.getElem?_toArray, List.getElem?_cons_zero, List.getElem?_cons_succ] at c0 c1
  replace hB := hide hB
  clear kG
  go_wp2_with fail
  go_loop [3] (fun s3 => ∃ i : Nat, i ≤ n ∧ s3 = .int .i64 i) (fun s3 => n - (intOf s3).toNat)
  case atStart => exact ⟨0, Nat.zero_le _, by go_num⟩
  case round =>
    obtain ⟨i, hi, rfl⟩ := hrel
    have hi1 : (0 : Int) ≤ (i : Int) := Int.natCast_nonneg _
    by_cases hlt : i < n
    · have hi2 : (i : Int) < (n : Int) := by omega
      obtain ⟨g, off, rfl, hgk, hc⟩ := hg.out.at_ hlt
      have hs := setB_64 (p := E i) hn64
      have hbe := hide (fun b hb => hasB_beyond (p := E i) (n := n) (b := b) hb)
      generalize setB (E i) n = x at *
      go_wp2_with fail
      go_loop [4] (fun s4 => ∃ k : Nat, n ≤ k ∧ k ≤ 64 ∧ s4 = .int .i64 k) (fun s4 => 64 - (intOf s4).toNat)
      case atStart => exact ⟨n, Nat.le_refl _, hn64, rfl⟩
      case round =>
        obtain ⟨k, hk, hk64, rfl⟩ := hrel
        have hk1 : (0 : Int) ≤ (k : Int) := Int.natCast_nonneg _
        by_cases hkl : k < 64
        · have hk2 : decide ((k : Int) < 64) = true := by simp; omega
          have hf := hide (hbe.out k hk)
          go_wp2_with fail
          refine (rhas10_any x hs (k : Int) _).mono ?_
          rw [hf.out]
          rintro e w1 ⟨rfl, rfl⟩
          go_wp2
          go_round
          case rel => exact ⟨k + 1, by omega, by omega, by go_num⟩
          case measure => simp [intOf]; omega
        · have hk2 : decide ((k : Int) < 64) = false := by simp; omega
          go_wp2
          go_round
          case rel => exact ⟨i + 1, by omega, by go_num⟩
          case measure => simp [intOf]; omega
    · obtain rfl : i = n := by omega
      go_wp2
      go_ret
      exact ⟨rfl, hB.out⟩
end Go.Proofs.YtfhnamomiaekdaaGreat

namespace Go.Proofs.YtfhnamomiaekdaaGreat
open Go.RowKit Go.Inq

theorem below_drew {B : Nat} {w w1 : World} (h : Below B w w1) : Below B w w1.drew := h.trans ⟨rfl, rfl, rfl, Nat.le_refl _, fun _ _ => rfl⟩
theorem RG.keep {W W' : World} {B n : Nat} {E : Edges} {v : Value} (h : RG W B n E v) (hk : ∀ g, B ≤ g → g < W.heap.size → W'.heap[g]? = W.heap[g]?) : RG W' B n E v := by
  rcases h with h | ⟨g, cap, cur, h1, h2, h3, r⟩
  · exact .inl h
  · exact .inr ⟨g, cap, cur, h1, h2, (hk g h2 h3.lt).trans h3, r⟩
theorem RG.below {W W' : World} {B B' n : Nat} {E : Edges} {v : Value} (h : RG W B n E v) (hb : Below B' W W') (hB : W.heap.size ≤ B') : RG W' B n E v := h.keep fun g _ hg => hb.block g (by omega)
theorem RG.alloc {W : World} {B n : Nat} {E : Edges} {v : Value} (h : RG W B n E v) (o : Obj) : RG (W.alloc o) B n E v := h.keep fun g _ hg => Below.heap_alloc W o g hg
theorem RG.far {W : World} {B n : Nat} {E : Edges} {v : Value} (h : RG W B n E v) {p : Addr} (hp : p.block < B) (u : Value) : RG (W.setCell p u) B n E v := h.keep fun g hg _ => Below.heap_setCell W p u g (by omega)
theorem RG.drew {W : World} {B n : Nat} {E : Edges} {v : Value} (h : RG W B n E v) : RG W.drew B n E v := h.keep fun _ _ _ => rfl
theorem RG.base {W : World} {B B' n : Nat} {E : Edges} {v : Value} (h : RG W B n E v) (hB : B' ≤ B) : RG W B' n E v := by
  rcases h with h | ⟨g, cap, cur, h1, h2, r⟩
  · exact .inl h
  · exact .inr ⟨g, cap, cur, h1, by omega, r⟩
theorem RG.congr {W : World} {base n : Nat} {E F : Edges} {v : Value} (h : RG W base n E v) (hE : ∀ a b, a < n → b < n → E a b = F a b) : RG W base n F v := by
  rcases h with h | ⟨g, cap, cur, h1, h2, h3, h4, h5, h6, h7⟩
  · exact .inl h
  · exact .inr ⟨g, cap, cur, h1, h2, h3, h4, h5, h6, fun i hi => by rw [h7 i hi]; congr 3; exact setB_congr fun b hb => hE i b hi hb⟩

/-- A variable p that holds a graph: its rows are the call's own, from B on, and made ahead of p. -/
structure RGP (W : World) (B p n : Nat) (E : Edges) (A : Option Addr) (c : Nat) : Prop where
  box : Blk W p 174 #[.int .i64 n, .slice A n c]
  rg : RG W B n E (.slice A n c)
  lt : ∀ g, A = some g → g.block < p
  n64 : n ≤ 64
section
variable {W W' : World} {B p n : Nat} {E F : Edges} {A : Option Addr} {c : Nat}
theorem RGP.plt (h : RGP W B p n E A c) : p < W.heap.size := h.box.lt
theorem RGP.c0 (h : RGP W B p n E A c) : W.cell? ⟨p, 0, none⟩ = some (.int .i64 n) := by simpa using h.box.cell 0
theorem RGP.c1 (h : RGP W B p n E A c) : W.cell? ⟨p, 1, none⟩ = some (.slice A n c) := by simpa using h.box.cell 1
theorem RGP.below (h : RGP W B p n E A c) {B' : Nat} (hb : Below B' W W') (hB : W.heap.size ≤ B') : RGP W' B p n E A c :=
  ⟨h.box.below hb (Nat.lt_of_lt_of_le h.plt hB), h.rg.below hb hB, h.lt, h.n64⟩
theorem RGP.alloc (h : RGP W B p n E A c) (o : Obj) : RGP (W.alloc o) B p n E A c := ⟨h.box.alloc o, h.rg.alloc o, h.lt, h.n64⟩
theorem RGP.drew (h : RGP W B p n E A c) : RGP W.drew B p n E A c := ⟨h.box.drew, h.rg.drew, h.lt, h.n64⟩
theorem RGP.drewN (h : RGP W B p n E A c) (k : Nat) : RGP (W.drewN k) B p n E A c := ⟨h.box.drewN k, h.rg.keep fun _ _ _ => rfl, h.lt, h.n64⟩
theorem RGP.congr (h : RGP W B p n E A c) (hE : ∀ a b, a < n → b < n → E a b = F a b) : RGP W B p n F A c := ⟨h.box, h.rg.congr hE, h.lt, h.n64⟩
/-- Rows, of a graph with nodes. -/
structure RGX (W : World) (B p n x : Nat) (E : Edges) (g c : Nat) : Prop where
  box : RGP W B p n E (some ⟨g, 0, none⟩) c
  c0 : W.cell? ⟨p, 0, none⟩ = some (.int .i64 n)
  c1 : W.cell? ⟨p, 1, none⟩ = some (.slice (some ⟨g, 0, none⟩) n c)
  at_ : W.cell? ⟨g, x, none⟩ = some (.int .u64 (setB (E x) n : Nat))
  fr : W.frozen? ⟨g, x, none⟩ = false
  gp : g < p
  gl : g < W.heap.size
  B : B ≤ g
  h64 : setB (E x) n < 18446744073709551616
theorem RGP.at_ (h : RGP W B p n E A c) {x : Nat} (hx : x < n) : ∃ g, A = some ⟨g, 0, none⟩ ∧ RGX W B p n x E g c := by
  rcases h.rg with ⟨h1, _⟩ | ⟨g, cap, cur, h1, h2, h3, h4, h5, h6, h7⟩
  · omega
  · simp only [Value.slice.injEq, true_and] at h1
    obtain ⟨rfl, rfl⟩ := h1
    exact ⟨g, rfl, h, h.c0, h.c1, (h3.cell x).trans (h7 x hx), h3.frozen x, h.lt _ rfl, h3.lt, h2, setB_64 h.n64⟩
theorem RGX.add {x : Nat} {g : Nat} (h : RGX W B p n x E g c) {y : Nat} (hx : x < n) (hy : y < n) :
    RGP (W.setCell ⟨g, x, none⟩ (.int .u64 (withB (setB (E x) n) (y : Int) : Nat))) B p n (orE E (oneE x y)) (some ⟨g, 0, none⟩) c :=
  ⟨h.box.box.far (p := ⟨g, x, none⟩) (Nat.ne_of_gt h.gp) _, h.box.rg.add hx hy h.box.n64, h.box.lt, h.box.n64⟩
end
/-- The edges of rows ahead of x, and of row x ahead of y. -/
def uptoE (E : Edges) (x y : Nat) : Edges := fun a b => E a b && (decide (a < x) || (decide (a = x) && decide (b < y)))
theorem uptoE_zero (E : Edges) : uptoE E 0 0 = noE := by
  funext a b; simp [uptoE, noE]
theorem uptoE_step {E : Edges} {x y : Nat} (h : E x y = true) : uptoE E x (y + 1) = orE (uptoE E x y) (oneE x y) := by
  funext a b
  unfold uptoE orE oneE
  rw [Bool.eq_iff_iff]
  simp
  constructor
  · rintro ⟨h1, h2 | ⟨h2, h3⟩⟩
    · exact .inl ⟨h1, .inl h2⟩
    · rcases Nat.lt_or_ge b y with g | g
      · exact .inl ⟨h1, .inr ⟨h2, g⟩⟩
      · exact .inr ⟨h2, by omega⟩
  · rintro (⟨h1, h2 | ⟨h2, h3⟩⟩ | ⟨rfl, rfl⟩)
    · exact ⟨h1, .inl h2⟩
    · exact ⟨h1, .inr ⟨h2, by omega⟩⟩
    · exact ⟨h, .inr ⟨rfl, by omega⟩⟩
theorem uptoE_skip {E : Edges} {x y : Nat} (h : E x y = false) : uptoE E x (y + 1) = uptoE E x y := by
  funext a b
  unfold uptoE
  rw [Bool.eq_iff_iff]
  simp
  intro h1
  constructor
  · rintro (h2 | ⟨rfl, h3⟩)
    · exact .inl h2
    · rcases Nat.lt_or_ge b y with g | g
      · exact .inr ⟨rfl, g⟩
      · obtain rfl : b = y := by omega
        rw [h] at h1; cases h1
  · rintro (h2 | ⟨rfl, h3⟩)
    · exact .inl h2
    · exact .inr ⟨rfl, by omega⟩
theorem uptoE_row {E : Edges} {x n a b : Nat} (hb : b < n) : uptoE E x n a b = uptoE E (x + 1) 0 a b := by
  unfold uptoE
  rw [Bool.eq_iff_iff]
  simp
  intro _
  omega
theorem uptoE_all {E : Edges} {n a b : Nat} (ha : a < n) : uptoE E n 0 a b = E a b := by
  unfold uptoE; simp [ha]
end Go.Proofs.YtfhnamomiaekdaaGreat
