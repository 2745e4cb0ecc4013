/-
  Plain words of layer 13: the nodes that ways reach from one, gathered one by one; no program in sight.
-/
import Derived.ScopeJumps
import Derived.Test.YtjomijnbnbideaaGreatDoorS05
import Derived.Test.YtjomijnbnbideaaGreatDoorS04
import Derived.Test.YtjomijnbnbideaaGreatDoorS13
import Derived.Test.YtjomijnbnbideaaGreatDoorS31
import Derived.Test.YtjomijnbnbideaaGreatDoorS33
set_option linter.unusedVariables false
set_option linter.unusedSimpArgs false
namespace Go.Inq

theorem andNot_bit {x s : Nat} (hx : x < 18446744073709551616) (hs : s < 18446744073709551616) (i : Nat) : (x &&& (18446744073709551615 - s)).testBit i = (x.testBit i && !s.testBit i) := by
  have h2 : (18446744073709551615 - s).testBit i = (decide (i < 64) && !s.testBit i) := by
    have h := Nat.testBit_two_pow_sub_succ (x := s) (n := 64) hs i
    rw [← h]
    congr 1
    omega
  rw [Nat.testBit_and, h2]
  by_cases hi : i < 64
  · simp [hi]
  · rw [Nat.testBit_lt_two_pow (x := x) (i := i) (Nat.lt_of_lt_of_le hx (show 2 ^ 64 ≤ 2 ^ i from Nat.pow_le_pow_right (by decide) (by omega)))]
    simp
/-- What has been seen, and what is left to be. -/
structure SeenI (n : Nat) (E : Edges) (a s l : Nat) : Prop where
  s_lt : s < 2 ^ n
  l_lt : l < 2 ^ n
  dis : ∀ i, s.testBit i = true → l.testBit i = false
  ok : ∀ i, i < n → (s.testBit i || l.testBit i) = true → cloE n E a i = true
  first : ∀ y, y < n → E a y = true → (s.testBit y || l.testBit y) = true
  next : ∀ x y, y < n → s.testBit x = true → E x y = true → (s.testBit y || l.testBit y) = true
theorem seen_start (n : Nat) (E : Edges) (a : Nat) : SeenI n E a 0 (setB (E a) n) := by
  refine ⟨Nat.two_pow_pos n, setB_lt _ _, by simp, fun i hi h => ?_, fun y hy h => ?_, by simp⟩
  · rw [testBit_setB] at h
    simp [hi] at h
    exact cloE_edge h
  · rw [testBit_setB]; simp [hy, h]
theorem bit_lt {x n i : Nat} (hx : x < 2 ^ n) (h : x.testBit i = true) : i < n := by
  rcases Nat.lt_or_ge i n with g | g
  · exact g
  · rw [Nat.testBit_lt_two_pow (Nat.lt_of_lt_of_le hx (Nat.pow_le_pow_right (by decide) g))] at h
    exact absurd h (by decide)
theorem seen_node {n : Nat} {E : Edges} {a s l : Nat} (hn : n ≤ 64) (h : SeenI n E a s l) (h0 : l ≠ 0) : Lib.ctz 64 l < n :=
  bit_lt h.l_lt (drop_bit l h0 (Nat.lt_of_lt_of_le h.l_lt (pow_le_64 hn))).1
theorem seen_step {n : Nat} {E : Edges} {a s l : Nat} (hn : n ≤ 64) (h : SeenI n E a s l) (h0 : l ≠ 0) (hs64 : s < 18446744073709551616) (hl64 : l < 18446744073709551616) :
    SeenI n E a (withB s (Lib.ctz 64 l : Nat)) (joinL [l, setB (E (Lib.ctz 64 l)) n] &&& (18446744073709551615 - withB s (Lib.ctz 64 l : Nat)))
    ∧ 2 ^ n - withB s (Lib.ctz 64 l : Nat) < 2 ^ n - s := by
  have hkn := seen_node hn h h0
  obtain ⟨hk, -, -, -⟩ := drop_bit l h0 hl64
  generalize Lib.ctz 64 l = k at *
  have hk64 : k < 64 := by omega
  have hsb : ∀ i, (withB s (k : Int)).testBit i = (s.testBit i || decide (k = i)) := withB_bit s hk64
  have hwl : withB s (k : Int) < 2 ^ n := by
    refine Nat.lt_pow_two_of_testBit _ fun i hi => ?_
    rw [hsb, Nat.testBit_lt_two_pow (Nat.lt_of_lt_of_le h.s_lt (Nat.pow_le_pow_right (by decide) hi))]
    simp; omega
  have hw64 : withB s (k : Int) < 18446744073709551616 := Nat.lt_of_lt_of_le hwl (pow_le_64 hn)
  have hj64 : joinL [l, setB (E k) n] < 18446744073709551616 := joinL_lt (n := 64) fun x hx => by
    simp only [List.mem_cons, List.not_mem_nil, or_false] at hx
    rcases hx with rfl | rfl
    · exact hl64
    · exact Nat.lt_of_lt_of_le (setB_lt _ _) (pow_le_64 hn)
  have hlb : ∀ i, (joinL [l, setB (E k) n] &&& (18446744073709551615 - withB s (k : Int))).testBit i = ((l.testBit i || (decide (i < n) && E k i)) && !(s.testBit i || decide (k = i))) := by
    intro i
    rw [andNot_bit hj64 hw64, joinL_two, Nat.testBit_or, testBit_setB, hsb]
  have hsk : s.testBit k = false := by
    cases hc : s.testBit k
    · rfl
    · have := h.dis k hc; rw [hk] at this; exact absurd this (by decide)
  refine ⟨⟨hwl, ?_, fun i hi => ?_, fun i hi ho => ?_, fun y hy he => ?_, fun x y hy hx he => ?_⟩, ?_⟩
  · refine Nat.lt_pow_two_of_testBit _ fun i hi => ?_
    rw [hlb, Nat.testBit_lt_two_pow (Nat.lt_of_lt_of_le h.l_lt (Nat.pow_le_pow_right (by decide) hi)), decide_eq_false (show ¬ i < n by omega)]
    simp
  · rw [hlb]; rw [hsb] at hi; rw [hi]; simp
  · rw [hlb, hsb] at ho
    have hok := h.ok i hi
    have hkk := h.ok k hkn (by rw [hk]; simp)
    by_cases e : k = i
    · subst e; exact hkk
    · rw [decide_eq_false e, decide_eq_true hi, Bool.or_false, Bool.true_and] at ho
      cases c1 : s.testBit i
      · cases c2 : l.testBit i
        · cases c3 : E k i
          · simp [c1, c2, c3] at ho
          · exact cloE_trans hkn hkk (cloE_edge c3)
        · exact hok (by simp [c2])
      · exact hok (by simp [c1])
  · have hf := h.first y hy he
    rw [hlb, hsb]
    revert hf
    cases s.testBit y <;> cases l.testBit y <;> simp
  · rw [hlb, hsb]
    rw [hsb] at hx
    by_cases e : k = x
    · subst e
      rw [he, decide_eq_true hy]
      cases s.testBit y <;> cases l.testBit y <;> cases (decide (k = y)) <;> rfl
    · rw [decide_eq_false e, Bool.or_false] at hx
      have hf := h.next x y hy hx he
      revert hf
      cases s.testBit y <;> cases l.testBit y <;> simp
  · have h1 : s < withB s (k : Int) := by
      have e : withB s (k : Int) = s ||| 2 ^ k := by unfold withB; rw [bitN_in (by omega) (by omega)]; simp
      rw [e]
      refine Nat.lt_of_le_of_ne Nat.left_le_or fun g => ?_
      have := congrArg (fun z => z.testBit k) g
      simp [Nat.testBit_or, hsk, Nat.testBit_two_pow] at this
    omega
theorem seen_stop {n : Nat} {E : Edges} {a s : Nat} (h : SeenI n E a s 0) : s = setB (cloE n E a) n := by
  refine setB_eq h.s_lt fun i hi => ?_
  rw [Bool.eq_iff_iff]
  refine ⟨fun g => h.ok i hi (by rw [g]; rfl), fun g => ?_⟩
  obtain ⟨l, hl, hw⟩ := cloTo_way n a i g
  have key : ∀ (l : List Nat) (x : Nat), (∀ b ∈ l, b < n) → (∀ y, y < n → E x y = true → s.testBit y = true) → wayB E x l i = true → s.testBit i = true := by
    intro l
    induction l with
    | nil => intro x _ hx hw; exact hx i hi hw
    | cons b l ih =>
      intro x hl hx hw
      have hw' : (E x b && wayB E b l i) = true := hw
      rw [Bool.and_eq_true] at hw'
      have hb := hl b (by simp)
      have hsb := hx b hb hw'.1
      refine ih b (fun c hc => hl c (by simp [hc])) (fun y hy he => ?_) hw'.2
      have := h.next b y hy hsb he
      simpa using this
  refine key l a hl (fun y hy he => ?_) hw
  have := h.first y hy he
  simpa using this
end Go.Inq

namespace Go.Proofs.YtjomijnbnbideaaGreatDoor
open Go.RowKit Go.Inq
set_option maxHeartbeats 8000000
attribute [local go_sem ↓] Go.wp_at_zero Go.wp_at_succ

section
variable {P : Program} {a : Act} {w : World} {Q : Exit → Act → World → Prop}
/-- As wp_scope_jumps, the first pass told by the later ones. -/
theorem wp_scope_again {c rest : Code} (l : Nat) (J : Act → World → Prop) (μ : Act → World → Nat) (hf : findLabel c l = some (.seq .skip rest))
    (pass : ∀ a w, J a w → rest.wp P (Exit.jump l (fun a' w' => J a' w' ∧ μ a' w' < μ a w) Q) a w)
    (first : (∀ a w, J a w → rest.wp P (Exit.jump l J Q) a w) → c.wp P (Exit.jump l J Q) a w) : (Code.scope c).wp P Q a w :=
  wp_scope_jumps l J μ hf (first fun a w h => Code.wp_mono (fun e a' w' hq => by
    cases e with
    | goto l' => exact ⟨hq.1, hq.2.1⟩
    | normal => exact hq
    | exit id => exact hq
    | ret => exact hq
    | panic ch => exact hq
    | outgrown => exact hq) (pass a w h)) fun a w h => wp_seq (wp_skip (pass a w h))
end
theorem least10_any (s : Nat) (hs : s < 18446744073709551616) (w : World) (hT : TabB w) :
    Calls Tryz.prog 152 #[.int .u64 s] w fun e w' => e = .returned (.int .i64 (if s = 0 then -1 else (Lib.ctz 64 s : Nat))) ∧ w = w' := by
  by_cases h0 : s = 0
  · subst h0
    go_enter Tryz.func152, Tryz.ntmps152
    go_wp2
    go_ret
    exact ⟨rfl, rfl⟩
  · rw [if_neg h0]
    have h0b : ((s : Int) == 0) = false := by simp; omega
    replace h0 := hide h0
    go_enter Tryz.func152, Tryz.ntmps152
    go_wp2_with (go_at_call 179; refine (tz64_any s hs _ hT).mono ?_; rintro e w' ⟨rfl, rfl⟩)
    go_ret
    exact ⟨rfl, rfl⟩

set_option maxRecDepth 100000 in
theorem from13_any (n : Nat) (A : Option Addr) (c : Nat) (E : Edges) (a : Nat) (w : World) (h : GrS w (Old w) n A c E) (ha : a < n) (hTB : TabB w) :
    Calls Tryz.prog 86 #[.agg #[.int .i64 n, .slice A n c], .int .i64 (a : Int)] w fun e w' => e = .returned (.int .u64 (setB (cloE n E a) n : Nat)) ∧ Below w.heap.size w w' := by
  have hn64 := h.n64
  have ha1 : (0 : Int) ≤ (a : Int) := Int.natCast_nonneg _
  have ha2 : (a : Int) < (n : Int) := by omega
  obtain ⟨W0, hW0⟩ : ∃ W0, w.alloc (.cells #[.int .i64 n, .slice A n c] 56) = W0 := ⟨_, rfl⟩
  have hb0 : Below w.heap.size w W0 := by rw [← hW0]; exact hB_box
  have k0 : Blk W0 w.heap.size 56 #[.int .i64 n, .slice A n c] := by rw [← hW0]; exact Blk.new _ _ _
  have hgW : GrS W0 (Old w) n A c E := h.keep (Agree.below hb0 fun _ h => h) (fun _ h => h)
  have hright := hide (right12_any n A c E (Old w) W0 hgW (fun b hb => Nat.lt_of_lt_of_le hb hb0.size))
  go_enter Tryz.func86, Tryz.ntmps86
  go_wp2_with fail
  try rw [hW0]
  refine wp_scope_again 0 (fun a' w' => ∃ (s l : Nat) (u3 u7 u8 u9 u10 u11 u12 u13 u14 u15 u16 u17 u18 u19 u20 u21 u22 u23 u24 u25 u26 u27 u28 u29 u30 u31 u32 u33 u34 u35 u36 u37 u38 u39 u40 u41 u42 u43 : Value), a' = { tmps := #[.agg #[.int .i64 n, .slice A n c], .int .i64 (a : Int), .pointer (some { block := w.heap.size, off := 0 }), u3, .int .u64 0, .int .u64 (s : Nat), .int .u64 (l : Nat), u7, u8, u9, u10, u11, u12, u13, u14, u15, u16, u17, u18, u19, u20, u21, u22, u23, u24, u25, u26, u27, u28, u29, u30, u31, u32, u33, u34, u35, u36, u37, u38, u39, u40, u41, u42, u43], defers := [] } ∧ Hid (SeenI n E a s l) ∧ Below w.heap.size w w' ∧ Blk w' w.heap.size 56 #[.int .i64 n, .slice A n c]) (fun a' _ => 2 ^ n - (intOf (a'.tmps.getD 5 undef)).toNat) rfl ?_ (fun hagain => ?_)
  · rintro a' w' ⟨s, l, u3, u7, u8, u9, u10, u11, u12, u13, u14, u15, u16, u17, u18, u19, u20, u21, u22, u23, u24, u25, u26, u27, u28, u29, u30, u31, u32, u33, u34, u35, u36, u37, u38, u39, u40, u41, u42, u43, rfl, hsn, hbW, kW⟩
    clear hgW hright hb0 k0 hW0
    have hS := hsn.out
    have hs64 : s < 18446744073709551616 := Nat.lt_of_lt_of_le hS.s_lt (pow_le_64 hn64)
    have hl64 : l < 18446744073709551616 := Nat.lt_of_lt_of_le hS.l_lt (pow_le_64 hn64)
    have hTW := hTB.below hbW
    have hleast := least10_any l hl64 w' hTW
    by_cases hl0 : l = 0
    · subst hl0
      have hout := hide (seen_stop hS)
      rw [if_pos rfl] at hleast
      clear hS hsn
      go_wp2_with (go_at_call 152; refine hleast.mono ?_; rintro e w' ⟨rfl, rfl⟩)
      simp only [Exit.jump]
      go_ret
      exact ⟨by rw [hout.out]; rfl, hbW⟩
    · rw [if_neg hl0] at hleast
      have hkn := seen_node hn64 hS hl0
      obtain ⟨hSn, hms⟩ := seen_step hn64 hS hl0 hs64 hl64
      have hsw : withB s (Lib.ctz 64 l : Nat) < 18446744073709551616 := withB_lt hs64 _
      have hwith : ∀ wq, Calls Tryz.prog 117 #[.int .u64 s, .int .i64 (Lib.ctz 64 l : Nat)] wq fun e w'' => e = .returned (.int .u64 (withB s (Lib.ctz 64 l : Nat) : Nat)) ∧ wq = w'' := fun wq => with10_any s hs64 _ wq
      obtain ⟨b, off, hA, hbK, hce⟩ := (h.keep (Agree.below hbW fun _ h => h) (fun _ h => h)).at_ hkn
      subst hA
      generalize Lib.ctz 64 l = k at *
      generalize withB s (k : Nat) = s' at *
      have hx64 : setB (E k) n < 18446744073709551616 := setB_64 hn64
      have hxy : Hid (∀ y ∈ [l, setB (E k) n], y < 18446744073709551616) := hide (by intro y hy; simp at hy; rcases hy with rfl | rfl; exact hl64; exact hx64)
      generalize setB (E k) n = x at *
      have hj64 : joinL [l, x] < 18446744073709551616 := joinL_lt (n := 64) hxy.out
      have hjoin : ∀ wq, U64S wq (fun _ => True) (.slice (some ⟨w'.heap.size, 0, none⟩) 2 2) [l, x] → Calls Tryz.prog 149 #[.slice (some ⟨w'.heap.size, 0, none⟩) 2 2] wq fun e w'' => e = .returned (.int .u64 (joinL [l, x] : Nat)) ∧ wq = w'' := fun wq hw => join10_any _ 2 2 [l, x] (fun _ => True) wq rfl hw hxy.out (by omega)
      generalize joinL [l, x] = j at *
      have hand := u64_andNot_nat j s' hj64 hsw
      generalize j &&& (18446744073709551615 - s') = l' at *
      obtain ⟨Wz, hWz⟩ : ∃ Wz, w'.alloc (.cells #[.int .u64 l, .int .u64 x] 145) = Wz := ⟨_, rfl⟩
      have kN := hide (U64S.of_blk (l := [l, x]) (K := fun _ => True) (Blk.newEq hWz) trivial)
      have kz := kW.allocEq hWz
      have hbz := below_allocEq hbW hWz hbW.size
      have g0 := kW.cell 0
      have g1 := kW.cell 1
      have hk1 : (0 : Int) ≤ (k : Int) := Int.natCast_nonneg _
      have hk2 : (k : Int) < (n : Int) := by omega
      have hk3 : ((k : Int) < 0) = False := by simp
      simp only [List.getElem?_toArray, List.getElem?_cons_zero, List.getElem?_cons_succ] at g0 g1
      replace hSn := hide hSn
      replace hms := hide hms
      replace hwith := hide hwith
      replace hjoin := hide hjoin
      replace hleast := hide hleast
      clear hS hsn hl0 hk3
      go_upto_region 7 with (first | (go_at_call 152; refine hleast.out.mono ?_; rintro e w' ⟨rfl, rfl⟩))
      go_upto_region 8 with (go_at_call 117; refine (hwith.out _).mono ?_; rintro e w' ⟨rfl, rfl⟩)
      try clear hleast hwith hsw
      clear hxy
      go_wp2_with (go_at_call 149; refine (hjoin.out Wz kN.out).mono ?_; rintro e wj ⟨rfl, rfl⟩)
      go_step3
      refine ⟨rfl, ⟨s', l', _, _, _, _, _, _, _, _, _, _, _, _, _, _, _, _, _, _, _, _, _, _, _, _, _, _, _, _, _, _, _, _, _, _, _, _, _, _, rfl, hSn.out, hbz, kz⟩, ?_⟩
      have := hms.out
      simpa [intOf] using this
  · obtain ⟨b, off, hA, hbK, hce⟩ := hgW.at_ ha
    subst hA
    have g0 := k0.cell 0
    have g1 := k0.cell 1
    simp only [List.getElem?_toArray, List.getElem?_cons_zero, List.getElem?_cons_succ] at g0 g1
    have hsn := hide (seen_start n E a)
    generalize setB (E a) n = l at *
    go_upto_region 1 with fail
    clear hW0
    go_upto_region 4 with (go_at_call 84; refine hright.out.mono ?_; rintro e w1 ⟨rfl, hb1⟩; have k1 := k0.below hb1 k0.lt; have hcz := (hb1.cell (p := ⟨b, off + a, none⟩) (Nat.lt_of_lt_of_le hbK hb0.size)).trans hce; have g0 := k1.cell 0; have g1 := k1.cell 1; simp only [List.getElem?_toArray, List.getElem?_cons_zero, List.getElem?_cons_succ] at g0 g1)
    replace hagain := hide hagain
    replace hsn := hide hsn.out
    go_region
    go_wp2_with fail
    go_step3
    simp only [Exit.then]
    rename_i hKK
    refine hKK _ _ ?_
    refine hagain.out _ _ ⟨0, l, _, _, _, _, _, _, _, _, _, _, _, _, _, _, _, _, _, _, _, _, _, _, _, _, _, _, _, _, _, _, _, _, _, _, _, _, _, _, rfl, hsn.out, ?_, k1⟩
    exact (hb0.trans (hb1.mono hb0.size)).trans ⟨rfl, rfl, rfl, Nat.le_refl _, fun _ _ => rfl⟩
end Go.Proofs.YtjomijnbnbideaaGreatDoor

namespace Go.Proofs.YtjomijnbnbideaaGreatDoor
open Go.RowKit Go.Inq
set_option maxHeartbeats 8000000
attribute [local go_sem ↓] Go.wp_at_zero Go.wp_at_succ

theorem cyc_next {n k : Nat} {E : Edges} (h : (List.range k).any (fun x => cloE n E x x) = false) (hk : cloE n E k k = false) : (List.range (k + 1)).any (fun x => cloE n E x x) = false := by
  rw [List.range_succ, List.any_append, h]
  simp [hk]
theorem cyc_hit {n k : Nat} {E : Edges} (hk : k < n) (h : cloE n E k k = true) : cycB n E = true := by
  unfold cycB
  rw [List.any_eq_true]
  exact ⟨k, List.mem_range.2 hk, h⟩
set_option maxRecDepth 100000 in
theorem cyc13_any (n : Nat) (A : Option Addr) (c : Nat) (E : Edges) (w : World) (h : GrS w (Old w) n A c E) (hTB : TabB w) :
    Calls Tryz.prog 28 #[.agg #[.int .i64 n, .slice A n c]] w fun e w' => e = .returned (.bool (cycB n E)) ∧ Below w.heap.size w w' := by
  have hn64 := h.n64
  obtain ⟨W0, hW0⟩ : ∃ W0, w.alloc (.cells #[.int .i64 n, .slice A n c] 56) = W0 := ⟨_, rfl⟩
  have hb0 : Below w.heap.size w W0 := by rw [← hW0]; exact hB_box
  have k0 : Blk W0 w.heap.size 56 #[.int .i64 n, .slice A n c] := by rw [← hW0]; exact Blk.new _ _ _
  have hsz0 : W0.heap.size = w.heap.size + 1 := by rw [← hW0]; simp
  have hright : ∀ W, Below w.heap.size w W → Calls Tryz.prog 84 #[.agg #[.int .i64 n, .slice A n c]] W fun e w' => e = .returned (.bool true) ∧ Below W.heap.size W w' := fun W hb => right12_any n A c E (Old w) W (h.keep (Agree.below hb fun _ h => h) (fun _ h => h)) (fun b hB => Nat.lt_of_lt_of_le hB hb.size)
  have hfrom : ∀ W a, a < n → Below w.heap.size w W → Calls Tryz.prog 86 #[.agg #[.int .i64 n, .slice A n c], .int .i64 (a : Int)] W fun e w' => e = .returned (.int .u64 (setB (cloE n E a) n : Nat)) ∧ Below W.heap.size W w' := fun W a ha hb => from13_any n A c E a W (h.keep (Agree.below hb fun _ h => h) (fun b hB => Nat.lt_of_lt_of_le hB hb.size)) ha (hTB.below hb)
  replace hright := hide hright
  replace hfrom := hide hfrom
  clear h hTB
  obtain ⟨cy, hcyE⟩ : ∃ cy, cycB n E = cy := ⟨_, rfl⟩
  rw [hcyE]
  replace hcyE := hide hcyE
  go_enter Tryz.func28, Tryz.ntmps28
  go_upto_region 1 with fail
  try rw [hW0]
  clear hW0
  go_wp2_with fail
  go_loopw [3] (fun s3 wr => ∃ k : Nat, k ≤ n ∧ s3 = .int .i64 k ∧ Hid ((List.range k).any (fun x => cloE n E x x) = false) ∧ Below w.heap.size w wr ∧ Blk wr w.heap.size 56 #[.int .i64 n, .slice A n c] ∧ Hid (w.heap.size < wr.heap.size)) (fun s3 _ => n - (intOf s3).toNat)
  case atStart => exact ⟨0, Nat.zero_le _, by go_num, hide rfl, hb0, k0, hide (by omega)⟩
  case round =>
    clear hb0 k0 hsz0
    obtain ⟨k, hk, rfl, hcy, hbw, kw, hlt0⟩ := hrel
    have hk1 : (0 : Int) ≤ (k : Int) := Int.natCast_nonneg _
    have c0 := kw.cell 0
    have c1 := kw.cell 1
    simp only [List.getElem?_toArray, List.getElem?_cons_zero, List.getElem?_cons_succ] at c0 c1
    by_cases hlt : k < n
    · have hk2 : (k : Int) < (n : Int) := by omega
      have hs64 : setB (cloE n E k) n < 18446744073709551616 := setB_64 hn64
      have hhas : Go.Inq.hasB (setB (cloE n E k) n) (k : Int) = cloE n E k k := by rw [hasB_nat, testBit_setB]; simp [hlt]
      have hhs := hide (fun W' => has10_any (setB (cloE n E k) n) hs64 (k : Int) W')
      have hnext := hide (cyc_next (n := n) (E := E) (k := k) hcy.out)
      have hhit := hide (cyc_hit (E := E) hlt)
      rw [hhas] at hhs
      have hfr := hide (fun W => hfrom.out W k hlt)
      generalize setB (cloE n E k) n = s at *
      generalize hcc : cloE n E k k = cc at *
      replace hcc := hide hcc
      go_wp2_with (first | (go_at_call 84; refine (hright.out _ hbw).mono ?_; rintro e w1 ⟨rfl, hb1⟩; have hbx := hbw.trans (hb1.mono hbw.size); have kx := kw.below hb1 hlt0.out; have c0 := kx.cell 0; have c1 := kx.cell 1; simp only [List.getElem?_toArray, List.getElem?_cons_zero, List.getElem?_cons_succ] at c0 c1) | (go_at_call 86; refine (hfr.out _ hbx).mono ?_; rintro e w2 ⟨rfl, hb2⟩; have hby := hbx.trans (hb2.mono hbx.size); have ky := kx.below hb2 (Nat.lt_of_lt_of_le hlt0.out hb1.size)) | (go_at_call 85; refine (hhs.out _).mono ?_; rintro e w3 ⟨rfl, rfl⟩))
      · go_ret
        exact ⟨by rw [← hcyE.out, hhit.out (by assumption)]; rfl, hby⟩
      · exact ⟨⟨k + 1, by omega, by go_num, hide (hnext.out (by assumption)), hby, ky, hide (Nat.lt_of_lt_of_le hlt0.out (Nat.le_trans hb1.size hb2.size))⟩, by simp [intOf]; omega⟩
    · have hkn : k = n := by omega
      have hfin : Hid (cy = false) := hide (by rw [← hcyE.out]; unfold cycB; have h2 := hcy.out; rw [hkn] at h2; exact h2)
      have hge : ¬ (k : Int) < (n : Int) := by omega
      clear hkn
      go_wp2_with (go_at_call 84; refine (hright.out _ hbw).mono ?_; rintro e w1 ⟨rfl, hb1⟩; have hbx := hbw.trans (hb1.mono hbw.size); have kx := kw.below hb1 hlt0.out; have c0 := kx.cell 0; have c1 := kx.cell 1; simp only [List.getElem?_toArray, List.getElem?_cons_zero, List.getElem?_cons_succ] at c0 c1)
      go_ret
      exact ⟨by rw [hfin.out]; rfl, hbx⟩
end Go.Proofs.YtjomijnbnbideaaGreatDoor

namespace Go.Proofs.YtjomijnbnbideaaGreatDoor
open Go.RowKit Go.Inq
set_option maxHeartbeats 8000000
attribute [local go_sem ↓] Go.wp_at_zero Go.wp_at_succ

set_option maxRecDepth 100000 in
theorem screenSays_any (A : Option Addr) (c : Nat) (H : List Txn) (level : Int) (w : World) (h : TxnS w (Old w) (.slice A H.length c) H) (hn : H.length ≤ maxLen) (hns : ∀ t ∈ H, t.writes.length ≤ maxLen ∧ t.reads.length ≤ maxLen) (hTB : TabB w) :
    Calls Tryz.prog 7 #[.agg #[.slice A H.length c], .int .i64 level] w fun e w' => e = .returned (.bool true) ∧ Below w.heap.size w w' := by
  have hA : Below w.heap.size w (w.alloc (.cells #[.slice A H.length c] 24)) := (Below.refl _ _).alloc (Nat.le_refl _) _
  have hT0 := h.below hA
  have kh : Blk (w.alloc (.cells #[.slice A H.length c] 24)) w.heap.size 24 #[.slice A H.length c] := Blk.new _ _ _
  replace hn := hide hn
  replace hns := hide hns
  replace h := hide h
  go_enter Tryz.func7, Tryz.ntmps7
  go_wp2_with fail
  generalize w.alloc (.cells #[.slice A H.length c] 24) = W0 at *
  refine (awake28_any W0 (hTB.below hA)).mono ?_
  rintro e w1 ⟨rfl, hb1⟩
  have hb := hA.trans (hb1.mono hA.size)
  have hT1 := hT0.below hb1
  replace kh := kh.below hb1 kh.lt
  have c0 := kh.cell 0
  simp only [List.getElem?_toArray, List.getElem?_cons_zero] at c0
  clear hT0 hA hb1
  go_wp2_with fail
  refine (few8n_any 40 A c H w1 hT1 hn.out hns.out).mono ?_
  rintro e w2 ⟨rfl, hb2⟩
  replace hb := hb.trans (hb2.mono hb.size)
  have hT2 := hide (hT1.below hb2)
  replace kh := kh.below hb2 kh.lt
  clear hT1 hb2 c0 hn hns
  cases hf : fewN 40 H with
  | false =>
    go_wp2
    go_ret
    exact ⟨rfl, hb⟩
  | true =>
    have hsm := hide (fewN_small (Nat.le_refl _) hf)
    clear hf
    have c0 := kh.cell 0
    simp only [List.getElem?_toArray, List.getElem?_cons_zero] at c0
    go_wp2_with fail
    refine (step28_any A c H level w2 hT2.out hsm.out (hTB.below hb)).mono ?_
    rintro e w3 ho
    obtain ⟨Ao, no, co, At, nt, ct, Af, nf, cf, hno, hnt, hnf, rfl, v3, b3⟩ := ho.v
    clear ho c0
    obtain ⟨W4, hX, q, bX⟩ := ScrB.made v3
    clear v3
    replace q := hide q
    replace hX := hide hX
    dsimp only at hX ⊢
    replace hno := hide hno
    replace hnt := hide hnt
    replace hnf := hide hnf
    go_upto_region 8 with fail
    rw [hX.out]
    have b4 := b3.trans (bX.mono b3.size)
    have hT4 := hide (hT2.out.below b4)
    replace kh := kh.below b4 kh.lt
    replace hb := hb.trans (b4.mono hb.size)
    have hwl := hb.size
    have c0 := kh.cell 0
    simp only [List.getElem?_toArray, List.getElem?_cons_zero] at c0
    clear hX bX b4 b3 hT2
    generalize w3.heap.size = g7 at *
    cases hg : rightC H [] && (decide (level = 0) || decide (level = 1)) with
    | false =>
      have hs := scr_bad hg
      rw [hs] at hnf q
      obtain rfl := hnf.out
      obtain ⟨vo, vt, vf, k7, o7, t7, f7⟩ := q.out
      obtain ⟨A7, c7, rfl⟩ := own_slice f7
      replace hg := hide hg
      clear hs q o7 t7 f7 hno hnt hnf
      go_wp2_with fail
      refine Calls.mono (full18_bad A c H level none 0 [] W4 hT4.out hsm.out (SlR.nil _ _ _ _ _ _) (by simp) hg.out) ?_
      rintro e w5 ⟨rfl, b5⟩
      replace k7 := k7.below b5 k7.lt
      have hb5 := hb.trans (b5.mono hb.size)
      have x0 := k7.cell 0
      have x3 := k7.cell 3
      have k7l := k7.lt
      simp only [List.getElem?_toArray, List.getElem?_cons_zero, List.getElem?_cons_succ, List.length_nil] at x0 x3
      clear c0
      go_wp2
      go_ret
      exact ⟨rfl, hb5.alloc hb5.size _⟩
    | true =>
      have hs := scr_good hg
      have hg2 := hg
      rw [Bool.and_eq_true, Bool.or_eq_true, decide_eq_true_eq, decide_eq_true_eq] at hg2
      have hsa := hide (scr_said H level)
      have hzz : (((pairsL H).length : Int) == 0) = decide (pairsL H = []) := by
        cases pairsL H with
        | nil => rfl
        | cons a l => simp; omega
      obtain ⟨hs1, hs2⟩ := hs
      have hfull := hide (full18_any A c H level none 0 [] W4 hT4.out hsm.out (SlR.nil _ _ _ _ _ _) hg2.1 hg2.2 (hTB.below hb))
      have hprs := hide (fun W (hb' : Below W4.heap.size W4 W) => pairs9_any A c H W (hT4.out.below hb') hsm.out (rightC_hist hg2.1))
      have h64 : H.length ≤ 64 := by have := ((rightH_iff H).1 (rightC_hist hg2.1)).1; omega
      replace hs1 := hide hs1
      replace hs2 := hide hs2
      replace hzz := hide hzz
      clear hg hg2 hno hnt
      generalize fullE H level [] = E at *
      obtain ⟨qc, hqc⟩ : ∃ qc, cycB H.length E = qc := ⟨_, rfl⟩
      rw [hqc] at hs1 hs2
      replace hqc := hide hqc
      go_wp2_with fail
      refine Calls.mono hfull.out ?_
      rintro e w5 ⟨g, hgg, rfl, kg, b5⟩
      clear hfull c0
      obtain ⟨W6, hW6⟩ : ∃ W6, w5.alloc (.cells #[.int .i64 H.length, .slice (some ⟨g, 0, none⟩) H.length H.length] 56) = W6 := ⟨_, rfl⟩
      have k6 := Blk.newEq hW6
      have b6 := b5.trans ((below_allocEq (Below.refl w5.heap.size w5) hW6 (Nat.le_refl _)).mono b5.size)
      have kg6 := kg.allocEq hW6
      have hcy := cyc13_any H.length (some ⟨g, 0, none⟩) H.length E W6 (GrS.of_blk kg6 kg6.lt h64) (hTB.below (hb.trans (b6.mono hb.size)))
      rw [hqc.out] at hcy
      replace hcy := hide hcy
      have x0 := k6.cell 0
      have x1 := k6.cell 1
      simp only [List.getElem?_toArray, List.getElem?_cons_zero, List.getElem?_cons_succ] at x0 x1
      replace hW6 := hide hW6
      go_upto_region 9 with fail
      rw [hW6.out]
      go_wp2_with fail
      refine Calls.mono hcy.out ?_
      rintro e w7 ⟨rfl, b7⟩
      have b8 := b6.trans (b7.mono b6.size)
      replace kh := kh.below b8 kh.lt
      have c0 := kh.cell 0
      simp only [List.getElem?_toArray, List.getElem?_cons_zero] at c0
      have hpr := hide (hprs.out w7 b8)
      clear hcy hprs x0 x1 k6 kg6 kg hW6 b6 b7 b5
      dsimp only
      go_wp2_with fail
      refine Calls.mono hpr.out ?_
      rintro e w9 ⟨vp, rfl, op, b9⟩
      obtain ⟨Ap, cp, rfl⟩ := op.form
      dsimp only
      have b10 := b8.trans (b9.mono b8.size)
      have q9 := q.out.below b10
      obtain ⟨vo, vt, vf, k7, -⟩ := q9
      have hb9 := hb.trans (b10.mono hb.size)
      have x0 := k7.cell 0
      simp only [List.getElem?_toArray, List.getElem?_cons_zero, List.getElem?_cons_succ] at x0
      obtain ⟨z, hz⟩ : ∃ z, decide (pairsL H = []) = z := ⟨_, rfl⟩
      rw [hz] at hzz hs2
      have hs1 := hs1.out
      have hs2 := hs2.out
      have hsa := hsa.out
      have hzz := hzz.out
      generalize (scrH H level).said = sd at *
      clear hz hqc hpr c0 op k7 q hnf hT4 b8 b9 b10
      rcases hsa with rfl | rfl | rfl
      · obtain rfl : qc = false := by simpa using hs1.symm
        obtain rfl : z = true := by simpa using hs2.symm
        clear hs1 hs2
        go_wp2
        go_ret
        exact ⟨rfl, hb9⟩
      · obtain rfl : qc = true := by simpa using hs1.symm
        clear hs1 hs2
        go_wp2
        go_ret
        exact ⟨rfl, hb9⟩
      · obtain rfl : qc = false := by simpa using hs1.symm
        obtain rfl : z = false := by simpa using hs2.symm
        clear hs1 hs2
        go_wp2
        go_ret
        exact ⟨rfl, hb9⟩
end Go.Proofs.YtjomijnbnbideaaGreatDoor

namespace Go.Proofs.YtjomijnbnbideaaGreatDoor
open Go.ChangeShapes Go.WideShapes Go.ChangeAt Go.RowKit Go.Inq

set_option maxRecDepth 100000 in
theorem screenSays_lifted (os : Os) (started : os.Started) (H : Type) (enc : TypeId × Value → H) :
    ReturnsInHanded {} Tryz.checked os 7 .any (fun w args => (Rows.screenSaysSpec.pre enc Tryz.prog Tryz.f7 Rows.screenSaysRow.domain false w args ∧ laidMetH Tryz.prog Rows.screenSaysRow.laid w) ∧ sizedMet enc Tryz.prog Tryz.f7 (OpenSpec.ofChange Rows.screenSaysSpec) false w args)
      (Rows.screenSaysSpec.post enc Tryz.prog Tryz.f7 false true false false) := by
  refine returnsInHanded_shaped_and (C := Tryz.checked) (X := fun w _ => laidMetH Tryz.prog Rows.screenSaysRow.laid w) (fun _ _ _ hh h => h.of_heap hh) own started (by kernel_rfl) Tryz.func7
    (ChangeSpec.witness_shaped (enc := enc) (C := Tryz.checked) (os := os) (X := fun w _ => laidMetH Tryz.prog Rows.screenSaysRow.laid w) false (World.laidAll Tryz.prog os Rows.screenSaysRow.laid) #[.agg #[.slice none 0 0], .int .i64 0] 8 (World.laidAll_os _ _ _)
      (World.shaped_of_ZipB (by kernel_rfl) (by kernel_rfl)) (by kernel_rfl) (by kernel_rfl) (by kernel_rfl)
      (by rw [MakeChecks.laidMetH_plain _ _ _ (by kernel_rfl)]; exact laidMet_laidAll _ (by kernel_rfl) (by kernel_rfl))) ?_
  intro W base args ds gs before hval0 hW hL hsh
  have hval : ∀ (j : Nat) t v, Tryz.f7.params[j]? = some t → args[j]? = some v → Value.okWide Tryz.prog W .any base t v := hval0
  have hW' := hW
  obtain ⟨p, q, hA0, hV, rfl, hfz, hnd⟩ := hW
  have hlt : ∀ x ∈ p ++ q, x.block < W.heap.size := fun x hx => hW'.lt x hx
  have hA : DataW.TrodAll enc Tryz.prog W 0 (fun _ => true) true Tryz.f7.params.toList args.toList ds p := hA0
  rw [Tryz.params7] at hA hval
  obtain ⟨v0, v1, d0, d1, p0, p1, rfl, rfl, rfl, h0, h1⟩ := trodAll_two hA
  obtain ⟨rfl, rfl⟩ := trodVars_none hV
  obtain ⟨n0, t0⟩ := h0
  obtain ⟨cs0, rfl, hz0⟩ := okWide_struct Tryz.underlying24 (hval 0 24 v0 rfl rfl)
  obtain ⟨a0, cap0, l0, he0, hl0, hn0, hm0⟩ := open_hist (by kernel_rfl) t0
  obtain rfl : cs0 = #[.slice a0 l0.length cap0] := Array.toList_inj.1 he0
  obtain ⟨x1, rfl⟩ := okWide_int Tryz.underlying3 (hval 1 3 v1 rfl rfl)
  refine (screenSays_any a0 cap0 l0 x1 W hl0 hn0 hm0 (TabB.of hL (MakeChecks.laidMetH_plain _ _ _ (by kernel_rfl)) (.head _))).mono fun e W2 he => ?_
  obtain ⟨he, hb⟩ := he
  subst he
  exact ⟨_, rfl, [d0, d1], [], (p0 ++ p1) ++ [], [], (p0 ++ p1), [], hW', trodAll_mk1 (shut_bool Tryz.underlying4 true), Below.trodAll hb (by kernel_rfl) hA (fun x hx => hlt x (List.mem_append.2 (.inl hx))), rfl, hb.frame _, fun h => by cases h⟩

theorem screenSays_holds : Rows.ScreenSaysSaid :=
  OpenClaim.holds_of_wide 7 Tryz.f7 rfl rfl rfl rfl rfl rfl rfl ⟨rfl, rfl, rfl, rfl, rfl⟩ rfl rfl rfl rfl rfl (by kernel_rfl) Tryz.func7 (by kernel_rfl)
    (of_decide_eq_true (by kernel_rfl)) (by unfold Func.isWrapper; first | (rw [if_pos (by decide +kernel)]; kernel_rfl) | (rw [if_neg (by decide +kernel)]; exact ⟨rfl, rfl⟩))
    (fun os started H enc _ => screenSays_lifted os started H enc)
theorem screenSays_card_holds : Rows.ScreenSaysCardSaid :=
  Claim7.holds_tied_plain_at .later [] [.data] true (true, "b0efe9e99674400e280ea1a23a13eec5d1b686fa42771ae2dadb0efcfea19ec7") false screenSays_holds (fun _ h => by cases h) (by kernel_rfl) (fun _ h => by cases h) screenSays_row_tie rfl ⟨rfl, rfl⟩ (by kernel_rfl) rfl
    (fun f fn hf hfn => by
      obtain rfl : f = 7 := Option.some.inj ((show Tryz.prog.funcNamed Rows.screenSaysRow.func = some 7 by kernel_rfl).symm.trans hf) |>.symm
      obtain rfl : fn = Tryz.f7 := (Option.some.inj (Tryz.func7.symm.trans hfn)).symm
      exact ⟨by kernel_rfl, fun j t ht => by
        rw [Tryz.params7] at ht
        have hm : t ∈ [24, 3] := by simpa using Array.mem_of_getElem? ht
        have hall : ([24, 3].all fun u => !Tryz.prog.wantsStandIn u) = true := by kernel_rfl
        exact (show Tryz.prog.wantsStandIn t = false by simpa using List.all_eq_true.1 hall t hm)⟩)
    (by kernel_rfl)
#print axioms screenSays_card_holds
end Go.Proofs.YtjomijnbnbideaaGreatDoor
