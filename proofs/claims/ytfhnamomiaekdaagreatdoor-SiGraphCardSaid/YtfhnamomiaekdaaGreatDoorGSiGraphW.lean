/-
  Plain words of layers 19, 22: facts, and what they follow from; no program in sight.
-/
import Derived.ScopeJumps
import Derived.Test.YtfhnamomiaekdaaGreatDoorG08
import Derived.Test.YtfhnamomiaekdaaGreatDoorGSiGraphWO
import Derived.Test.YtfhnamomiaekdaaGreatDoorG01
import Derived.Test.YtfhnamomiaekdaaGreatDoorGSiGraphWI
import Derived.Test.YtfhnamomiaekdaaGreatDoorGSiGraphWJ
import Derived.Test.YtfhnamomiaekdaaGreatDoorGSiGraphWC
import Derived.Test.YtfhnamomiaekdaaGreatDoorG09
set_option linter.unusedVariables false
set_option linter.unusedSimpArgs false
namespace Go.Inq

/-- A fact: a choice that must be so, and why. -/
structure Fct where
  c : Cho
  kind : Int
  i : Int
  j : Int
  cyc : List Int
deriving DecidableEq
def joinB (L : List Fct) (f : Fct) : Bool :=
  decide (0 ≤ f.i) && decide (f.i < (L.length : Int)) && decide (0 ≤ f.j) && decide (f.j < (L.length : Int)) &&
    match L[f.i.toNat]?, L[f.j.toNat]? with
    | some x, some y => decide (x.c.b = y.c.a) && decide (x.c.key = y.c.key) && decide (f.c = ⟨x.c.key, x.c.a, y.c.b⟩)
    | _, _ => false
def seenF (H : List Txn) (f : Fct) : Bool :=
  decide (f.j = 0) && decide (f.i ≠ f.c.a) && decide (0 ≤ f.i) && decide (f.i < (H.length : Int)) &&
    ((txnAt H f.i.toNat).reads.any fun x => decide (x.a = f.c.key) && decide (x.b = f.c.b)) && directB H [] f.c.a f.i
def axB (H : List Txn) (f : Fct) : Bool := decide (f.i = 0) && decide (f.j = 0) && directB H [] f.c.a f.c.b
def forcB (H : List Txn) (level : Int) (L : List Fct) (f : Fct) : Bool := decide (f.i = 0) && decide (f.j = 0) && ringB H level (L.map (·.c) ++ [turnB f.c]) f.cyc
/-- Why a fact holds. -/
def whyB (H : List Txn) (level : Int) (L : List Fct) (f : Fct) : Bool :=
  if f.kind = 1 then axB H f else if f.kind = 2 then joinB L f else if f.kind = 3 then seenF H f else if f.kind = 4 then forcB H level L f else false
def mayB (H : List Txn) (level : Int) : Bool := rightH H && (decide (level = 0) || decide (level = 1))
/-- Does a fact follow from others? -/
def holdsB (H : List Txn) (level : Int) (L : List Fct) (f : Fct) : Bool :=
  mayB H level && oneB H f.c && (decide (f.kind = 4) || decide (f.cyc = [])) && whyB H level L f
end Go.Inq

namespace Go.Proofs.YtfhnamomiaekdaaGreatDoor
open Go.RowKit Go.Inq
set_option maxHeartbeats 8000000
attribute [local go_sem ↓] Go.wp_at_zero Go.wp_at_succ

theorem full18_bad (A : Option Addr) (c : Nat) (H : List Txn) (level : Int) (Al : Option Addr) (cl : Nat) (l : List Cho) (w : World) (h : TxnS w (Old w) (.slice A H.length c) H) (hn : SmallH H) (hl : ChoS w (Old w) (.slice Al l.length cl) l) (hln : l.length ≤ 1000000000) (hb : (rightC H l && (decide (level = 0) || decide (level = 1))) = false) :
    Calls Tryz.prog 37 #[.agg #[.slice A H.length c], .int .i64 level, .slice Al l.length cl] w fun e w' => e = .returned (.tuple #[.agg #[.int .i64 0, .slice none 0 0], .int .i64 1]) ∧ Below w.heap.size w w' := by
  obtain ⟨W0, hW0⟩ : ∃ W0, (w.alloc (.cells #[.slice A H.length c] 24)).alloc (.cells #[.int .i64 0, .slice none 0 0] 77) = W0 := ⟨_, rfl⟩
  have hB := below_two hW0
  have k0 := Blk.two1 hW0
  have k1 := Blk.two2 hW0
  have hrc := hide (right18_any A c H Al cl l W0 (h.below hB) hn (hl.below hB) hln)
  have c0 := k0.cell 0
  simp only [List.getElem?_toArray, List.getElem?_cons_zero, List.getElem?_cons_succ] at c0
  generalize rightC H l = q at *
  clear h hl
  have hways : q = false ∨ (q = true ∧ (level != 0) = true ∧ (level != 1) = true) := by
    cases q with
    | false => exact .inl rfl
    | true =>
      right
      rw [Bool.true_and, Bool.or_eq_false_iff] at hb
      exact ⟨rfl, by simpa using hb.1, by simpa using hb.2⟩
  clear hb
  go_enter Tryz.func37, Tryz.ntmps37
  go_wp2_with fail
  clear hW0 c0
  refine hrc.out.mono ?_
  rintro e w1 ⟨rfl, hb1⟩
  replace k1 := k1.below hb1 k1.lt
  have hb2 := hB.trans (hb1.mono hB.size)
  have d0 := k1.cell 0
  have d1 := k1.cell 1
  have f0 := k1.frozen 0
  have f1 := k1.frozen 1
  simp only [List.getElem?_toArray, List.getElem?_cons_zero, List.getElem?_cons_succ] at d0 d1
  have hz := hide (((hb2.setCell (p := ⟨w.heap.size + 1, 0, none⟩) (Nat.le_succ _) (.int .i64 0)).setCell (p := ⟨w.heap.size + 1, 1, none⟩) (Nat.le_succ _) (.slice none 0 0)))
  have hq := (k1.set_ 0 (.int .i64 0)).set_ 1 (.slice none 0 0)
  simp only [List.setIfInBounds_toArray, List.set_cons_zero, List.set_cons_succ] at hq
  have y0 := hq.cell 0
  have y1 := hq.cell 1
  simp only [List.getElem?_toArray, List.getElem?_cons_zero, List.getElem?_cons_succ] at y0 y1
  rcases hways with rfl | ⟨rfl, g1, g2⟩
  all_goals
    go_wp2_with fail
    exact bodyPost_ret (v := .tuple #[.agg #[.int .i64 0, .slice none 0 0], .int .i64 1]) (by simp [results, Tryz.results37, go_sem, y0, y1]) rfl ⟨rfl, hz.out⟩
end Go.Proofs.YtfhnamomiaekdaaGreatDoor

namespace Go.Inq

theorem andNot_bit {x s : Nat} (hx : x < 18446744073709551616) (hs : s < 18446744073709551616) (i : Nat) : (x &&& (18446744073709551615 - s)).testBit i = (x.testBit i && !s.testBit i) := by
  have h2 : (18446744073709551615 - s).testBit i = (decide (i < 64) && !s.testBit i) := by
    have h := Nat.testBit_two_pow_sub_succ (x := s) (n := 64) hs i
    rw [← h]
    congr 1
    omega
  rw [Nat.testBit_and, h2]
  by_cases hi : i < 64
  · simp [hi]
  · rw [Nat.testBit_lt_two_pow (x := x) (i := i) (Nat.lt_of_lt_of_le hx (show 2 ^ 64 ≤ 2 ^ i from Nat.pow_le_pow_right (by decide) (by omega)))]
    simp
/-- What has been seen, and what is left to be. -/
structure SeenI (n : Nat) (E : Edges) (a s l : Nat) : Prop where
  s_lt : s < 2 ^ n
  l_lt : l < 2 ^ n
  dis : ∀ i, s.testBit i = true → l.testBit i = false
  ok : ∀ i, i < n → (s.testBit i || l.testBit i) = true → cloE n E a i = true
  first : ∀ y, y < n → E a y = true → (s.testBit y || l.testBit y) = true
  next : ∀ x y, y < n → s.testBit x = true → E x y = true → (s.testBit y || l.testBit y) = true
theorem seen_start (n : Nat) (E : Edges) (a : Nat) : SeenI n E a 0 (setB (E a) n) := by
  refine ⟨Nat.two_pow_pos n, setB_lt _ _, by simp, fun i hi h => ?_, fun y hy h => ?_, by simp⟩
  · rw [testBit_setB] at h
    simp [hi] at h
    exact cloE_edge h
  · rw [testBit_setB]; simp [hy, h]
theorem bit_lt {x n i : Nat} (hx : x < 2 ^ n) (h : x.testBit i = true) : i < n := by
  rcases Nat.lt_or_ge i n with g | g
  · exact g
  · rw [Nat.testBit_lt_two_pow (Nat.lt_of_lt_of_le hx (Nat.pow_le_pow_right (by decide) g))] at h
    exact absurd h (by decide)
theorem seen_node {n : Nat} {E : Edges} {a s l : Nat} (hn : n ≤ 64) (h : SeenI n E a s l) (h0 : l ≠ 0) : Lib.ctz 64 l < n :=
  bit_lt h.l_lt (drop_bit l h0 (Nat.lt_of_lt_of_le h.l_lt (pow_le_64 hn))).1
theorem seen_step {n : Nat} {E : Edges} {a s l : Nat} (hn : n ≤ 64) (h : SeenI n E a s l) (h0 : l ≠ 0) (hs64 : s < 18446744073709551616) (hl64 : l < 18446744073709551616) :
    SeenI n E a (withB s (Lib.ctz 64 l : Nat)) (joinL [l, setB (E (Lib.ctz 64 l)) n] &&& (18446744073709551615 - withB s (Lib.ctz 64 l : Nat)))
    ∧ 2 ^ n - withB s (Lib.ctz 64 l : Nat) < 2 ^ n - s := by
  have hkn := seen_node hn h h0
  obtain ⟨hk, -, -, -⟩ := drop_bit l h0 hl64
  generalize Lib.ctz 64 l = k at *
  have hk64 : k < 64 := by omega
  have hsb : ∀ i, (withB s (k : Int)).testBit i = (s.testBit i || decide (k = i)) := withB_bit s hk64
  have hwl : withB s (k : Int) < 2 ^ n := by
    refine Nat.lt_pow_two_of_testBit _ fun i hi => ?_
    rw [hsb, Nat.testBit_lt_two_pow (Nat.lt_of_lt_of_le h.s_lt (Nat.pow_le_pow_right (by decide) hi))]
    simp; omega
  have hw64 : withB s (k : Int) < 18446744073709551616 := Nat.lt_of_lt_of_le hwl (pow_le_64 hn)
  have hj64 : joinL [l, setB (E k) n] < 18446744073709551616 := joinL_lt (n := 64) fun x hx => by
    simp only [List.mem_cons, List.not_mem_nil, or_false] at hx
    rcases hx with rfl | rfl
    · exact hl64
    · exact Nat.lt_of_lt_of_le (setB_lt _ _) (pow_le_64 hn)
  have hlb : ∀ i, (joinL [l, setB (E k) n] &&& (18446744073709551615 - withB s (k : Int))).testBit i = ((l.testBit i || (decide (i < n) && E k i)) && !(s.testBit i || decide (k = i))) := by
    intro i
    rw [andNot_bit hj64 hw64, joinL_two, Nat.testBit_or, testBit_setB, hsb]
  have hsk : s.testBit k = false := by
    cases hc : s.testBit k
    · rfl
    · have := h.dis k hc; rw [hk] at this; exact absurd this (by decide)
  refine ⟨⟨hwl, ?_, fun i hi => ?_, fun i hi ho => ?_, fun y hy he => ?_, fun x y hy hx he => ?_⟩, ?_⟩
  · refine Nat.lt_pow_two_of_testBit _ fun i hi => ?_
    rw [hlb, Nat.testBit_lt_two_pow (Nat.lt_of_lt_of_le h.l_lt (Nat.pow_le_pow_right (by decide) hi)), decide_eq_false (show ¬ i < n by omega)]
    simp
  · rw [hlb]; rw [hsb] at hi; rw [hi]; simp
  · rw [hlb, hsb] at ho
    have hok := h.ok i hi
    have hkk := h.ok k hkn (by rw [hk]; simp)
    by_cases e : k = i
    · subst e; exact hkk
    · rw [decide_eq_false e, decide_eq_true hi, Bool.or_false, Bool.true_and] at ho
      cases c1 : s.testBit i
      · cases c2 : l.testBit i
        · cases c3 : E k i
          · simp [c1, c2, c3] at ho
          · exact cloE_trans hkn hkk (cloE_edge c3)
        · exact hok (by simp [c2])
      · exact hok (by simp [c1])
  · have hf := h.first y hy he
    rw [hlb, hsb]
    revert hf
    cases s.testBit y <;> cases l.testBit y <;> simp
  · rw [hlb, hsb]
    rw [hsb] at hx
    by_cases e : k = x
    · subst e
      rw [he, decide_eq_true hy]
      cases s.testBit y <;> cases l.testBit y <;> cases (decide (k = y)) <;> rfl
    · rw [decide_eq_false e, Bool.or_false] at hx
      have hf := h.next x y hy hx he
      revert hf
      cases s.testBit y <;> cases l.testBit y <;> simp
  · have h1 : s < withB s (k : Int) := by
      have e : withB s (k : Int) = s ||| 2 ^ k := by unfold withB; rw [bitN_in (by omega) (by omega)]; simp
      rw [e]
      refine Nat.lt_of_le_of_ne Nat.left_le_or fun g => ?_
      have := congrArg (fun z => z.testBit k) g
      simp [Nat.testBit_or, hsk, Nat.testBit_two_pow] at this
    omega
theorem seen_stop {n : Nat} {E : Edges} {a s : Nat} (h : SeenI n E a s 0) : s = setB (cloE n E a) n := by
  refine setB_eq h.s_lt fun i hi => ?_
  rw [Bool.eq_iff_iff]
  refine ⟨fun g => h.ok i hi (by rw [g]; rfl), fun g => ?_⟩
  obtain ⟨l, hl, hw⟩ := cloTo_way n a i g
  have key : ∀ (l : List Nat) (x : Nat), (∀ b ∈ l, b < n) → (∀ y, y < n → E x y = true → s.testBit y = true) → wayB E x l i = true → s.testBit i = true := by
    intro l
    induction l with
    | nil => intro x _ hx hw; exact hx i hi hw
    | cons b l ih =>
      intro x hl hx hw
      have hw' : (E x b && wayB E b l i) = true := hw
      rw [Bool.and_eq_true] at hw'
      have hb := hl b (by simp)
      have hsb := hx b hb hw'.1
      refine ih b (fun c hc => hl c (by simp [hc])) (fun y hy he => ?_) hw'.2
      have := h.next b y hy hsb he
      simpa using this
  refine key l a hl (fun y hy he => ?_) hw
  have := h.first y hy he
  simpa using this
end Go.Inq

namespace Go.Proofs.YtfhnamomiaekdaaGreatDoor
open Go.RowKit Go.Inq
set_option maxHeartbeats 8000000
attribute [local go_sem ↓] Go.wp_at_zero Go.wp_at_succ

section
variable {P : Program} {a : Act} {w : World} {Q : Exit → Act → World → Prop}
/-- As wp_scope_jumps, the first pass told by the later ones. -/
theorem wp_scope_again {c rest : Code} (l : Nat) (J : Act → World → Prop) (μ : Act → World → Nat) (hf : findLabel c l = some (.seq .skip rest))
    (pass : ∀ a w, J a w → rest.wp P (Exit.jump l (fun a' w' => J a' w' ∧ μ a' w' < μ a w) Q) a w)
    (first : (∀ a w, J a w → rest.wp P (Exit.jump l J Q) a w) → c.wp P (Exit.jump l J Q) a w) : (Code.scope c).wp P Q a w :=
  wp_scope_jumps l J μ hf (first fun a w h => Code.wp_mono (fun e a' w' hq => by
    cases e with
    | goto l' => exact ⟨hq.1, hq.2.1⟩
    | normal => exact hq
    | exit id => exact hq
    | ret => exact hq
    | panic ch => exact hq
    | outgrown => exact hq) (pass a w h)) fun a w h => wp_seq (wp_skip (pass a w h))
end
theorem least10_any (s : Nat) (hs : s < 18446744073709551616) (w : World) (hT : TabB w) :
    Calls Tryz.prog 174 #[.int .u64 s] w fun e w' => e = .returned (.int .i64 (if s = 0 then -1 else (Lib.ctz 64 s : Nat))) ∧ w = w' := by
  by_cases h0 : s = 0
  · subst h0
    go_enter Tryz.func174, Tryz.ntmps174
    go_wp2
    go_ret
    exact ⟨rfl, rfl⟩
  · rw [if_neg h0]
    have h0b : ((s : Int) == 0) = false := by simp; omega
    replace h0 := hide h0
    go_enter Tryz.func174, Tryz.ntmps174
    go_wp2_with (go_at_call 192; refine (tz64_any s hs _ hT).mono ?_; rintro e w' ⟨rfl, rfl⟩)
    go_ret
    exact ⟨rfl, rfl⟩

set_option maxRecDepth 100000 in
theorem from13_any (n : Nat) (A : Option Addr) (c : Nat) (E : Edges) (a : Nat) (w : World) (h : GrS w (Old w) n A c E) (ha : a < n) (hTB : TabB w) :
    Calls Tryz.prog 103 #[.agg #[.int .i64 n, .slice A n c], .int .i64 (a : Int)] w fun e w' => e = .returned (.int .u64 (setB (cloE n E a) n : Nat)) ∧ Below w.heap.size w w' := by
  have hn64 := h.n64
  have ha1 : (0 : Int) ≤ (a : Int) := Int.natCast_nonneg _
  have ha2 : (a : Int) < (n : Int) := by omega
  obtain ⟨W0, hW0⟩ : ∃ W0, w.alloc (.cells #[.int .i64 n, .slice A n c] 77) = W0 := ⟨_, rfl⟩
  have hb0 : Below w.heap.size w W0 := by rw [← hW0]; exact hB_box
  have k0 : Blk W0 w.heap.size 77 #[.int .i64 n, .slice A n c] := by rw [← hW0]; exact Blk.new _ _ _
  have hgW : GrS W0 (Old w) n A c E := h.keep (Agree.below hb0 fun _ h => h) (fun _ h => h)
  have hright := hide (right12_any n A c E (Old w) W0 hgW (fun b hb => Nat.lt_of_lt_of_le hb hb0.size))
  go_enter Tryz.func103, Tryz.ntmps103
  go_wp2_with fail
  try rw [hW0]
  refine wp_scope_again 0 (fun a' w' => ∃ (s l : Nat) (u3 u7 u8 u9 u10 u11 u12 u13 u14 u15 u16 u17 u18 u19 u20 u21 u22 u23 u24 u25 u26 u27 u28 u29 u30 u31 u32 u33 u34 u35 u36 u37 u38 u39 u40 u41 u42 u43 : Value), a' = { tmps := #[.agg #[.int .i64 n, .slice A n c], .int .i64 (a : Int), .pointer (some { block := w.heap.size, off := 0 }), u3, .int .u64 0, .int .u64 (s : Nat), .int .u64 (l : Nat), u7, u8, u9, u10, u11, u12, u13, u14, u15, u16, u17, u18, u19, u20, u21, u22, u23, u24, u25, u26, u27, u28, u29, u30, u31, u32, u33, u34, u35, u36, u37, u38, u39, u40, u41, u42, u43], defers := [] } ∧ Hid (SeenI n E a s l) ∧ Below w.heap.size w w' ∧ Blk w' w.heap.size 77 #[.int .i64 n, .slice A n c]) (fun a' _ => 2 ^ n - (intOf (a'.tmps.getD 5 undef)).toNat) rfl ?_ (fun hagain => ?_)
  · rintro a' w' ⟨s, l, u3, u7, u8, u9, u10, u11, u12, u13, u14, u15, u16, u17, u18, u19, u20, u21, u22, u23, u24, u25, u26, u27, u28, u29, u30, u31, u32, u33, u34, u35, u36, u37, u38, u39, u40, u41, u42, u43, rfl, hsn, hbW, kW⟩
    clear hgW hright hb0 k0 hW0
    have hS := hsn.out
    have hs64 : s < 18446744073709551616 := Nat.lt_of_lt_of_le hS.s_lt (pow_le_64 hn64)
    have hl64 : l < 18446744073709551616 := Nat.lt_of_lt_of_le hS.l_lt (pow_le_64 hn64)
    have hTW := hTB.below hbW
    have hleast := least10_any l hl64 w' hTW
    by_cases hl0 : l = 0
    · subst hl0
      have hout := hide (seen_stop hS)
      rw [if_pos rfl] at hleast
      clear hS hsn
      go_wp2_with (go_at_call 174; refine hleast.mono ?_; rintro e w' ⟨rfl, rfl⟩)
      simp only [Exit.jump]
      go_ret
      exact ⟨by rw [hout.out]; rfl, hbW⟩
    · rw [if_neg hl0] at hleast
      have hkn := seen_node hn64 hS hl0
      obtain ⟨hSn, hms⟩ := seen_step hn64 hS hl0 hs64 hl64
      have hsw : withB s (Lib.ctz 64 l : Nat) < 18446744073709551616 := withB_lt hs64 _
      have hwith : ∀ wq, Calls Tryz.prog 134 #[.int .u64 s, .int .i64 (Lib.ctz 64 l : Nat)] wq fun e w'' => e = .returned (.int .u64 (withB s (Lib.ctz 64 l : Nat) : Nat)) ∧ wq = w'' := fun wq => with10_any s hs64 _ wq
      obtain ⟨b, off, hA, hbK, hce⟩ := (h.keep (Agree.below hbW fun _ h => h) (fun _ h => h)).at_ hkn
      subst hA
      generalize Lib.ctz 64 l = k at *
      generalize withB s (k : Nat) = s' at *
      have hx64 : setB (E k) n < 18446744073709551616 := setB_64 hn64
      have hxy : Hid (∀ y ∈ [l, setB (E k) n], y < 18446744073709551616) := hide (by intro y hy; simp at hy; rcases hy with rfl | rfl; exact hl64; exact hx64)
      generalize setB (E k) n = x at *
      have hj64 : joinL [l, x] < 18446744073709551616 := joinL_lt (n := 64) hxy.out
      have hjoin : ∀ wq, U64S wq (fun _ => True) (.slice (some ⟨w'.heap.size, 0, none⟩) 2 2) [l, x] → Calls Tryz.prog 171 #[.slice (some ⟨w'.heap.size, 0, none⟩) 2 2] wq fun e w'' => e = .returned (.int .u64 (joinL [l, x] : Nat)) ∧ wq = w'' := fun wq hw => join10_any _ 2 2 [l, x] (fun _ => True) wq rfl hw hxy.out (by omega)
      generalize joinL [l, x] = j at *
      have hand := u64_andNot_nat j s' hj64 hsw
      generalize j &&& (18446744073709551615 - s') = l' at *
      obtain ⟨Wz, hWz⟩ : ∃ Wz, w'.alloc (.cells #[.int .u64 l, .int .u64 x] 172) = Wz := ⟨_, rfl⟩
      have kN := hide (U64S.of_blk (l := [l, x]) (K := fun _ => True) (Blk.newEq hWz) trivial)
      have kz := kW.allocEq hWz
      have hbz := below_allocEq hbW hWz hbW.size
      have g0 := kW.cell 0
      have g1 := kW.cell 1
      have hk1 : (0 : Int) ≤ (k : Int) := Int.natCast_nonneg _
      have hk2 : (k : Int) < (n : Int) := by omega
      have hk3 : ((k : Int) < 0) = False := by simp
      simp only [List.getElem?_toArray, List.getElem?_cons_zero, List.getElem?_cons_succ] at g0 g1
      replace hSn := hide hSn
      replace hms := hide hms
      replace hwith := hide hwith
      replace hjoin := hide hjoin
      replace hleast := hide hleast
      clear hS hsn hl0 hk3
      go_upto_region 7 with (first | (go_at_call 174; refine hleast.out.mono ?_; rintro e w' ⟨rfl, rfl⟩))
      go_upto_region 8 with (go_at_call 134; refine (hwith.out _).mono ?_; rintro e w' ⟨rfl, rfl⟩)
      try clear hleast hwith hsw
      clear hxy
      go_wp2_with (go_at_call 171; refine (hjoin.out Wz kN.out).mono ?_; rintro e wj ⟨rfl, rfl⟩)
      go_step3
      refine ⟨rfl, ⟨s', l', _, _, _, _, _, _, _, _, _, _, _, _, _, _, _, _, _, _, _, _, _, _, _, _, _, _, _, _, _, _, _, _, _, _, _, _, _, _, rfl, hSn.out, hbz, kz⟩, ?_⟩
      have := hms.out
      simpa [intOf] using this
  · obtain ⟨b, off, hA, hbK, hce⟩ := hgW.at_ ha
    subst hA
    have g0 := k0.cell 0
    have g1 := k0.cell 1
    simp only [List.getElem?_toArray, List.getElem?_cons_zero, List.getElem?_cons_succ] at g0 g1
    have hsn := hide (seen_start n E a)
    generalize setB (E a) n = l at *
    go_upto_region 1 with fail
    clear hW0
    go_upto_region 4 with (go_at_call 101; refine hright.out.mono ?_; rintro e w1 ⟨rfl, hb1⟩; have k1 := k0.below hb1 k0.lt; have hcz := (hb1.cell (p := ⟨b, off + a, none⟩) (Nat.lt_of_lt_of_le hbK hb0.size)).trans hce; have g0 := k1.cell 0; have g1 := k1.cell 1; simp only [List.getElem?_toArray, List.getElem?_cons_zero, List.getElem?_cons_succ] at g0 g1)
    replace hagain := hide hagain
    replace hsn := hide hsn.out
    go_region
    go_wp2_with fail
    go_step3
    simp only [Exit.then]
    rename_i hKK
    refine hKK _ _ ?_
    refine hagain.out _ _ ⟨0, l, _, _, _, _, _, _, _, _, _, _, _, _, _, _, _, _, _, _, _, _, _, _, _, _, _, _, _, _, _, _, _, _, _, _, _, _, _, _, rfl, hsn.out, ?_, k1⟩
    exact (hb0.trans (hb1.mono hb0.size)).trans ⟨rfl, rfl, rfl, Nat.le_refl _, fun _ _ => rfl⟩
end Go.Proofs.YtfhnamomiaekdaaGreatDoor

namespace Go.Proofs.YtfhnamomiaekdaaGreatDoor
open Go.RowKit Go.Inq
set_option maxHeartbeats 8000000
attribute [local go_sem ↓] Go.wp_at_zero Go.wp_at_succ

theorem cyc_next {n k : Nat} {E : Edges} (h : (List.range k).any (fun x => cloE n E x x) = false) (hk : cloE n E k k = false) : (List.range (k + 1)).any (fun x => cloE n E x x) = false := by
  rw [List.range_succ, List.any_append, h]
  simp [hk]
theorem cyc_hit {n k : Nat} {E : Edges} (hk : k < n) (h : cloE n E k k = true) : cycB n E = true := by
  unfold cycB
  rw [List.any_eq_true]
  exact ⟨k, List.mem_range.2 hk, h⟩
set_option maxRecDepth 100000 in
theorem cyc13_any (n : Nat) (A : Option Addr) (c : Nat) (E : Edges) (w : World) (h : GrS w (Old w) n A c E) (hTB : TabB w) :
    Calls Tryz.prog 38 #[.agg #[.int .i64 n, .slice A n c]] w fun e w' => e = .returned (.bool (cycB n E)) ∧ Below w.heap.size w w' := by
  have hn64 := h.n64
  obtain ⟨W0, hW0⟩ : ∃ W0, w.alloc (.cells #[.int .i64 n, .slice A n c] 77) = W0 := ⟨_, rfl⟩
  have hb0 : Below w.heap.size w W0 := by rw [← hW0]; exact hB_box
  have k0 : Blk W0 w.heap.size 77 #[.int .i64 n, .slice A n c] := by rw [← hW0]; exact Blk.new _ _ _
  have hsz0 : W0.heap.size = w.heap.size + 1 := by rw [← hW0]; simp
  have hright : ∀ W, Below w.heap.size w W → Calls Tryz.prog 101 #[.agg #[.int .i64 n, .slice A n c]] W fun e w' => e = .returned (.bool true) ∧ Below W.heap.size W w' := fun W hb => right12_any n A c E (Old w) W (h.keep (Agree.below hb fun _ h => h) (fun _ h => h)) (fun b hB => Nat.lt_of_lt_of_le hB hb.size)
  have hfrom : ∀ W a, a < n → Below w.heap.size w W → Calls Tryz.prog 103 #[.agg #[.int .i64 n, .slice A n c], .int .i64 (a : Int)] W fun e w' => e = .returned (.int .u64 (setB (cloE n E a) n : Nat)) ∧ Below W.heap.size W w' := fun W a ha hb => from13_any n A c E a W (h.keep (Agree.below hb fun _ h => h) (fun b hB => Nat.lt_of_lt_of_le hB hb.size)) ha (hTB.below hb)
  replace hright := hide hright
  replace hfrom := hide hfrom
  clear h hTB
  obtain ⟨cy, hcyE⟩ : ∃ cy, cycB n E = cy := ⟨_, rfl⟩
  rw [hcyE]
  replace hcyE := hide hcyE
  go_enter Tryz.func38, Tryz.ntmps38
  go_upto_region 1 with fail
  try rw [hW0]
  clear hW0
  go_wp2_with fail
  go_loopw [3] (fun s3 wr => ∃ k : Nat, k ≤ n ∧ s3 = .int .i64 k ∧ Hid ((List.range k).any (fun x => cloE n E x x) = false) ∧ Below w.heap.size w wr ∧ Blk wr w.heap.size 77 #[.int .i64 n, .slice A n c] ∧ Hid (w.heap.size < wr.heap.size)) (fun s3 _ => n - (intOf s3).toNat)
  case atStart => exact ⟨0, Nat.zero_le _, by go_num, hide rfl, hb0, k0, hide (by omega)⟩
  case round =>
    clear hb0 k0 hsz0
    obtain ⟨k, hk, rfl, hcy, hbw, kw, hlt0⟩ := hrel
    have hk1 : (0 : Int) ≤ (k : Int) := Int.natCast_nonneg _
    have c0 := kw.cell 0
    have c1 := kw.cell 1
    simp only [List.getElem?_toArray, List.getElem?_cons_zero, List.getElem?_cons_succ] at c0 c1
    by_cases hlt : k < n
    · have hk2 : (k : Int) < (n : Int) := by omega
      have hs64 : setB (cloE n E k) n < 18446744073709551616 := setB_64 hn64
      have hhas : Go.Inq.hasB (setB (cloE n E k) n) (k : Int) = cloE n E k k := by rw [hasB_nat, testBit_setB]; simp [hlt]
      have hhs := hide (fun W' => has10_any (setB (cloE n E k) n) hs64 (k : Int) W')
      have hnext := hide (cyc_next (n := n) (E := E) (k := k) hcy.out)
      have hhit := hide (cyc_hit (E := E) hlt)
      rw [hhas] at hhs
      have hfr := hide (fun W => hfrom.out W k hlt)
      generalize setB (cloE n E k) n = s at *
      generalize hcc : cloE n E k k = cc at *
      replace hcc := hide hcc
      go_wp2_with (first | (go_at_call 101; refine (hright.out _ hbw).mono ?_; rintro e w1 ⟨rfl, hb1⟩; have hbx := hbw.trans (hb1.mono hbw.size); have kx := kw.below hb1 hlt0.out; have c0 := kx.cell 0; have c1 := kx.cell 1; simp only [List.getElem?_toArray, List.getElem?_cons_zero, List.getElem?_cons_succ] at c0 c1) | (go_at_call 103; refine (hfr.out _ hbx).mono ?_; rintro e w2 ⟨rfl, hb2⟩; have hby := hbx.trans (hb2.mono hbx.size); have ky := kx.below hb2 (Nat.lt_of_lt_of_le hlt0.out hb1.size)) | (go_at_call 102; refine (hhs.out _).mono ?_; rintro e w3 ⟨rfl, rfl⟩))
      · go_ret
        exact ⟨by rw [← hcyE.out, hhit.out (by assumption)]; rfl, hby⟩
      · exact ⟨⟨k + 1, by omega, by go_num, hide (hnext.out (by assumption)), hby, ky, hide (Nat.lt_of_lt_of_le hlt0.out (Nat.le_trans hb1.size hb2.size))⟩, by simp [intOf]; omega⟩
    · have hkn : k = n := by omega
      have hfin : Hid (cy = false) := hide (by rw [← hcyE.out]; unfold cycB; have h2 := hcy.out; rw [hkn] at h2; exact h2)
      have hge : ¬ (k : Int) < (n : Int) := by omega
      clear hkn
      go_wp2_with (go_at_call 101; refine (hright.out _ hbw).mono ?_; rintro e w1 ⟨rfl, hb1⟩; have hbx := hbw.trans (hb1.mono hbw.size); have kx := kw.below hb1 hlt0.out; have c0 := kx.cell 0; have c1 := kx.cell 1; simp only [List.getElem?_toArray, List.getElem?_cons_zero, List.getElem?_cons_succ] at c0 c1)
      go_ret
      exact ⟨by rw [hfin.out]; rfl, hbx⟩
end Go.Proofs.YtfhnamomiaekdaaGreatDoor

namespace Go.Proofs.YtfhnamomiaekdaaGreatDoor
open Go.RowKit Go.Inq
set_option maxHeartbeats 8000000
attribute [local go_sem ↓] Go.wp_at_zero Go.wp_at_succ

set_option maxRecDepth 100000 in
theorem siGraph_any (A : Option Addr) (c : Nat) (H : List Txn) (Ar : Option Addr) (cr : Nat) (R : List SRow) (w : World) (h : TxnS w (Old w) (.slice A H.length c) H) (hn : H.length ≤ maxLen) (hns : ∀ t ∈ H, t.writes.length ≤ maxLen ∧ t.reads.length ≤ maxLen) (hR : RowS w (Old w) (.slice Ar R.length cr) R) (hRl : R.length ≤ maxLen) (hRr : ∀ r ∈ R, r.l.length ≤ maxLen) (hTB : TabB w) :
    Calls Tryz.prog 5 #[.agg #[.slice A H.length c], .slice Ar R.length cr] w fun e w' => e = .returned (.bool true) ∧ Below w.heap.size w w' := by
  have hA : Below w.heap.size w (w.alloc (.cells #[.slice A H.length c] 24)) := (Below.refl _ _).alloc (Nat.le_refl _) _
  have hT0 := h.below hA
  have hR0 := hR.below hA
  have kh : Blk (w.alloc (.cells #[.slice A H.length c] 24)) w.heap.size 24 #[.slice A H.length c] := Blk.new _ _ _
  replace hn := hide hn
  replace hns := hide hns
  replace h := hide h
  replace hR := hide hR
  replace hRl := hide hRl
  replace hRr := hide fun i (hi : i < R.length) => hRr _ (List.getElem_mem hi)
  go_enter Tryz.func5, Tryz.ntmps5
  go_wp2_with fail
  generalize w.alloc (.cells #[.slice A H.length c] 24) = W0 at *
  refine (awake21_any W0).mono ?_
  rintro e w1 ⟨rfl, hb1⟩
  have hb := hA.trans (hb1.mono hA.size)
  have hT1 := hT0.below hb1
  have hR1 := hR0.below hb1
  replace kh := kh.below hb1 kh.lt
  have c0 := kh.cell 0
  simp only [List.getElem?_toArray, List.getElem?_cons_zero] at c0
  clear hT0 hR0 hA hb1
  go_wp2_with fail
  refine (few8n_any 40 A c H w1 hT1 hn.out hns.out).mono ?_
  rintro e w2 ⟨rfl, hb2⟩
  replace hb := hb.trans (hb2.mono hb.size)
  have hT2 := hide (hT1.below hb2)
  have hR2 := hide (hR1.below hb2)
  replace kh := kh.below hb2 kh.lt
  clear hT1 hR1 hb2 c0 hn hns
  cases hf : fewN 40 H with
  | false =>
    go_wp2
    go_ret
    exact ⟨rfl, hb⟩
  | true =>
    have hsm := hide (fewN_small (Nat.le_refl _) hf)
    clear hf
    by_cases hlp : 20 < R.length
    · have hq : decide ((R.length : Int) > 20) = true := decide_eq_true (by omega)
      have hq2 : decide (20 < R.length) = true := decide_eq_true hlp
      clear hlp
      go_wp2
      go_ret
      exact ⟨rfl, hb⟩
    · have hq : decide ((R.length : Int) > 20) = false := decide_eq_false (by omega)
      have hq2 : decide (20 < R.length) = false := decide_eq_false hlp
      have hp4 : R.length ≤ 20 := by omega
      clear hlp hRl
      go_wp2_with fail
      have hrr := hide fun i (hi : i < R.length) => hRr.out i hi
      clear hRr
      go_loopw [7] (fun s7 wr => ∃ k : Nat, k ≤ R.length ∧ s7 = .int .i64 k ∧ Hid (∀ i (hi : i < R.length), i < k → R[i].l.length ≤ 40) ∧ wr = w2) (fun s7 _ => R.length - (intOf s7).toNat)
      case atStart => exact ⟨0, Nat.zero_le _, by go_num, hide fun i _ h => absurd h (Nat.not_lt_zero _), rfl⟩
      case round =>
        obtain ⟨k, hk, rfl, hall, rfl⟩ := hrel
        have hi1 : (0 : Int) ≤ (k : Int) := Int.natCast_nonneg _
        by_cases hlt : k < R.length
        · have hi2 : (k : Int) < (R.length : Int) := by omega
          obtain ⟨b, off, Ay, cy, rfl, _, -, d1, -⟩ := hR2.out.at_ hlt
          have hyl := hrr.out k hlt
          by_cases h40 : 40 < R[k].l.length
          · have hq3 : decide ((R[k].l.length : Int) > 40) = true := decide_eq_true (by omega)
            have hq4 : decide (40 < R[k].l.length) = true := decide_eq_true h40
            clear h40
            go_wp2
            go_ret
            exact ⟨rfl, hb⟩
          · have hq3 : decide ((R[k].l.length : Int) > 40) = false := decide_eq_false (by omega)
            have hq4 : decide (40 < R[k].l.length) = false := decide_eq_false h40
            have hall2 : Hid (∀ i (hi : i < R.length), i < k + 1 → R[i].l.length ≤ 40) := hide fun i hi h => by
              by_cases e : i = k
              · subst e; omega
              · exact hall.out i hi (by omega)
            clear h40 hall
            go_wp2
            go_roundw
            case rel => exact ⟨k + 1, by omega, by go_num, hall2, by trivial⟩
            case measure => simp [intOf]; omega
        · obtain rfl : k = R.length := by omega
          have hfr : Hid (FitS R) := hide ⟨by omega, fun r hr => by
            obtain ⟨i, hi, rfl⟩ := List.getElem_of_mem hr
            have := hall.out i hi hi
            omega⟩
          have c0 := kh.cell 0
          simp only [List.getElem?_toArray, List.getElem?_cons_zero] at c0
          clear hlt hall hrr hk
          go_wp2_with fail
          refine (choS_any A c H Ar cr R _ hT2.out hsm.out hR2.out hfr.out).mono ?_
          rintro e w3 ⟨vc, rfl, oc, hb3⟩
          obtain ⟨Ac, cc, rfl⟩ := oc.form
          have hno := hide (choS_no (H := H) (R := R))
          have hyes := hide (checkS_yes (H := H) (R := R))
          have hrc := hide (choS_rightC (H := H) (R := R))
          generalize choS H R = C at *
          have hCS := hide (oc.sl (K := Old w3) (fun g h1 h2 => h2))
          have hT3 := hide (hT2.out.below hb3)
          have hR3 := hide (hR2.out.below hb3)
          have hb4 := hb.trans (hb3.mono hb.size)
          replace kh := kh.below hb3 kh.lt
          have c0 := kh.cell 0
          simp only [List.getElem?_toArray, List.getElem?_cons_zero] at c0
          clear hb3 hb hT2 hR2 oc
          go_wp2_with fail
          refine (rightS_any A c H Ar cr R w3 hT3.out hsm.out hR3.out hfr.out).mono ?_
          rintro e w4 ⟨rfl, hb5⟩
          have hT4 := hide (hT3.out.below hb5)
          have hR4 := hide (hR3.out.below hb5)
          have hC4 := hide (hCS.out.below hb5)
          have hb6 := hb4.trans (hb5.mono hb4.size)
          replace kh := kh.below hb5 kh.lt
          have c0 := kh.cell 0
          simp only [List.getElem?_toArray, List.getElem?_cons_zero] at c0
          clear hb5 hb4 hT3 hR3 hCS
          cases hr : rightS H R with
          | false =>
            obtain ⟨rfl, hcf⟩ := hno.out hr
            clear hr hno hyes hrc
            go_wp2_with fail
            refine (checkS_any A c H Ar cr R w4 hT4.out hsm.out hR4.out hfr.out).mono ?_
            rintro e w5 ⟨rfl, hb7⟩
            rw [hcf]
            go_wp2
            go_ret
            exact ⟨rfl, hb6.trans (hb7.mono hb6.size)⟩
          | true =>
            have hcy := hyes.out hr
            have hr1 := hrc.out hr
            have h64 : H.length ≤ 64 := by have := ((rightH_iff H).1 (rightC_hist hr1)).1; omega
            have hfull := hide (full18_any A c H 1 Ac cc C w4 hT4.out hsm.out hC4.out hr1 (.inr rfl) (hTB.below hb6))
            clear hr hno hyes hrc hr1
            generalize fullE H 1 C = E at *
            obtain ⟨qc, hqc⟩ : ∃ qc, cycB H.length E = qc := ⟨_, rfl⟩
            rw [hqc] at hcy
            replace hqc := hide hqc
            replace hcy := hide hcy
            go_wp2_with fail
            refine Calls.mono hfull.out ?_
            rintro e w5 ⟨g, hgg, rfl, kg, b5⟩
            clear hfull c0
            obtain ⟨W6, hW6⟩ : ∃ W6, w5.alloc (.cells #[.int .i64 H.length, .slice (some ⟨g, 0, none⟩) H.length H.length] 77) = W6 := ⟨_, rfl⟩
            have k6 := Blk.newEq hW6
            have b6 := b5.trans ((below_allocEq (Below.refl w5.heap.size w5) hW6 (Nat.le_refl _)).mono b5.size)
            have kg6 := kg.allocEq hW6
            have hT6 := hT4.out.below b6
            have hR6 := hR4.out.below b6
            have hb8 := hb6.trans (b6.mono hb6.size)
            replace kh := kh.below b6 kh.lt
            have hTB6 := hTB.below hb8
            have hgr6 : GrS W6 (Old W6) H.length (some ⟨g, 0, none⟩) H.length E := GrS.of_blk kg6 kg6.lt h64
            replace hW6 := hide hW6
            go_upto_region 18 with fail
            rw [hW6.out]
            clear hW6
            have hcheck := hide (fun W (hW : Below W6.heap.size W6 W) => checkS_any A c H Ar cr R W (hT6.below hW) hsm.out (hR6.below hW) hfr.out)
            have hcyc := hide (fun W (hW : Below W6.heap.size W6 W) => cyc13_any H.length (some ⟨g, 0, none⟩) H.length E W (hgr6.keep (Agree.below hW fun _ h => h) (fun b hB => Nat.lt_of_lt_of_le hB hW.size)) (hTB6.below hW))
            have hh := hide (fun W (hW : Below W6.heap.size W6 W) => (kh.below hW kh.lt).cell 0)
            have hg := hide (fun W (hW : Below W6.heap.size W6 W) => (k6.below hW k6.lt).cell 0)
            have hg1 := hide (fun W (hW : Below W6.heap.size W6 W) => (k6.below hW k6.lt).cell 1)
            simp only [List.getElem?_toArray, List.getElem?_cons_zero, List.getElem?_cons_succ] at hh hg hg1
            rw [hcy.out] at hcheck
            rw [hqc.out] at hcyc
            clear hT4 hR4 hC4 hT6 hR6 hgr6 kg kg6 k6 kh hTB6 hTB b6 b5
            refine wp_region_float (fun W => Below W6.heap.size W6 W) (by kernel_rfl) (by kernel_rfl) (Below.refl _ _).drew ?_
            refine ⟨.agg #[.slice A H.length c], fun W hW => (by have c0 := hh.out W hW; go_wp2), ?_⟩
            refine ⟨.slice Ar R.length cr, fun W hW => (by go_wp2), ?_⟩
            refine ⟨.bool (!qc), fun W hW => (by
              go_wp2_with fail
              refine (hcheck.out W hW).mono ?_
              rintro e w' ⟨rfl, hb'⟩
              replace hW := hW.trans (hb'.mono hW.size)
              go_wp2), ?_⟩
            refine ⟨.agg #[.int .i64 H.length, .slice (some ⟨g, 0, none⟩) H.length H.length], fun W hW => (by have x0 := hg.out W hW; have x1 := hg1.out W hW; go_wp2), ?_⟩
            refine ⟨.bool qc, fun W hW => (by
              go_wp2_with fail
              refine (hcyc.out W hW).mono ?_
              rintro e w' ⟨rfl, hb'⟩
              replace hW := hW.trans (hb'.mono hW.size)
              go_wp2), ?_⟩
            refine ⟨.bool (!qc), fun W hW => (by go_wp2), ?_⟩
            refine ⟨.bool true, fun W hW => (by go_wp2), ?_⟩
            refine ⟨.bool true, fun W hW => (by go_wp2), ?_⟩
            intro w9 hw9
            simp only [Act.put, List.setIfInBounds_toArray, List.set_cons_zero, List.set_cons_succ]
            go_wp2
            go_ret
            exact ⟨rfl, hb8.trans (hw9.mono hb8.size)⟩
end Go.Proofs.YtfhnamomiaekdaaGreatDoor

namespace Go.Proofs.YtfhnamomiaekdaaGreatDoor
open Go.ChangeShapes Go.WideShapes Go.ChangeAt Go.RowKit Go.Inq

set_option maxRecDepth 100000 in
theorem siGraph_lifted (os : Os) (started : os.Started) (H : Type) (enc : TypeId × Value → H) :
    ReturnsInHanded {} Tryz.checked os 5 .any (fun w args => (Rows.siGraphSpec.pre enc Tryz.prog Tryz.f5 Rows.siGraphRow.domain false w args ∧ laidMetH Tryz.prog Rows.siGraphRow.laid w) ∧ sizedMet enc Tryz.prog Tryz.f5 (OpenSpec.ofChange Rows.siGraphSpec) false w args)
      (Rows.siGraphSpec.post enc Tryz.prog Tryz.f5 false true false false) := by
  refine returnsInHanded_shaped_and (C := Tryz.checked) (X := fun w _ => laidMetH Tryz.prog Rows.siGraphRow.laid w) (fun _ _ _ hh h => h.of_heap hh) own started (by kernel_rfl) Tryz.func5
    (ChangeSpec.witness_shaped (enc := enc) (C := Tryz.checked) (os := os) (X := fun w _ => laidMetH Tryz.prog Rows.siGraphRow.laid w) false (World.laidAll Tryz.prog os Rows.siGraphRow.laid) #[.agg #[.slice none 0 0], .slice none 0 0] 8 (World.laidAll_os _ _ _)
      (World.shaped_of_ZipB (by kernel_rfl) (by kernel_rfl)) (by kernel_rfl) (by kernel_rfl) (by kernel_rfl)
      (by rw [MakeChecks.laidMetH_plain _ _ _ (by kernel_rfl)]; exact laidMet_laidAll _ (by kernel_rfl) (by kernel_rfl))) ?_
  intro W base args ds gs before hval0 hW hL hsh
  have hval : ∀ (j : Nat) t v, Tryz.f5.params[j]? = some t → args[j]? = some v → Value.okWide Tryz.prog W .any base t v := hval0
  have hW' := hW
  obtain ⟨p, q, hA0, hV, rfl, hfz, hnd⟩ := hW
  have hlt : ∀ x ∈ p ++ q, x.block < W.heap.size := fun x hx => hW'.lt x hx
  have hA : DataW.TrodAll enc Tryz.prog W 0 (fun _ => true) true Tryz.f5.params.toList args.toList ds p := hA0
  rw [Tryz.params5] at hA hval
  obtain ⟨v0, v1, d0, d1, p0, p1, rfl, rfl, rfl, h0, h1⟩ := trodAll_two hA
  obtain ⟨rfl, rfl⟩ := trodVars_none hV
  obtain ⟨n0, t0⟩ := h0
  obtain ⟨cs0, rfl, hz0⟩ := okWide_struct Tryz.underlying24 (hval 0 24 v0 rfl rfl)
  obtain ⟨a0, cap0, l0, he0, hl0, hn0, hm0⟩ := open_hist (by kernel_rfl) t0
  obtain rfl : cs0 = #[.slice a0 l0.length cap0] := Array.toList_inj.1 he0
  obtain ⟨a1, len1, cap1, rfl⟩ := okWide_slice Tryz.underlying69 (hval 1 69 v1 rfl rfl)
  obtain ⟨n1, t1⟩ := h1
  obtain ⟨A, c, l1, hv, hl1, hn1, hm1⟩ := open_srows t1
  injection hv with e1 e2 e3
  subst e1 e2 e3
  refine (siGraph_any a0 cap0 l0 a1 cap1 l1 W hl0 hn0 hm0 hl1 hn1 hm1 (TabB.of hL (MakeChecks.laidMetH_plain _ _ _ (by kernel_rfl)) (.head _))).mono fun e W2 he => ?_
  obtain ⟨he, hb⟩ := he
  subst he
  exact ⟨_, rfl, [d0, d1], [], (p0 ++ p1) ++ [], [], (p0 ++ p1), [], hW', trodAll_mk1 (shut_bool Tryz.underlying4 true), Below.trodAll hb (by kernel_rfl) hA (fun x hx => hlt x (List.mem_append.2 (.inl hx))), rfl, hb.frame _, fun h => by cases h⟩

theorem siGraph_holds : Rows.SiGraphSaid :=
  OpenClaim.holds_of_wide 5 Tryz.f5 rfl rfl rfl rfl rfl rfl rfl ⟨rfl, rfl, rfl, rfl, rfl⟩ rfl rfl rfl rfl rfl (by kernel_rfl) Tryz.func5 (by kernel_rfl)
    (of_decide_eq_true (by kernel_rfl)) (by unfold Func.isWrapper; first | (rw [if_pos (by decide +kernel)]; kernel_rfl) | (rw [if_neg (by decide +kernel)]; exact ⟨rfl, rfl⟩))
    (fun os started H enc _ => siGraph_lifted os started H enc)
theorem siGraph_card_holds : Rows.SiGraphCardSaid :=
  Claim7.holds_tied_plain_at .later [] [.data] true (true, "99b8dfe929b337ca48f36e4d9671b0f705fcd0e1df1d3ebf520cca97b86ba660") false siGraph_holds (fun _ h => by cases h) (by kernel_rfl) (fun _ h => by cases h) siGraph_row_tie rfl ⟨rfl, rfl⟩ (by kernel_rfl) rfl
    (fun f fn hf hfn => by
      obtain rfl : f = 5 := Option.some.inj ((show Tryz.prog.funcNamed Rows.siGraphRow.func = some 5 by kernel_rfl).symm.trans hf) |>.symm
      obtain rfl : fn = Tryz.f5 := (Option.some.inj (Tryz.func5.symm.trans hfn)).symm
      exact ⟨by kernel_rfl, fun j t ht => by
        rw [Tryz.params5] at ht
        have hm : t ∈ [24, 69] := by simpa using Array.mem_of_getElem? ht
        have hall : ([24, 69].all fun u => !Tryz.prog.wantsStandIn u) = true := by kernel_rfl
        exact (show Tryz.prog.wantsStandIn t = false by simpa using List.all_eq_true.1 hall t hm)⟩)
    (by kernel_rfl)
#print axioms siGraph_card_holds
end Go.Proofs.YtfhnamomiaekdaaGreatDoor
