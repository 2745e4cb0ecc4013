/-
  Walks: layer 22's reference: past, seen, and whether a fact holds that wants no others.
-/
import Derived.Test.YtjomijnbnbideaaGreatDoorT30
import Derived.Test.YtjomijnbnbideaaGreatDoorT28
import Derived.Test.YtjomijnbnbideaaGreatDoorT22
set_option linter.unusedVariables false
set_option linter.unusedSimpArgs false
namespace Go.Proofs.YtjomijnbnbideaaGreatDoor
open Go.RowKit Go.Inq
set_option maxHeartbeats 4000000
attribute [local go_sem ↓] Go.wp_at_zero Go.wp_at_succ

set_option maxRecDepth 100000 in
theorem rpast22_any (A : Option Addr) (c : Nat) (H : List Txn) (x y : Int) (w : World) (h : TxnS w (Old w) (.slice A H.length c) H) (hn : SmallH H) :
    Calls Tryz.prog 188 #[.agg #[.slice A H.length c], .int .i64 x, .int .i64 y] w fun e w' => e = .returned (.bool (directB H [] x y)) ∧ Below w.heap.size w w' := by
  obtain ⟨W0, hW0⟩ : ∃ W0, w.alloc (.cells #[.slice A H.length c] 24) = W0 := ⟨_, rfl⟩
  have hB := below_allocEq (Below.refl w.heap.size w) hW0 (Nat.le_refl _)
  have k0 := Blk.newEq hW0
  have hd := hide (rdirect19_any A c H none 0 [] x y W0 (h.below hB) hn (SlR.nil _ _ _ _ _ _) (by simp))
  have c0 := k0.cell 0
  simp only [List.getElem?_toArray, List.getElem?_cons_zero] at c0
  generalize directB H [] x y = q at *
  clear h
  go_enter Tryz.func188, Tryz.ntmps188
  go_wp2_with fail
  clear hW0
  refine Calls.mono hd.out ?_
  rintro e w1 ⟨rfl, hb1⟩
  go_wp2
  go_ret
  exact ⟨rfl, hB.trans (hb1.mono hB.size)⟩
theorem fromL_any {R : List It} (hr : (R.map (·.a)).Pairwise (· < ·)) (key s : Int) : (R.any fun x => decide (x.a = key) && decide (x.b = s)) = ((fromL R key).2 && decide ((fromL R key).1 = s)) := by
  unfold fromL
  induction R with
  | nil => simp
  | cons r R ih =>
    rw [List.map_cons, List.pairwise_cons] at hr
    rw [List.any_cons, List.find?_cons]
    by_cases e : r.a = key
    · have hb : (r.a == key) = true := by simpa using e
      rw [hb, decide_eq_true e]
      dsimp only
      have hno : (R.any fun x => decide (x.a = key) && decide (x.b = s)) = false := by
        rw [List.any_eq_false]
        intro x hx
        have := hr.1 x.a (List.mem_map_of_mem hx)
        have hne : x.a ≠ key := by omega
        simp [hne]
      rw [hno]
      simp
    · have hb : (r.a == key) = false := by simpa using e
      rw [hb, decide_eq_false e, Bool.false_and, Bool.false_or]
      exact ih hr.2
theorem reads_rise {H : List Txn} (hr : rightH H = true) {t : Nat} (ht : t < H.length) : (H[t].reads.map (·.a)).Pairwise (· < ·) := (((rightH_iff H).1 hr).2 t ht).rrise
set_option maxRecDepth 100000 in
theorem rseen22_any (A : Option Addr) (c : Nat) (H : List Txn) (f : Fct) (Ac : Option Addr) (nc cc : Nat) (w : World) (h : TxnS w (Old w) (.slice A H.length c) H) (hn : SmallH H) (hr : rightH H = true) :
    Calls Tryz.prog 190 #[.agg #[.slice A H.length c], .agg #[.int .i64 f.c.key, .int .i64 f.c.a, .int .i64 f.c.b, .int .i64 f.kind, .int .i64 f.i, .int .i64 f.j, .slice Ac nc cc]] w fun e w' => e = .returned (.bool (seenF H f)) ∧ Below w.heap.size w w' := by
  obtain ⟨⟨xk, xa, xb⟩, fk, fi, fj, fy⟩ := f
  dsimp only
  obtain ⟨W0, hW0⟩ : ∃ W0, (w.alloc (.cells #[.slice A H.length c] 24)).alloc (.cells #[.int .i64 xk, .int .i64 xa, .int .i64 xb, .int .i64 fk, .int .i64 fi, .int .i64 fj, .slice Ac nc cc] 119) = W0 := ⟨_, rfl⟩
  have hB := below_two hW0
  have k0 := Blk.two1 hW0
  have k1 := Blk.two2 hW0
  have hh := hide (fun W hb => h.below (w' := W) hb)
  obtain ⟨q, hq⟩ : ∃ q, seenF H ⟨⟨xk, xa, xb⟩, fk, fi, fj, fy⟩ = q := ⟨_, rfl⟩
  rw [hq]
  unfold seenF at hq
  dsimp only at hq
  have c0 := k0.cell 0
  have f0 := k1.cell 0
  have f1 := k1.cell 1
  have f2 := k1.cell 2
  have f4 := k1.cell 4
  have f5 := k1.cell 5
  simp only [List.getElem?_toArray, List.getElem?_cons_zero, List.getElem?_cons_succ] at c0 f0 f1 f2 f4 f5
  replace hq := hide hq
  replace hn := hide hn
  replace hr := hide hr
  clear h
  go_enter Tryz.func190, Tryz.ntmps190
  go_upto_region 1 with fail
  clear hW0
  replace hq := hq.out
  by_cases q1 : fi < 0
  · have hrr : (decide (fj = 0) && decide (fi ≠ xa) && decide (0 ≤ fi) && decide (fi < (H.length : Int)) && ((txnAt H fi.toNat).reads.any fun x => decide (x.a = xk) && decide (x.b = xb)) && directB H [] xa fi) = false := by
      rw [decide_eq_false (show ¬ 0 ≤ fi by omega)]; simp
    obtain rfl : q = false := hq.symm.trans hrr
    clear hrr hq
    go_wp2
    go_ret
    exact ⟨by first | rfl | exact ret_bool (by simp <;> omega), hB⟩
  · by_cases q2 : fi ≥ (H.length : Int)
    · have hrr : (decide (fj = 0) && decide (fi ≠ xa) && decide (0 ≤ fi) && decide (fi < (H.length : Int)) && ((txnAt H fi.toNat).reads.any fun x => decide (x.a = xk) && decide (x.b = xb)) && directB H [] xa fi) = false := by
        rw [decide_eq_false (show ¬ fi < (H.length : Int) by omega)]; simp
      obtain rfl : q = false := hq.symm.trans hrr
      clear hrr hq
      go_wp2
      go_ret
      exact ⟨by first | rfl | exact ret_bool (by simp <;> omega), hB⟩
    · by_cases q3 : fi = xa
      · have q3b : (fi == xa) = true := by simpa using q3
        have hrr : (decide (fj = 0) && decide (fi ≠ xa) && decide (0 ≤ fi) && decide (fi < (H.length : Int)) && ((txnAt H fi.toNat).reads.any fun x => decide (x.a = xk) && decide (x.b = xb)) && directB H [] xa fi) = false := by
          rw [decide_eq_false (show ¬ fi ≠ xa by simpa using q3)]; simp
        clear q3
        obtain rfl : q = false := hq.symm.trans hrr
        clear hrr hq
        go_wp2
        go_ret
        exact ⟨by first | rfl | exact ret_bool (by simp <;> omega), hB⟩
      · have q3b : (fi == xa) = false := by simpa using q3
        by_cases q4 : fj = 0
        · obtain ⟨t, rfl⟩ : ∃ t : Nat, fi = t := ⟨fi.toNat, by omega⟩
          have ht : t < H.length := by omega
          have q4b : (fj != 0) = false := by simp [q4]
          rw [decide_eq_true q4, decide_eq_true q3, decide_eq_true (show (0 : Int) ≤ (t : Int) by omega), decide_eq_true (show (t : Int) < (H.length : Int) by omega)] at hq
          simp only [Bool.true_and, Int.toNat_natCast] at hq
          rw [txnAt_of ht, fromL_any (reads_rise hr.out ht)] at hq
          have hfr := hide (rfrom09_any A c H t xk W0 (hh.out W0 hB) hr.out hn.out ht)
          replace hq := hide hq
          clear q3 q4
          go_wp2_with fail
          refine hfr.out.mono ?_
          rintro e w1 ⟨rfl, hb1⟩
          have hB1 := hB.trans (hb1.mono hB.size)
          replace k0 := k0.below hb1 k0.lt
          replace k1 := k1.below hb1 k1.lt
          have c0 := k0.cell 0
          have f0 := k1.cell 0
          have f1 := k1.cell 1
          have f2 := k1.cell 2
          have f4 := k1.cell 4
          simp only [List.getElem?_toArray, List.getElem?_cons_zero, List.getElem?_cons_succ] at c0 f0 f1 f2 f4
          have hpa := hide (rpast22_any A c H xa t w1 (hh.out w1 hB1) hn.out)
          obtain ⟨p, hp⟩ : ∃ p, directB H [] xa t = p := ⟨_, rfl⟩
          rw [hp] at hpa hq
          generalize fromL H[t].reads xk = r at *
          obtain ⟨rb, ri⟩ := r
          dsimp only at hq ⊢
          clear hfr hb1 hB hp
          cases ri with
          | false =>
            obtain rfl : q = false := by have := hq.out; simpa using this.symm
            clear hq hpa
            go_wp2
            go_ret
            exact ⟨rfl, hB1⟩
          | true =>
            by_cases e : rb = xb
            · have eb : (rb != xb) = false := by simp [e]
              have hq2 : Hid (p = q) := hide (by have := hq.out; rw [decide_eq_true e] at this; simpa using this)
              clear hq e
              go_wp2_with fail
              refine Calls.mono hpa.out ?_
              rintro e w2 ⟨rfl, hb2⟩
              go_wp2
              go_ret
              exact ⟨ret_bool hq2.out, hB1.trans (hb2.mono hB1.size)⟩
            · have eb : (rb != xb) = true := by simp [e]
              obtain rfl : q = false := by have := hq.out; rw [decide_eq_false e] at this; simpa using this.symm
              clear hq e hpa
              go_wp2
              go_ret
              exact ⟨rfl, hB1⟩
        · have q4b : (fj != 0) = true := by simpa using q4
          have hrr : (decide (fj = 0) && decide (fi ≠ xa) && decide (0 ≤ fi) && decide (fi < (H.length : Int)) && ((txnAt H fi.toNat).reads.any fun x => decide (x.a = xk) && decide (x.b = xb)) && directB H [] xa fi) = false := by
            rw [decide_eq_false q4]; simp
          clear q3 q4
          obtain rfl : q = false := hq.symm.trans hrr
          clear hrr hq
          go_wp2
          go_ret
          exact ⟨by first | rfl | exact ret_bool (by simp <;> omega), hB⟩
set_option maxRecDepth 100000 in
/-- Holds, of an Axiom or a Seen, whatever else is known. -/
theorem rholds22_plain (A : Option Addr) (c : Nat) (H : List Txn) (level : Int) (Al : Option Addr) (nl cl : Nat) (L : List Fct) (f : Fct) (Ac : Option Addr) (cc : Nat) (w : World) (h : TxnS w (Old w) (.slice A H.length c) H) (hn : SmallH H) (hk : f.kind = 1 ∨ f.kind = 3) :
    Calls Tryz.prog 132 #[.agg #[.slice A H.length c], .int .i64 level, .slice Al nl cl, .agg #[.int .i64 f.c.key, .int .i64 f.c.a, .int .i64 f.c.b, .int .i64 f.kind, .int .i64 f.i, .int .i64 f.j, .slice Ac f.cyc.length cc]] w fun e w' => e = .returned (.bool (holdsB H level L f)) ∧ Below w.heap.size w w' := by
  have hfm := holds_form (H := H) (level := level) (L := L) hk
  have hse := hide (fun W hT hr => rseen22_any A c H f Ac f.cyc.length cc W hT hn hr)
  obtain ⟨q, hq⟩ : ∃ q, holdsB H level L f = q := ⟨_, rfl⟩
  rw [hq]
  rw [hfm] at hq
  clear hfm
  have hcy : f.cyc = [] ↔ f.cyc.length = 0 := by cases f.cyc <;> simp
  have hfx : (if f.kind = 1 then axB H f else seenF H f) = (if f.kind = 1 then (decide (f.i = 0) && decide (f.j = 0) && directB H [] f.c.a f.c.b) else seenF H f) := rfl
  rw [hfx] at hq
  clear hfx
  obtain ⟨sv, hsv⟩ : ∃ sv, seenF H f = sv := ⟨_, rfl⟩
  rw [hsv] at hq hse
  clear hsv
  have hone := hide (fun W hT => rone18_any A c H f.c W hT hn)
  obtain ⟨o, ho⟩ : ∃ o, oneB H f.c = o := ⟨_, rfl⟩
  rw [ho] at hq hone
  clear ho
  obtain ⟨⟨xk, xa, xb⟩, fk, fi, fj, fy⟩ := f
  dsimp only at hk hq hcy hse hone ⊢
  rw [show decide (fy = []) = decide (fy.length = 0) by rw [Bool.eq_iff_iff, decide_eq_true_eq, decide_eq_true_eq]; exact hcy] at hq
  generalize fy.length = nc at *
  obtain ⟨W0, hW0⟩ : ∃ W0, (w.alloc (.cells #[.slice A H.length c] 24)).alloc (.cells #[.int .i64 xk, .int .i64 xa, .int .i64 xb, .int .i64 fk, .int .i64 fi, .int .i64 fj, .slice Ac nc cc] 119) = W0 := ⟨_, rfl⟩
  have hB := below_two hW0
  have k0 := Blk.two1 hW0
  have k1 := Blk.two2 hW0
  have hh := hide (fun W hb => h.below (w' := W) hb)
  have hrc := hide (right08_any A c H W0 (h.below hB) hn)
  have c0 := k0.cell 0
  simp only [List.getElem?_toArray, List.getElem?_cons_zero] at c0
  replace hq := hide hq
  replace hn := hide hn
  clear h hcy
  go_enter Tryz.func132, Tryz.ntmps132
  go_wp2_with fail
  clear hW0
  refine Calls.mono hrc.out ?_
  rintro e w1 ⟨rfl, hb1⟩
  have hB1 := hB.trans (hb1.mono hB.size)
  replace k0 := k0.below hb1 k0.lt
  replace k1 := k1.below hb1 k1.lt
  have c0 := k0.cell 0
  have f0 := k1.cell 0
  have f1 := k1.cell 1
  have f2 := k1.cell 2
  have f3 := k1.cell 3
  have f4 := k1.cell 4
  have f5 := k1.cell 5
  have f6 := k1.cell 6
  simp only [List.getElem?_toArray, List.getElem?_cons_zero, List.getElem?_cons_succ] at c0 f0 f1 f2 f3 f4 f5 f6
  clear hrc hb1 hB
  unfold mayB at hq
  cases hr : rightH H with
  | false =>
    obtain rfl : q = false := by have := hq.out; rw [hr] at this; simpa using this.symm
    clear hq hr
    go_wp2
    go_ret
    exact ⟨rfl, hB1⟩
  | true =>
    by_cases hlv : level = 0 ∨ level = 1
    · have hlb : (level != 0) = false ∨ ((level != 0) = true ∧ (level != 1) = false) := by
        rcases hlv with rfl | rfl
        · left; rfl
        · right; exact ⟨rfl, rfl⟩
      have hq2 : Hid ((o && decide (nc = 0) && if fk = 1 then (decide (fi = 0) && decide (fj = 0) && directB H [] xa xb) else sv) = q) := hide (by
        have := hq.out
        rw [hr] at this
        rcases hlv with rfl | rfl <;> simpa using this)
      clear hlv hq
      replace hr := hide hr
      have hfk4 : (fk != 4) = true := by rcases hk with rfl | rfl <;> rfl
      have hoc := hide (hone.out w1 (hh.out w1 hB1))
      clear hone
      rcases hlb with hlb | ⟨hlb, hlb1⟩
      all_goals
        go_wp2_with fail
        refine Calls.mono hoc.out ?_
        rintro e w2 ⟨rfl, hb2⟩
        have hB2 := hB1.trans (hb2.mono hB1.size)
        replace k0 := k0.below hb2 k0.lt
        replace k1 := k1.below hb2 k1.lt
        have c0 := k0.cell 0
        have f0 := k1.cell 0
        have f1 := k1.cell 1
        have f2 := k1.cell 2
        have f3 := k1.cell 3
        have f4 := k1.cell 4
        have f5 := k1.cell 5
        have f6 := k1.cell 6
        simp only [List.getElem?_toArray, List.getElem?_cons_zero, List.getElem?_cons_succ] at c0 f0 f1 f2 f3 f4 f5 f6
        clear hb2 hB1 hoc
        cases o with
        | false =>
          obtain rfl : q = false := by have := hq2.out; simpa using this.symm
          clear hq2 hr
          go_wp2
          go_ret
          exact ⟨rfl, hB2⟩
        | true =>
          by_cases hnc : nc = 0
          · subst hnc
            have hq3 : Hid ((if fk = 1 then (decide (fi = 0) && decide (fj = 0) && directB H [] xa xb) else sv) = q) := hide (by have := hq2.out; simpa using this)
            clear hq2
            rcases hk with rfl | rfl
            · have hpa := hide (rpast22_any A c H xa xb w2 (hh.out w2 hB2) hn.out)
              obtain ⟨p, hp⟩ : ∃ p, directB H [] xa xb = p := ⟨_, rfl⟩
              rw [hp] at hpa hq3
              have hq4 : Hid ((decide (fi = 0) && decide (fj = 0) && p) = q) := hide (by have := hq3.out; simpa using this)
              clear hp hq3 hr
              go_wp2_with fail
              refine Calls.mono hpa.out ?_
              rintro e w3 ⟨rfl, hb3⟩
              have hB3 := hB2.trans (hb3.mono hB2.size)
              replace k1 := k1.below hb3 k1.lt
              have f4 := k1.cell 4
              have f5 := k1.cell 5
              simp only [List.getElem?_toArray, List.getElem?_cons_zero, List.getElem?_cons_succ] at f4 f5
              clear hpa hb3 hB2
              cases p with
              | false =>
                obtain rfl : q = false := by have := hq4.out; simpa using this.symm
                clear hq4
                go_wp2
                go_ret
                exact ⟨rfl, hB3⟩
              | true =>
                by_cases e1 : fi = 0
                · have e1b : (fi == 0) = true := by simp [e1]
                  have hq5 : Hid ((fj == 0) = q) := hide (by have := hq4.out; rw [decide_eq_true e1, Bool.true_and, Bool.and_true] at this; rw [← this, Bool.eq_iff_iff]; simp)
                  clear hq4 e1
                  go_wp2
                  go_ret
                  exact ⟨ret_bool hq5.out, hB3⟩
                · have e1b : (fi == 0) = false := by simpa using e1
                  obtain rfl : q = false := by have := hq4.out; rw [decide_eq_false e1] at this; simpa using this.symm
                  clear hq4 e1
                  go_wp2
                  go_ret
                  exact ⟨rfl, hB3⟩
            · have hsc := hide (hse.out w2 (hh.out w2 hB2) hr.out)
              have hq4 : Hid (sv = q) := hide (by have := hq3.out; simpa using this)
              clear hq3 hr
              go_wp2_with fail
              refine Calls.mono hsc.out ?_
              rintro e w3 ⟨rfl, hb3⟩
              go_wp2
              go_ret
              exact ⟨ret_bool hq4.out, hB2.trans (hb3.mono hB2.size)⟩
          · have hn0 : (nc : Int) > 0 := by omega
            obtain rfl : q = false := by have := hq2.out; rw [decide_eq_false hnc] at this; simpa using this.symm
            clear hq2 hr hnc
            go_wp2
            go_ret
            exact ⟨rfl, hB2⟩
    · have h0 : (level != 0) = true := by rw [bne_iff_ne]; omega
      have h1 : (level != 1) = true := by rw [bne_iff_ne]; omega
      obtain rfl : q = false := by
        have := hq.out
        rw [decide_eq_false (show ¬ level = 0 by omega), decide_eq_false (show ¬ level = 1 by omega)] at this
        simpa using this.symm
      clear hlv hq hr
      go_wp2
      go_ret
      exact ⟨rfl, hB1⟩
end Go.Proofs.YtjomijnbnbideaaGreatDoor
