/-
  Walks: WidenTells.
-/
import Derived.Test.YtfodlklpfffaaaaGreatDoorC34
import Derived.Test.YtfodlklpfffaaaaGreatDoorC35
import Derived.Test.YtfodlklpfffaaaaGreatDoorC36
import Derived.Test.YtfodlklpfffaaaaGreatDoorC37
set_option linter.unusedVariables false
set_option linter.unusedSimpArgs false
namespace Go.Proofs.YtfodlklpfffaaaaGreatDoor
open Go.RowKit Go.Inq
set_option maxHeartbeats 16000000
attribute [local go_sem ↓] Go.wp_at_zero Go.wp_at_succ

theorem fewS_small {s : Wd} (h : fewS s = true) : FewWd s ∧ SmallWd s ∧ s.path.length ≤ 40 ∧ s.left.length ≤ 40 ∧ ∀ l ∈ s.left, l.length ≤ 40 := by
  unfold fewS at h
  simp only [Bool.and_eq_true, decide_eq_true_eq, List.all_eq_true] at h
  obtain ⟨⟨h1, h2⟩, h3⟩ := h
  exact ⟨⟨by omega, by omega, fun l hl => by have := h3 l hl; omega⟩, ⟨by omega, by omega, fun l hl => by have := h3 l hl; omega⟩, h1, h2, h3⟩
theorem stepW_few {H : List Txn} {level : Int} {s : Wd} (h : fewS s = true) (hH : H.length ≤ 40) : FewWd (stepW H level s).1 ∧ (stepW H level s).2.2.length ≤ 1000000 := by
  obtain ⟨-, -, h1, h2, h3⟩ := fewS_small h
  have hc : ∀ p : List Int, (comeW H p).length ≤ 1000000 := fun p => Nat.le_trans (comeW_len H p) (by omega)
  have hput : ∀ s1 : Wd, s1.path.length ≤ 1000 → s1.left.length ≤ 1000 → (∀ l ∈ s1.left, l.length ≤ 1000) → FewWd (putW H s1) := fun s1 g1 g2 g3 => by
    refine ⟨by unfold putW; simp; omega, by unfold putW; simp; omega, fun l hl => ?_⟩
    unfold putW at hl
    simp only [List.mem_append, List.mem_singleton] at hl
    rcases hl with hl | rfl
    · have := g3 l hl; omega
    · exact Nat.le_trans (by rw [List.length_take]; exact Nat.min_le_right _ _) (hc _)
  have hs : FewWd s := ⟨by omega, by omega, fun l hl => by have := h3 l hl; omega⟩
  unfold stepW
  split
  · exact ⟨hs, by simp⟩
  · split
    · exact ⟨hs, by simp⟩
    · split
      · exact ⟨hput s (by omega) (by omega) (fun l hl => by have := h3 l hl; omega), by simp⟩
      · split
        · refine ⟨⟨?_, ?_, fun l hl => ?_⟩, by simp⟩
          · simp; omega
          · simp; omega
          · have := h3 l ((List.dropLast_sublist _).subset hl); omega
        · split
          · exact ⟨⟨by simp, by simp, by simp⟩, by simp⟩
          · exact ⟨hs, by simp⟩
      · rename_i t r heq
        have hm : (t :: r) ∈ s.left := List.mem_of_mem_getLast? heq
        have hr : r.length ≤ 40 := by have := h3 _ hm; simp at this; omega
        have hd : ∀ l ∈ s.left.dropLast ++ [r], l.length ≤ 1000 := fun l hl => by
          simp only [List.mem_append, List.mem_singleton] at hl
          rcases hl with hl | rfl
          · have := h3 l ((List.dropLast_sublist _).subset hl); omega
          · omega
        have hdl : (s.left.dropLast ++ [r]).length ≤ 1000 := by simp; omega
        dsimp only
        split
        · exact ⟨⟨by dsimp only; omega, by dsimp only; omega, fun l hl => by have := hd l hl; omega⟩, by simp⟩
        · rename_i o ho
          split
          · refine ⟨⟨by dsimp only; omega, by dsimp only; omega, fun l hl => by have := hd l hl; omega⟩, ?_⟩
            have := orderTo_len (show orderTo H.length _ H.length = some o from ho)
            simp
            omega
          · exact ⟨hput _ (by simp; omega) hdl hd, by simp⟩
set_option maxRecDepth 100000 in
theorem widenTells_any (A : Option Addr) (c : Nat) (H : List Txn) (level : Int) (v : Value) (s : Wd) (w : World) (h : TxnS w (Old w) (.slice A H.length c) H) (hn : H.length ≤ maxLen) (hns : ∀ t ∈ H, t.writes.length ≤ maxLen ∧ t.reads.length ≤ maxLen) (hv : WdS w (Old w) v s) (hTB : TabB w) :
    Calls Tryz.prog 3 #[.agg #[.slice A H.length c], .int .i64 level, v] w fun e w' => e = .returned (.bool true) ∧ Below w.heap.size w w' := by
  obtain ⟨Ap, cp, Al, cl, rfl, hP, hL⟩ := hv.form
  obtain ⟨W0, hW0⟩ : ∃ W0, (w.alloc (.cells #[.slice A H.length c] 24)).alloc (.cells #[.int .i64 s.width, .bool s.cut, .slice Ap s.path.length cp, .slice Al s.left.length cl] 28) = W0 := ⟨_, rfl⟩
  have hb := below_two hW0
  have k0 := Blk.two1 hW0
  have k1 := Blk.two2 hW0
  have s0 := size_two hW0
  have hT0 := hide (h.below hb)
  have hv0 := hide (hv.below hb)
  have hB0 := hTB.below hb
  replace hns := hide hns
  clear h hv hP hL
  go_enter Tryz.func3, Tryz.ntmps3
  go_wp2_with fail
  clear hW0
  refine (awake30_any W0 hB0).mono ?_
  rintro e w1 ⟨rfl, hb1⟩
  replace hb := hb.trans (hb1.mono hb.size)
  have hT1 := hT0.out.below hb1
  have hv1 := hv0.out.below hb1
  have hB1 := hB0.below hb1
  replace k0 := k0.below hb1 k0.lt
  replace k1 := k1.below hb1 k1.lt
  have hs1 := hb1.size
  clear hT0 hv0 hb1 hB0
  have hfc := hide (few8n_any 8 A c H w1 hT1 hn hns.out)
  have c0 := k0.cell 0
  simp only [List.getElem?_toArray, List.getElem?_cons_zero, List.getElem?_cons_succ] at c0
  go_wp2_with fail
  clear c0
  refine hfc.out.mono ?_
  rintro e w2 ⟨rfl, hb2⟩
  replace hb := hb.trans (hb2.mono hb.size)
  have hT2 := hT1.below hb2
  have hv2 := hv1.below hb2
  have hB2 := hB1.below hb2
  replace k0 := k0.below hb2 k0.lt
  replace k1 := k1.below hb2 k1.lt
  have hs2 := hb2.size
  clear hT1 hv1 hb2 hfc hB1
  have hfs := hide (fewS30_any _ s w2 hv2)
  have q0 := k1.cell 0
  have q1 := k1.cell 1
  have q2 := k1.cell 2
  have q3 := k1.cell 3
  simp only [List.getElem?_toArray, List.getElem?_cons_zero, List.getElem?_cons_succ] at q0 q1 q2 q3
  go_wp2_with fail
  clear q0 q1 q2 q3
  refine hfs.out.mono ?_
  rintro e w3 ⟨rfl, hb3⟩
  replace hb := hb.trans (hb3.mono hb.size)
  have hT3 := hT2.below hb3
  have hv3 := hv2.below hb3
  have hB3 := hB2.below hb3
  replace k0 := k0.below hb3 k0.lt
  replace k1 := k1.below hb3 k1.lt
  have hs3 := hb3.size
  clear hT2 hv2 hb3 hfs hB2
  cases hf : fewN 8 H with
  | false =>
    go_wp2
    go_ret
    exact ⟨rfl, hb⟩
  | true =>
    cases hg : fewS s with
    | false =>
      go_wp2
      go_ret
      exact ⟨rfl, hb⟩
    | true =>
      have hsm := hide (fewN_small (by omega) hf)
      have hl8 := fewN_len hf
      obtain ⟨hF, hS, hp40, hl40, hr40⟩ := fewS_small hg
      have hF2 := stepW_few (level := level) hg (show H.length ≤ 40 by omega)
      replace hf := hide hf
      replace hg := hide hg
      replace hF := hide hF
      replace hS := hide hS
      replace hF2 := hide hF2
      replace hr40 := hide hr40
      have hll : s.left.length ≤ 900000 := by omega
      have q0 := k1.cell 0
      have q1 := k1.cell 1
      have q2 := k1.cell 2
      have q3 := k1.cell 3
      simp only [List.getElem?_toArray, List.getElem?_cons_zero, List.getElem?_cons_succ] at q0 q1 q2 q3
      go_wp2_with fail
      clear q0 q1 q2 q3
      refine (deep30_any _ s w3 hv3 hS.out hll).mono ?_
      rintro e w4 ⟨vp, vl, rfl, hOP, hLO, hb4⟩
      obtain ⟨Ao, co, rfl⟩ := hOP.form
      obtain ⟨Ax, cx, rfl⟩ := hLO.form
      go_upto_region 9 with fail
      obtain ⟨X4, hX4⟩ : ∃ X4, w4.alloc (.cells #[.int .i64 s.width, .bool s.cut, .slice Ao s.path.length co, .slice Ax s.left.length cx] 32) = X4 := ⟨_, rfl⟩
      rw [hX4]
      have hba := below_allocEq (Below.refl w4.heap.size w4) hX4 (Nat.le_refl _)
      have k2 := Blk.newEq hX4
      have hs4 := hb4.size
      have hbx := hb4.trans (hba.mono hs4)
      have hvr : WdS X4 (Old X4) (.agg #[.int .i64 s.width, .bool s.cut, .slice Ao s.path.length co, .slice Ax s.left.length cx]) s :=
        WdS.below ⟨_, _, rfl, hOP.sl (fun g _ h => h), hLO.rows⟩ hba
      have hT4 := hT3.below hbx
      have hv4 := hv3.below hbx
      have hB4 := hB3.below hbx
      replace k0 := k0.below hbx k0.lt
      replace k1 := k1.below hbx k1.lt
      replace hb := hb.trans (hbx.mono hb.size)
      have hsx := hba.size
      clear hX4 hba hbx hb4 hOP hLO hT3 hv3 hB3
      generalize w4.heap.size = p4 at *
      have hst := hide (step30_any A c H level (.agg #[.int .i64 s.width, .bool s.cut, .slice Ap s.path.length cp, .slice Al s.left.length cl]) s (Old X4) X4 (fun b hb => hb) hT4 hsm.out hv4 hS.out hB4)
      have c0 := k0.cell 0
      have q0 := k1.cell 0
      have q1 := k1.cell 1
      have q2 := k1.cell 2
      have q3 := k1.cell 3
      simp only [List.getElem?_toArray, List.getElem?_cons_zero, List.getElem?_cons_succ] at c0 q0 q1 q2 q3
      have hgr := hide (show stepW H level s = stepW H level s from rfl)
      obtain ⟨r, hr⟩ : ∃ r, stepW H level s = r := ⟨_, rfl⟩
      rw [hr] at hst hF2
      replace hr := hide hr
      obtain ⟨s', said, ord⟩ := r
      clear hgr
      go_wp2_with fail
      clear c0 q0 q1 q2 q3
      refine hst.out.mono ?_
      rintro e w5 ⟨v5, vo, rfl, hvt, hvo, hb5⟩
      obtain ⟨Ap', cp', Al', cl', rfl, -, -⟩ := hvt.form
      obtain ⟨Ar, cr, rfl⟩ := IntS.form hvo
      dsimp only at *
      go_upto_region 10 with fail
      obtain ⟨X5, hX5⟩ : ∃ X5, (w5.alloc (.cells #[.int .i64 s'.width, .bool s'.cut, .slice Ap' s'.path.length cp', .slice Al' s'.left.length cl'] 28)).alloc (.cells #[.int .i64 said, .slice Ar ord.length cr, .slice none 0 0, .slice none 0 0] 37) = X5 := ⟨_, rfl⟩
      rw [hX5]
      have hba := below_two hX5
      have k3 := Blk.two1 hX5
      have k4 := Blk.two2 hX5
      have hs5 := hb5.size
      have hbx := hb5.trans (hba.mono hs5)
      have hvt5 : WdS X5 (Old X5) _ s' := hvt.keep (Agree.below hba fun b hb => hb.2) (fun b hb => Nat.lt_of_lt_of_le hb.2 hba.size)
      have hvo5 : IntS X5 (Old X5) _ ord := hvo.keep (Agree.below hba fun b hb => hb.2) (fun b hb => Nat.lt_of_lt_of_le hb.2 hba.size)
      have hT5 := hT4.below hbx
      have hv5 := hv4.below hbx
      have hvr5 := hvr.below hbx
      replace k0 := k0.below hbx k0.lt
      replace k1 := k1.below hbx k1.lt
      replace k2 := k2.below hbx k2.lt
      replace hb := hb.trans (hbx.mono hb.size)
      have hsz5 := hba.size
      clear hX5 hba hbx hb5 hT4 hv4 hvr hvt hvo hst hB4
      generalize w5.heap.size = p5 at *
      have hru := hide (rstep30_any A c H level _ s X5 hT5 hsm.out hvr5 hS.out (by omega))
      rw [hr.out] at hru
      have c0 := k0.cell 0
      have q0 := k2.cell 0
      have q1 := k2.cell 1
      have q2 := k2.cell 2
      have q3 := k2.cell 3
      simp only [List.getElem?_toArray, List.getElem?_cons_zero, List.getElem?_cons_succ] at c0 q0 q1 q2 q3
      go_wp2_with fail
      clear c0 q0 q1 q2 q3
      refine hru.out.mono ?_
      rintro e w6 ⟨v6, vq, rfl, hvu, hvq, hb6⟩
      obtain ⟨Ap6, cp6, Al6, cl6, rfl, -, -⟩ := hvu.form
      obtain ⟨Aq, cq, rfl⟩ := IntS.form hvq
      dsimp only at *
      go_upto_region 11 with fail
      obtain ⟨X, hX⟩ : ∃ X, (w6.alloc (.cells #[.int .i64 s'.width, .bool s'.cut, .slice Ap6 s'.path.length cp6, .slice Al6 s'.left.length cl6] 32)).alloc (.cells #[.int .i64 said, .slice Aq ord.length cq, .slice none 0 0, .slice none 0 0] 43) = X := ⟨_, rfl⟩
      rw [hX]
      have hba := below_two hX
      have k5 := Blk.two1 hX
      have k6 := Blk.two2 hX
      have hs6 := hb6.size
      have hbx := hb6.trans (hba.mono hs6)
      have wu := hide (hvu.below hba)
      have wq := hide (hvq.below hba)
      have wT := hide (hT5.below hbx)
      have ws := hide (hv5.below hbx)
      have wr := hide (hvr5.below hbx)
      have wt := hide (hvt5.below hbx)
      have wo := hide (hvo5.below hbx)
      replace k0 := k0.below hbx k0.lt
      replace k1 := k1.below hbx k1.lt
      replace k2 := k2.below hbx k2.lt
      replace k3 := k3.below hbx k3.lt
      replace k4 := k4.below hbx k4.lt
      replace hb := hb.trans (hbx.mono hb.size)
      clear hX hba hbx hb6 hT5 hv5 hvr5 hvt5 hvo5 hvu hvq hru
      generalize w6.heap.size = p6 at *
      have hcell := hide (fun W (hW : Below X.heap.size X W) (g i : Nat) (hg : g < X.heap.size) => hW.cell (p := ⟨g, i, none⟩) hg)
      have hh0 := hide (fun W (hW : Below X.heap.size X W) => (hcell.out W hW _ 0 k0.lt).trans (k0.cell 0))
      have ss0 := hide (fun W (hW : Below X.heap.size X W) => (hcell.out W hW _ 0 k1.lt).trans (k1.cell 0))
      have ss1 := hide (fun W (hW : Below X.heap.size X W) => (hcell.out W hW _ 1 k1.lt).trans (k1.cell 1))
      have ss2 := hide (fun W (hW : Below X.heap.size X W) => (hcell.out W hW _ 2 k1.lt).trans (k1.cell 2))
      have ss3 := hide (fun W (hW : Below X.heap.size X W) => (hcell.out W hW _ 3 k1.lt).trans (k1.cell 3))
      have rr0 := hide (fun W (hW : Below X.heap.size X W) => (hcell.out W hW _ 0 k2.lt).trans (k2.cell 0))
      have rr1 := hide (fun W (hW : Below X.heap.size X W) => (hcell.out W hW _ 1 k2.lt).trans (k2.cell 1))
      have rr2 := hide (fun W (hW : Below X.heap.size X W) => (hcell.out W hW _ 2 k2.lt).trans (k2.cell 2))
      have rr3 := hide (fun W (hW : Below X.heap.size X W) => (hcell.out W hW _ 3 k2.lt).trans (k2.cell 3))
      have tt0 := hide (fun W (hW : Below X.heap.size X W) => (hcell.out W hW _ 0 k3.lt).trans (k3.cell 0))
      have tt1 := hide (fun W (hW : Below X.heap.size X W) => (hcell.out W hW _ 1 k3.lt).trans (k3.cell 1))
      have tt2 := hide (fun W (hW : Below X.heap.size X W) => (hcell.out W hW _ 2 k3.lt).trans (k3.cell 2))
      have tt3 := hide (fun W (hW : Below X.heap.size X W) => (hcell.out W hW _ 3 k3.lt).trans (k3.cell 3))
      have oo0 := hide (fun W (hW : Below X.heap.size X W) => (hcell.out W hW _ 0 k4.lt).trans (k4.cell 0))
      have oo1 := hide (fun W (hW : Below X.heap.size X W) => (hcell.out W hW _ 1 k4.lt).trans (k4.cell 1))
      have oo2 := hide (fun W (hW : Below X.heap.size X W) => (hcell.out W hW _ 2 k4.lt).trans (k4.cell 2))
      have oo3 := hide (fun W (hW : Below X.heap.size X W) => (hcell.out W hW _ 3 k4.lt).trans (k4.cell 3))
      have uu0 := hide (fun W (hW : Below X.heap.size X W) => (hcell.out W hW _ 0 k5.lt).trans (k5.cell 0))
      have uu1 := hide (fun W (hW : Below X.heap.size X W) => (hcell.out W hW _ 1 k5.lt).trans (k5.cell 1))
      have uu2 := hide (fun W (hW : Below X.heap.size X W) => (hcell.out W hW _ 2 k5.lt).trans (k5.cell 2))
      have uu3 := hide (fun W (hW : Below X.heap.size X W) => (hcell.out W hW _ 3 k5.lt).trans (k5.cell 3))
      have qq0 := hide (fun W (hW : Below X.heap.size X W) => (hcell.out W hW _ 0 k6.lt).trans (k6.cell 0))
      have qq1 := hide (fun W (hW : Below X.heap.size X W) => (hcell.out W hW _ 1 k6.lt).trans (k6.cell 1))
      have qq2 := hide (fun W (hW : Below X.heap.size X W) => (hcell.out W hW _ 2 k6.lt).trans (k6.cell 2))
      have qq3 := hide (fun W (hW : Below X.heap.size X W) => (hcell.out W hW _ 3 k6.lt).trans (k6.cell 3))
      simp only [List.getElem?_toArray, List.getElem?_cons_zero, List.getElem?_cons_succ] at hh0 ss0 ss1 ss2 ss3 rr0 rr1 rr2 rr3 tt0 tt1 tt2 tt3 oo0 oo1 oo2 oo3 uu0 uu1 uu2 uu3 qq0 qq1 qq2 qq3
      have hd1 := hide (show decide (s' = s') = true by simp)
      have hd2 := hide (show decide (s = s) = true by simp)
      have hd3 := hide (show decide ((⟨1, false, [], []⟩ : Wd) = ⟨1, false, [], []⟩) = true by simp)
      have hd4 := hide (show (said == said && decide (ord = ord)) = true by simp)
      obtain ⟨hF2a, hF2b⟩ := hF2.out
      replace hF2a := hide hF2a
      replace hF2b := hide hF2b
      have hFn : Hid (FewWd ⟨1, false, [], []⟩) := hide ⟨by simp, by simp, by simp⟩
      clear k0 k1 k2 k3 k4 k5 k6 hcell hF2 hr
      have lift := hide (fun W (hW : Below X.heap.size X W) => Agree.below (K := Old X) hW (fun b hb => hb))
      have lsz := hide (fun W (hW : Below X.heap.size X W) (b : Nat) (hb : Old X b) => (Nat.lt_of_lt_of_le hb hW.size : b < W.heap.size))
      refine wp_region_float (fun W => Below X.heap.size X W) (by kernel_rfl) (floatB_of (ms := [0, 1, 0, 7, 15, 31, 63, 31, 255, 511, 1023, 2047, 2047, 8191, 2047, 2047, 65535, 131071, 262143, 524287, 1048575, 2097151, 1048575, 8388607, 16777215, 33554431, 67108863, 134217727, 67108863, 536870911, 1073741823, 2147483647]) (by kernel_rfl)) (Below.refl _ _).drew ?_
      refine ⟨.agg #[.int .i64 s'.width, .bool s'.cut, .slice Ap' s'.path.length cp', .slice Al' s'.left.length cl'], fun W hW => (by have z0 := tt0.out W hW; have z1 := tt1.out W hW; have z2 := tt2.out W hW; have z3 := tt3.out W hW; go_wp2), ?_⟩
      refine ⟨.agg #[.int .i64 s'.width, .bool s'.cut, .slice Ap' s'.path.length cp', .slice Al' s'.left.length cl'], fun W hW => (by
        go_wp2_with fail
        refine (plain30_any _ s' (Old W) W (wt.out.keep (lift.out W hW) (lsz.out W hW))).mono ?_
        rintro e' w' ⟨rfl, hb'⟩
        replace hW := hW.trans (hb'.mono hW.size)
        go_wp2), ?_⟩
      refine ⟨.agg #[.int .i64 s'.width, .bool s'.cut, .slice Ap6 s'.path.length cp6, .slice Al6 s'.left.length cl6], fun W hW => (by have z0 := uu0.out W hW; have z1 := uu1.out W hW; have z2 := uu2.out W hW; have z3 := uu3.out W hW; go_wp2), ?_⟩
      refine ⟨.bool true, fun W hW => (by
        go_wp2_with fail
        refine (same30_any s' s' _ _ W (wt.out.keep (lift.out W hW) (lsz.out W hW)) (wu.out.keep (lift.out W hW) (lsz.out W hW)) hF2a.out hF2a.out).mono ?_
        rintro e' w' ⟨he, hb'⟩
        replace he : e' = .returned (.bool true) := by rw [he]; simp
        subst he
        replace hW := hW.trans (hb'.mono hW.size)
        go_wp2), ?_⟩
      refine ⟨.bool true, fun W hW => (by go_wp2), ?_⟩
      refine ⟨.agg #[.int .i64 said, .slice Ar ord.length cr, .slice none 0 0, .slice none 0 0], fun W hW => (by have z0 := oo0.out W hW; have z1 := oo1.out W hW; have z2 := oo2.out W hW; have z3 := oo3.out W hW; go_wp2), ?_⟩
      refine ⟨.agg #[.int .i64 said, .slice Ar ord.length cr, .slice none 0 0, .slice none 0 0], fun W hW => (by
        go_wp2_with fail
        refine (plainO30_any said Ar ord.length cr W).mono ?_
        rintro e' w' ⟨rfl, hb'⟩
        replace hW := hW.trans (hb'.mono hW.size)
        go_wp2), ?_⟩
      refine ⟨.agg #[.int .i64 said, .slice Aq ord.length cq, .slice none 0 0, .slice none 0 0], fun W hW => (by have z0 := qq0.out W hW; have z1 := qq1.out W hW; have z2 := qq2.out W hW; have z3 := qq3.out W hW; go_wp2), ?_⟩
      refine ⟨.bool true, fun W hW => (by
        go_wp2_with fail
        refine (rsame28_any said said Ar Aq cr cq ord ord W (wo.out.keep (lift.out W hW) (lsz.out W hW)) (wq.out.keep (lift.out W hW) (lsz.out W hW)) hF2b.out hF2b.out).mono ?_
        rintro e' w' ⟨he, hb'⟩
        replace he : e' = .returned (.bool true) := by rw [he]; simp
        subst he
        replace hW := hW.trans (hb'.mono hW.size)
        go_wp2), ?_⟩
      refine ⟨.bool true, fun W hW => (by go_wp2), ?_⟩
      refine ⟨.bool true, fun W hW => (by go_wp2), ?_⟩
      refine ⟨.agg #[.slice A H.length c], fun W hW => (by have z0 := hh0.out W hW; go_wp2), ?_⟩
      refine ⟨.agg #[.int .i64 s.width, .bool s.cut, .slice Ap s.path.length cp, .slice Al s.left.length cl], fun W hW => (by have z0 := ss0.out W hW; have z1 := ss1.out W hW; have z2 := ss2.out W hW; have z3 := ss3.out W hW; go_wp2), ?_⟩
      refine ⟨.bool (rightW H s), fun W hW => (by
        go_wp2_with fail
        refine (right30_any A c H _ s W (wT.out.keep (lift.out W hW) (lsz.out W hW)) hsm.out (ws.out.keep (lift.out W hW) (lsz.out W hW)) hS.out).mono ?_
        rintro e' w' ⟨rfl, hb'⟩
        replace hW := hW.trans (hb'.mono hW.size)
        go_wp2), ?_⟩
      refine ⟨.agg #[.slice A H.length c], fun W hW => (by have z0 := hh0.out W hW; go_wp2), ?_⟩
      refine ⟨.agg #[.int .i64 s.width, .bool s.cut, .slice Ao s.path.length co, .slice Ax s.left.length cx], fun W hW => (by have z0 := rr0.out W hW; have z1 := rr1.out W hW; have z2 := rr2.out W hW; have z3 := rr3.out W hW; go_wp2), ?_⟩
      refine ⟨.bool (rightW H s), fun W hW => (by
        go_wp2_with fail
        refine (rright30_any A c H _ s W (wT.out.keep (lift.out W hW) (lsz.out W hW)) hsm.out (wr.out.keep (lift.out W hW) (lsz.out W hW)) hS.out).mono ?_
        rintro e' w' ⟨rfl, hb'⟩
        replace hW := hW.trans (hb'.mono hW.size)
        go_wp2), ?_⟩
      refine ⟨.bool true, fun W hW => (by generalize rightW H s = rw1; cases rw1 <;> go_wp2), ?_⟩
      refine ⟨.bool true, fun W hW => (by go_wp2), ?_⟩
      refine ⟨.bool true, fun W hW => (by go_wp2), ?_⟩
      refine ⟨.agg #[.int .i64 s.width, .bool s.cut, .slice Ap s.path.length cp, .slice Al s.left.length cl], fun W hW => (by have z0 := ss0.out W hW; have z1 := ss1.out W hW; have z2 := ss2.out W hW; have z3 := ss3.out W hW; go_wp2), ?_⟩
      refine ⟨.agg #[.int .i64 s.width, .bool s.cut, .slice Ap s.path.length cp, .slice Al s.left.length cl], fun W hW => (by
        go_wp2_with fail
        refine (plain30_any _ s (Old W) W (ws.out.keep (lift.out W hW) (lsz.out W hW))).mono ?_
        rintro e' w' ⟨rfl, hb'⟩
        replace hW := hW.trans (hb'.mono hW.size)
        go_wp2), ?_⟩
      refine ⟨.agg #[.int .i64 s.width, .bool s.cut, .slice Ao s.path.length co, .slice Ax s.left.length cx], fun W hW => (by have z0 := rr0.out W hW; have z1 := rr1.out W hW; have z2 := rr2.out W hW; have z3 := rr3.out W hW; go_wp2), ?_⟩
      refine ⟨.bool true, fun W hW => (by
        go_wp2_with fail
        refine (same30_any s s _ _ W (ws.out.keep (lift.out W hW) (lsz.out W hW)) (wr.out.keep (lift.out W hW) (lsz.out W hW)) hF.out hF.out).mono ?_
        rintro e' w' ⟨he, hb'⟩
        replace he : e' = .returned (.bool true) := by rw [he]; simp
        subst he
        replace hW := hW.trans (hb'.mono hW.size)
        go_wp2), ?_⟩
      refine ⟨.bool true, fun W hW => (by go_wp2), ?_⟩
      refine ⟨.bool true, fun W hW => (by go_wp2), ?_⟩
      refine ⟨.agg #[.int .i64 1, .bool false, .slice none 0 0, .slice none 0 0], fun W hW => (by
        go_wp2_with fail
        refine (new30_any W).mono ?_
        rintro e' w' ⟨rfl, hb'⟩
        replace hW := hW.trans (hb'.mono hW.size)
        go_wp2), ?_⟩
      refine ⟨.agg #[.int .i64 1, .bool false, .slice none 0 0, .slice none 0 0], fun W hW => (by
        go_wp2_with fail
        refine (plain30_any _ ⟨1, false, [], []⟩ (Old W) W ⟨_, _, rfl, IntS.nil _ _ _ _, RowsS.nil _ _ _ _⟩).mono ?_
        rintro e' w' ⟨rfl, hb'⟩
        replace hW := hW.trans (hb'.mono hW.size)
        go_wp2), ?_⟩
      refine ⟨.agg #[.int .i64 1, .bool false, .slice none 0 0, .slice none 0 0], fun W hW => (by go_wp2), ?_⟩
      refine ⟨.bool true, fun W hW => (by
        go_wp2_with fail
        refine (same30_any ⟨1, false, [], []⟩ ⟨1, false, [], []⟩ _ _ W ⟨_, _, rfl, IntS.nil _ _ _ _, RowsS.nil _ _ _ _⟩ ⟨_, _, rfl, IntS.nil _ _ _ _, RowsS.nil _ _ _ _⟩ hFn.out hFn.out).mono ?_
        rintro e' w' ⟨he, hb'⟩
        replace he : e' = .returned (.bool true) := by rw [he]; simp
        subst he
        replace hW := hW.trans (hb'.mono hW.size)
        go_wp2), ?_⟩
      refine ⟨.bool true, fun W hW => (by go_wp2), ?_⟩
      refine ⟨.bool true, fun W hW => (by go_wp2), ?_⟩
      intro W9 hW9
      simp only [Act.put, List.setIfInBounds_toArray, List.set_cons_zero, List.set_cons_succ]
      go_wp2
      go_ret
      exact ⟨rfl, hb.trans (hW9.mono hb.size)⟩
end Go.Proofs.YtfodlklpfffaaaaGreatDoor
