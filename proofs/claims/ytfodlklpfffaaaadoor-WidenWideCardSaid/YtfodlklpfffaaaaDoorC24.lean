/-
  Walks: WidenWide.
-/
import Derived.Test.YtfodlklpfffaaaaDoorC21
import Derived.Test.YtfodlklpfffaaaaDoorC23
import Derived.Test.YtfodlklpfffaaaaDoorC10
set_option linter.unusedVariables false
set_option linter.unusedSimpArgs false
namespace Go.Proofs.YtfodlklpfffaaaaDoor
open Go.RowKit Go.Inq
set_option maxHeartbeats 16000000
attribute [local go_sem ↓] Go.wp_at_zero Go.wp_at_succ

/-- The law's own variable, and what it holds. -/
structure WideR (w wr : World) (A : Option Addr) (c : Nat) (H : List Txn) (g9 : Nat) (k : Nat) (s : Wd) (vp vl : Value) : Prop where
  below : Below w.heap.size w wr
  g : w.heap.size < g9
  hh : Blk wr w.heap.size 24 #[.slice A H.length c]
  b9 : Blk wr g9 30 #[.int .i64 s.width, .bool s.cut, vp, vl]
  ws : WdS wr (fun b => b < wr.heap.size ∧ b ≠ g9) (.agg #[.int .i64 s.width, .bool s.cut, vp, vl]) s
  gr : GrowW H.length k s
  w1 : 1 ≤ s.width
  w2 : s.width ≤ 32
set_option maxRecDepth 100000 in
theorem widenWide_any (A : Option Addr) (c : Nat) (H : List Txn) (level : Int) (n : Nat) (w : World) (h : TxnS w (Old w) (.slice A H.length c) H) (hn : H.length ≤ maxLen) (hns : ∀ t ∈ H, t.writes.length ≤ maxLen ∧ t.reads.length ≤ maxLen) (hn5 : n ≤ 255) (hTB : TabB w) :
    Calls Tryd.prog 3 #[.agg #[.slice A H.length c], .int .i64 level, .int .u8 (n : Int)] w fun e w' => e = .returned (.bool true) ∧ Below w.heap.size w w' := by
  have hA : Below w.heap.size w (w.alloc (.cells #[.slice A H.length c] 24)) := (Below.refl _ _).alloc (Nat.le_refl _) _
  have hT0 := h.below hA
  have kh : Blk (w.alloc (.cells #[.slice A H.length c] 24)) w.heap.size 24 #[.slice A H.length c] := Blk.new _ _ _
  replace hns := hide hns
  go_enter Tryd.func3, Tryd.ntmps3
  go_wp2_with fail
  generalize w.alloc (.cells #[.slice A H.length c] 24) = W0 at *
  refine (awake30_any W0 (hTB.below hA)).mono ?_
  rintro e w1 ⟨rfl, hb1⟩
  have hb := hA.trans (hb1.mono hA.size)
  have hT1 := hT0.below hb1
  replace kh := kh.below hb1 kh.lt
  have c0 := kh.cell 0
  simp only [List.getElem?_toArray, List.getElem?_cons_zero] at c0
  clear hT0 hA hb1
  go_wp2_with fail
  refine (few8n_any 16 A c H w1 hT1 hn hns.out).mono ?_
  rintro e w2 ⟨rfl, hb2⟩
  replace hb := hb.trans (hb2.mono hb.size)
  have hT2 := hide (hT1.below hb2)
  replace kh := kh.below hb2 kh.lt
  clear hT1 hb2 c0
  cases hf : fewN 16 H with
  | false =>
    go_wp2
    go_ret
    exact ⟨rfl, hb⟩
  | true =>
    have hsm := hide (fewN_small (by omega) hf)
    have hl16 := fewN_len hf
    replace hf := hide hf
    go_wp2_with fail
    refine (new30_any w2).mono ?_
    rintro e w3 ⟨rfl, hb3⟩
    go_upto_region 8 with fail
    obtain ⟨W9, hW9⟩ : ∃ W9, w3.alloc (.cells #[.int .i64 1, .bool false, .slice none 0 0, .slice none 0 0] 30) = W9 := ⟨_, rfl⟩
    rw [hW9]
    have hs3 := hb3.size
    have hs0 := hb.size
    have k9 := Blk.newEq hW9
    have hb9 := below_allocEq (hb3.mono (show w.heap.size ≤ w2.heap.size by omega)) hW9 (show w.heap.size ≤ w3.heap.size by omega)
    have hs9 := size_allocEq hW9
    have hR0 : Hid (WideR w W9 A c H w3.heap.size 0 ⟨1, false, [], []⟩ (.slice none 0 0) (.slice none 0 0)) := hide
      { below := hb.trans hb9
        g := by have := kh.lt; omega
        hh := (kh.below hb3 kh.lt).allocEq hW9
        b9 := k9
        ws := ⟨_, _, rfl, IntS.nil _ _ _ _, RowsS.nil _ _ _ _⟩
        gr := ⟨by simp, by simp, by simp⟩
        w1 := by decide
        w2 := by decide }
    clear hW9 k9 hb9 hb3 kh hT2 hb hs0 hs3 hs9
    generalize w3.heap.size = g9 at *
    go_wp2_with fail
    go_loopw [10] (fun s10 wr => ∃ (k : Nat) (s : Wd) (vp vl : Value), k ≤ n ∧ s10 = .int .i64 k ∧ WideR w wr A c H g9 k s vp vl) (fun s10 _ => n - (intOf s10).toNat)
    case atStart => exact ⟨0, _, _, _, Nat.zero_le _, by go_num, hR0.out⟩
    case round =>
      obtain ⟨k, s, vp, vl, hk, rfl, hR⟩ := hrel
      obtain ⟨Wr, rfl⟩ : ∃ Wr, Wr = wr := ⟨_, rfl⟩
      have hk1 : (0 : Int) ≤ (k : Int) := Int.natCast_nonneg _
      obtain ⟨Ap, cp, Al, cl, eq, -, -⟩ := hR.ws.form
      simp only [Value.agg.injEq, Array.mk.injEq, List.cons.injEq, and_true, true_and] at eq
      obtain ⟨rfl, rfl⟩ := eq
      have e0 := hR.b9.cell 0
      have e1 := hR.b9.cell 1
      have e2 := hR.b9.cell 2
      have e3 := hR.b9.cell 3
      have ch := hR.hh.cell 0
      simp only [List.getElem?_toArray, List.getElem?_cons_zero, List.getElem?_cons_succ] at e0 e1 e2 e3 ch
      have hbr := hR.below
      have hsr := hbr.size
      by_cases hlt : k < n
      · have hlt2 : decide ((k : Int) < (n : Int)) = true := by simpa using hlt
        have hTr := hide (TxnS.keep (w' := Wr) (K' := fun b => b < Wr.heap.size ∧ b ≠ g9) h (Agree.below hbr fun b hb => hb) (fun b hb => by have hb : b < w.heap.size := hb; have := hR.g; exact ⟨by omega, by omega⟩))
        have hgr := hR.gr
        have hst := hide (step30_any A c H level (.agg #[.int .i64 s.width, .bool s.cut, .slice Ap s.path.length cp, .slice Al s.left.length cl]) s (fun b => b < Wr.heap.size ∧ b ≠ g9) Wr (fun b hb => hb.1) hTr.out hsm.out hR.ws ⟨by have := hgr.1; omega, by have := hgr.2.1; omega, fun l hl => by have := hgr.2.2 l hl; omega⟩ (hTB.below hbr))
        have hnx := hide (stepW_grow (level := level) hgr)
        have hws := hide (wide_step H level s)
        generalize stepW H level s = r at *
        obtain ⟨s', said, ord⟩ := r
        dsimp only at *
        go_wp2_with fail
        refine hst.out.mono ?_
        rintro e W4 ⟨v, vo, rfl, hv, ho, hb4⟩
        obtain ⟨Ap', cp', Al', cl', rfl, -, -⟩ := hv.form
        obtain ⟨Ao, co, rfl⟩ := IntS.form ho
        dsimp only
        clear e0 e1 e2 e3 ch hst hTr ho
        go_upto_region 12 with fail
        obtain ⟨X, hX⟩ : ∃ X, (W4.alloc (.cells #[.int .i64 s'.width, .bool s'.cut, .slice Ap' s'.path.length cp', .slice Al' s'.left.length cl'] 30)).alloc (.cells #[.int .i64 said, .slice Ao ord.length co, .slice none 0 0, .slice none 0 0] 35) = X := ⟨_, rfl⟩
        rw [hX]
        have hbX := below_two hX
        have kt := Blk.two1 hX
        have ko := Blk.two2 hX
        have sX := size_two hX
        clear hX
        have hs4 := hb4.size
        have hbr4 := hb4.trans (hbX.mono hs4)
        have kh := hR.hh.below hbr4 hR.hh.lt
        have k9 := hR.b9.below hbr4 hR.b9.lt
        have hbw := hbr.trans (hbr4.mono hsr)
        have g9l := hR.b9.lt
        have hv4 := hide (hv.keep (w' := X) (K' := fun b => b < X.heap.size ∧ b ≠ g9) (Agree.below hbX fun b hb => hb.2) (fun b hb => by omega))
        have hvs := hide (hR.ws.keep (w' := X) (K' := fun b => b < X.heap.size ∧ b ≠ g9) (Agree.below hbr4 fun b hb => hb.1) (fun b hb => by omega))
        have hw1 := hR.w1
        have hw2 := hR.w2
        have hg := hR.g
        obtain ⟨hq1, hq2, hq3⟩ := hws.out
        have hq3' := hq3 ⟨hw1, hw2⟩
        clear hv hbX hq3 hws hb4 hbr4 hR hbr
        replace sX := hide sX
        generalize W4.heap.size = g4 at *
        have e0 := ko.cell 0
        have t0 := kt.cell 0
        have t1 := kt.cell 1
        have t2 := kt.cell 2
        have t3 := kt.cell 3
        have s0 := k9.cell 0
        have s1 := k9.cell 1
        have s2 := k9.cell 2
        have s3 := k9.cell 3
        simp only [List.getElem?_toArray, List.getElem?_cons_zero, List.getElem?_cons_succ] at e0 t0 t1 t2 t3 s0 s1 s2 s3
        by_cases hsd : said = 0
        · subst hsd
          have hq := hq2 rfl
          clear hq1 hq2
          have f0 := k9.frozen 0
          have f1 := k9.frozen 1
          have f2 := k9.frozen 2
          have f3 := k9.frozen 3
          have hR' : Hid (WideR w (set4 X g9 (.int .i64 s'.width) (.bool s'.cut) (.slice Ap' s'.path.length cp') (.slice Al' s'.left.length cl')) A c H g9 (k + 1) s' (.slice Ap' s'.path.length cp') (.slice Al' s'.left.length cl')) := hide
            { below := set4_below hbw (by omega)
              g := hg
              hh := set4_far kh (by omega)
              b9 := set4_blk k9
              ws := hv4.out.keep (set4_agree (fun h => h.2 rfl)) (fun b hb => by rw [set4_size]; exact hb)
              gr := hnx.out
              w1 := hq3'.1
              w2 := hq3'.2 }
          rcases hq with ⟨hwd, hle⟩ | ⟨hwd, hsc, htc, htp, htl⟩
          · rw [hwd] at t0 hR'
            have hlb : ((s'.left.length : Int) == 0) = false := by
              rw [beq_eq_false_iff_ne]
              intro e
              exact hle (List.eq_nil_of_length_eq_zero (by omega))
            have hlb2 : (s'.left.length == 0) = false := by
              rw [beq_eq_false_iff_ne]
              intro e
              exact hle (List.eq_nil_of_length_eq_zero (by omega))
            have hgt : decide (s.width > s.width) = false := by simp
            clear hwd hle kt k9 ko hv4 hvs kh hbw hgr hnx hq3'
            go_wp2
            go_roundw
            case rel => exact ⟨k + 1, s', _, _, by omega, by go_num, hR'.out⟩
            case measure => simp [intOf]; omega
          · rw [hwd] at t0 hR'
            rw [hsc] at s1
            rw [htc] at t1 hR'
            rw [htp] at t2 hR'
            rw [htl] at t3 hR'
            have g1 : (s.width + 1 != s.width) = true := by simp; omega
            have g2 : decide (s.width + 1 > s.width) = true := by simp; omega
            have g3 : (s.width + 1 == s.width) = false := by rw [beq_eq_false_iff_ne]; omega
            clear hwd hsc htc htp htl kt k9 ko hv4 hvs kh hbw hgr hnx hq3'
            go_wp2
            go_roundw
            case rel => exact ⟨k + 1, s', _, _, by omega, by go_num, hR'.out⟩
            case measure => simp [intOf]; omega
        · have hsb : (said != 0) = true := by simpa using hsd
          have hq := hide (hq1 hsd)
          clear hq1 hq2 hsd
          go_upto_region 13 with fail
          go_cut [6] (fun s6 wz => s6 = .bool true ∧ Below w.heap.size w wz)
          case first =>
            by_cases h1 : said = 1
            · have h1b : (said == 1) = true := by simpa using h1
              clear h1
              go_region
              go_wp2_with fail
              go_meet
              exact ⟨rfl, hbw.drew⟩
            · have h1b : (said == 1) = false := by simpa using h1
              have hse : Hid (s' = s) := hide (by rcases hq.out with g | g; exact absurd g h1; exact g)
              clear h1
              have hF : FewWd s := ⟨by have := hgr.1; omega, by have := hgr.2.1; omega, fun l hl => by have := hgr.2.2 l hl; omega⟩
              have hF' : FewWd s' := by rw [hse.out]; exact hF
              replace hF := hide hF
              replace hF' := hide hF'
              have lo := ko.lt
              have lt := kt.lt
              have v0 := hide (fun W (hW : Below X.heap.size X W) => (hW.cell (p := ⟨g4 + 1, 0, none⟩) lo).trans e0)
              have a0 := hide (fun W (hW : Below X.heap.size X W) => (hW.cell (p := ⟨g4, 0, none⟩) lt).trans t0)
              have a1 := hide (fun W (hW : Below X.heap.size X W) => (hW.cell (p := ⟨g4, 1, none⟩) lt).trans t1)
              have a2 := hide (fun W (hW : Below X.heap.size X W) => (hW.cell (p := ⟨g4, 2, none⟩) lt).trans t2)
              have a3 := hide (fun W (hW : Below X.heap.size X W) => (hW.cell (p := ⟨g4, 3, none⟩) lt).trans t3)
              have b0 := hide (fun W (hW : Below X.heap.size X W) => (hW.cell (p := ⟨g9, 0, none⟩) k9.lt).trans s0)
              have b1 := hide (fun W (hW : Below X.heap.size X W) => (hW.cell (p := ⟨g9, 1, none⟩) k9.lt).trans s1)
              have b2 := hide (fun W (hW : Below X.heap.size X W) => (hW.cell (p := ⟨g9, 2, none⟩) k9.lt).trans s2)
              have b3 := hide (fun W (hW : Below X.heap.size X W) => (hW.cell (p := ⟨g9, 3, none⟩) k9.lt).trans s3)
              have hd := hide (show decide (s' = s) = true by simpa using hse.out)
              clear e0 t0 t1 t2 t3 s0 s1 s2 s3
              refine wp_region_float (fun W => Below X.heap.size X W) (by kernel_rfl) (by kernel_rfl) (Below.refl _ _).drew ?_
              refine ⟨.pointer (some ⟨g4 + 1, 0, none⟩), fun W hW => (by go_wp2), ?_⟩
              refine ⟨.int .i64 said, fun W hW => (by have v0 := v0.out W hW; go_wp2), ?_⟩
              refine ⟨.bool false, fun W hW => (by go_wp2), ?_⟩
              refine ⟨.bool false, fun W hW => (by go_wp2), ?_⟩
              refine ⟨.agg #[.int .i64 s'.width, .bool s'.cut, .slice Ap' s'.path.length cp', .slice Al' s'.left.length cl'], fun W hW => (by have v0 := a0.out W hW; have v1 := a1.out W hW; have v2 := a2.out W hW; have v3 := a3.out W hW; go_wp2), ?_⟩
              refine ⟨.agg #[.int .i64 s'.width, .bool s'.cut, .slice Ap' s'.path.length cp', .slice Al' s'.left.length cl'], fun W hW => (by
                go_wp2_with fail
                refine (plain30_any _ s' (fun b => b < X.heap.size ∧ b ≠ g9) W (hv4.out.keep (Agree.below hW fun b hb => hb.1) (fun b hb => hb))).mono ?_
                rintro e' w' ⟨rfl, hb'⟩
                replace hW := hW.trans (hb'.mono hW.size)
                go_wp2), ?_⟩
              refine ⟨.agg #[.int .i64 s.width, .bool s.cut, .slice Ap s.path.length cp, .slice Al s.left.length cl], fun W hW => (by have v0 := b0.out W hW; have v1 := b1.out W hW; have v2 := b2.out W hW; have v3 := b3.out W hW; go_wp2), ?_⟩
              refine ⟨.agg #[.int .i64 s.width, .bool s.cut, .slice Ap s.path.length cp, .slice Al s.left.length cl], fun W hW => (by
                go_wp2_with fail
                refine (plain30_any _ s (fun b => b < X.heap.size ∧ b ≠ g9) W (hvs.out.keep (Agree.below hW fun b hb => hb.1) (fun b hb => hb))).mono ?_
                rintro e' w' ⟨rfl, hb'⟩
                replace hW := hW.trans (hb'.mono hW.size)
                go_wp2), ?_⟩
              refine ⟨.bool true, fun W hW => (by
                go_wp2_with fail
                refine (same30_any s' s _ _ W (hv4.out.keep (Agree.below hW fun b hb => hb.1) (fun b hb => Nat.lt_of_lt_of_le hb.1 hW.size)) (hvs.out.keep (Agree.below hW fun b hb => hb.1) (fun b hb => Nat.lt_of_lt_of_le hb.1 hW.size)) hF'.out hF.out).mono ?_
                rw [hd.out]
                rintro e' w' ⟨rfl, hb'⟩
                replace hW := hW.trans (hb'.mono hW.size)
                go_wp2), ?_⟩
              refine ⟨.bool true, fun W hW => (by go_wp2), ?_⟩
              refine ⟨.bool true, fun W hW => (by go_wp2), ?_⟩
              intro W5 hW5
              simp only [Act.put, List.setIfInBounds_toArray, List.set_cons_zero, List.set_cons_succ]
              go_wp2_with fail
              go_meet
              exact ⟨rfl, hbw.trans (hW5.mono hbw.size)⟩
          case rest =>
            obtain ⟨rfl, hbz⟩ := hcut
            go_wp2
            go_ret
            exact ⟨rfl, hbz⟩
      · obtain rfl : k = n := by omega
        have q1 : decide (s.width ≥ 1) = true := by have := hR.w1; simpa using this
        have q2 : decide (s.width ≤ 32) = true := by have := hR.w2; simpa using this
        have hbw := hR.below
        clear hR
        go_wp2
        go_ret
        exact ⟨rfl, hbw⟩
end Go.Proofs.YtfodlklpfffaaaaDoor
