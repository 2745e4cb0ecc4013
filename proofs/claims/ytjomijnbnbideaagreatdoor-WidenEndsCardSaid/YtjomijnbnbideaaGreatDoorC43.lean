/-
  Walks: WidenEnds.
-/
import Derived.Test.YtjomijnbnbideaaGreatDoorC23
import Derived.Test.YtjomijnbnbideaaGreatDoorC30
import Derived.Test.YtjomijnbnbideaaGreatDoorC42
set_option linter.unusedVariables false
set_option linter.unusedSimpArgs false
namespace Go.Proofs.YtjomijnbnbideaaGreatDoor
open Go.RowKit Go.Inq
set_option maxHeartbeats 16000000
attribute [local go_sem ↓] Go.wp_at_zero Go.wp_at_succ

/-- What is known of a state, and what was said so far. -/
def EndR (H : List Txn) (level : Int) (k : Nat) (s : Wd) (said f : Int) : Prop := (said = 0 ∧ saidN H level (1000 - k) s = f) ∨ (said ≠ 0 ∧ said = f)
theorem EndR.step {H : List Txn} {level : Int} {k : Nat} {s : Wd} {f : Int} (h : EndR H level k s 0 f) (hk : k < 1000) : EndR H level (k + 1) (stepW H level s).1 (stepW H level s).2.1 f := by
  rcases h with ⟨_, h⟩ | ⟨h, _⟩
  · rw [show 1000 - k = (1000 - (k + 1)) + 1 by omega] at h
    have h : (if (stepW H level s).2.1 = 0 then saidN H level (1000 - (k + 1)) (stepW H level s).1 else (stepW H level s).2.1) = f := h
    by_cases e : (stepW H level s).2.1 = 0
    · rw [if_pos e] at h; exact .inl ⟨e, h⟩
    · rw [if_neg e] at h; exact .inr ⟨e, h⟩
  · exact absurd rfl h
theorem EndR.last {H : List Txn} {level : Int} {s : Wd} {said f : Int} (h : EndR H level 1000 s said f) (hf : f ≠ 0) : said = f := by
  rcases h with ⟨_, h⟩ | ⟨_, h⟩
  · exact absurd h.symm hf
  · exact h
theorem EndR.said {H : List Txn} {level : Int} {k : Nat} {s : Wd} {said f : Int} (h : EndR H level k s said f) (hs : said ≠ 0) : said = f := by
  rcases h with ⟨h, _⟩ | ⟨_, h⟩
  · exact absurd h hs
  · exact h
set_option maxRecDepth 100000 in
theorem widenEnds_any (A : Option Addr) (c : Nat) (H : List Txn) (level : Int) (w : World) (h : TxnS w (Old w) (.slice A H.length c) H) (hn : H.length ≤ maxLen) (hns : ∀ t ∈ H, t.writes.length ≤ maxLen ∧ t.reads.length ≤ maxLen) (hTB : TabB w) :
    Calls Tryz.prog 3 #[.agg #[.slice A H.length c], .int .i64 level] w fun e w' => e = .returned (.bool true) ∧ Below w.heap.size w w' := by
  have hA : Below w.heap.size w (w.alloc (.cells #[.slice A H.length c] 24)) := (Below.refl _ _).alloc (Nat.le_refl _) _
  have hT0 := h.below hA
  have kh : Blk (w.alloc (.cells #[.slice A H.length c] 24)) w.heap.size 24 #[.slice A H.length c] := Blk.new _ _ _
  have hL : LenH H := ⟨hn, hns⟩
  replace hL := hide hL
  clear hn hns
  go_enter Tryz.func3, Tryz.ntmps3
  go_wp2_with fail
  generalize w.alloc (.cells #[.slice A H.length c] 24) = W0 at *
  refine (awake30_any W0 (hTB.below hA)).mono ?_
  rintro e w1 ⟨rfl, hb1⟩
  have hb := hA.trans (hb1.mono hA.size)
  have hT1 := hT0.below hb1
  replace kh := kh.below hb1 kh.lt
  have c0 := kh.cell 0
  simp only [List.getElem?_toArray, List.getElem?_cons_zero] at c0
  clear hT0 hA hb1
  have hsl := hide (rsmall22_any A c H 4 6 w1 hT1 hL.out (by omega) (by omega))
  go_wp2_with fail
  refine hsl.out.mono ?_
  rintro e w2 ⟨rfl, hb2⟩
  replace hb := hb.trans (hb2.mono hb.size)
  have hT2 := hide (hT1.below hb2)
  replace kh := kh.below hb2 kh.lt
  clear hT1 hb2 c0 hsl
  cases hf : smallB H 4 6 with
  | false =>
    go_wp2
    go_ret
    exact ⟨rfl, hb⟩
  | true =>
    have hf4 : fewN 4 H = true := by unfold smallB at hf; simp only [Bool.and_eq_true] at hf; exact hf.1.1
    have hr : rightH H = true := by unfold smallB at hf; simp only [Bool.and_eq_true] at hf; exact hf.1.2
    have hl4 := fewN_len hf4
    have hsm := hide (right_small hr)
    clear hf hf4
    replace hr := hide hr
    by_cases hlv : level = 0 ∨ level = 1
    · have hend := hide (wide_ends hr.out hlv hl4)
      have hfin : Hid (EndR H level 0 ⟨1, false, [], []⟩ 0 (if hasB H level = true then 1 else 3)) := hide (.inl ⟨rfl, hend.out⟩)
      have hlb : (level != 0) = false ∨ ((level != 0) = true ∧ (level != 1) = false) := by
        rcases hlv with rfl | rfl
        · left; rfl
        · right; exact ⟨rfl, rfl⟩
      have hl0 : Hid ((level == 0) = true → hasB H level = serB H) := hide (fun e => by
        obtain rfl : level = 0 := by simpa using e
        exact (ser_has hr.out).symm)
      go_upto_region 5 with fail
      go_cut [28] (fun s28 wz => s28 = .bool false ∧ wz = w2)
      case first =>
        rcases hlb with hlb | ⟨hlb, hlb1⟩
        all_goals
          go_wp2_with fail
          go_meet
          exact ⟨rfl, rfl⟩
      case rest =>
        obtain ⟨rfl, hwc⟩ := hcut
        subst hwc
        clear hlb hlv
        go_wp2_with fail
        refine (new30_any _).mono ?_
        rintro e w3 ⟨rfl, hb3⟩
        go_upto_region 8 with fail
        obtain ⟨W9, hW9⟩ : ∃ W9, w3.alloc (.cells #[.int .i64 1, .bool false, .slice none 0 0, .slice none 0 0] 30) = W9 := ⟨_, rfl⟩
        rw [hW9]
        have hs3 := hb3.size
        have hs0 := hb.size
        have k9 := Blk.newEq hW9
        have hb9 := below_allocEq (hb3.mono (show w.heap.size ≤ wc.heap.size by omega)) hW9 (show w.heap.size ≤ w3.heap.size by omega)
        have hs9 := size_allocEq hW9
        have hR0 : Hid (WideR w W9 A c H w3.heap.size 0 ⟨1, false, [], []⟩ (.slice none 0 0) (.slice none 0 0)) := hide
          { below := hb.trans hb9
            g := by have := kh.lt; omega
            hh := (kh.below hb3 kh.lt).allocEq hW9
            b9 := k9
            ws := ⟨_, _, rfl, IntS.nil _ _ _ _, RowsS.nil _ _ _ _⟩
            gr := ⟨by simp, by simp, by simp⟩
            w1 := by decide
            w2 := by decide }
        clear hW9 k9 hb9 hb3 kh hT2 hb hs0 hs3 hs9
        generalize w3.heap.size = g9 at *
        generalize hF : (if hasB H level = true then (1 : Int) else 3) = F at *
        have hF0 : F ≠ 0 := by rw [← hF]; split <;> decide
        replace hF := hide hF
        replace hF0 := hide hF0
        go_wp2_with fail
        go_loopw [8, 9] (fun s8 s9 wr => ∃ (k : Nat) (s : Wd) (vp vl : Value) (said : Int), k ≤ 1000 ∧ s9 = .int .i64 k ∧ s8 = .int .i64 said ∧ WideR w wr A c H g9 k s vp vl ∧ Hid (EndR H level k s said F)) (fun _ s9 _ => 1000 - (intOf s9).toNat)
        case atStart => exact ⟨0, _, _, _, 0, Nat.zero_le _, by go_num, rfl, hR0.out, hfin⟩
        case round =>
          clear hfin hR0
          obtain ⟨k, s, vp, vl, said, hk, rfl, rfl, hR, hE⟩ := hrel
          obtain ⟨Wr, rfl⟩ : ∃ Wr, Wr = wr := ⟨_, rfl⟩
          have hk1 : (0 : Int) ≤ (k : Int) := Int.natCast_nonneg _
          obtain ⟨Ap, cp, Al, cl, eq, -, -⟩ := hR.ws.form
          simp only [Value.agg.injEq, Array.mk.injEq, List.cons.injEq, and_true, true_and] at eq
          obtain ⟨rfl, rfl⟩ := eq
          have e0 := hR.b9.cell 0
          have e1 := hR.b9.cell 1
          have e2 := hR.b9.cell 2
          have e3 := hR.b9.cell 3
          have ch := hR.hh.cell 0
          simp only [List.getElem?_toArray, List.getElem?_cons_zero, List.getElem?_cons_succ] at e0 e1 e2 e3 ch
          have hbr := hR.below
          have hsr := hbr.size
          by_cases hgo : k < 1000 ∧ said = 0
          · obtain ⟨hlt, hs0⟩ := hgo
            subst hs0
            have hlt2 : decide ((k : Int) < 1000) = true := by simp; omega
            have hTr := hide (TxnS.keep (w' := Wr) (K' := fun b => b < Wr.heap.size ∧ b ≠ g9) h (Agree.below hbr fun b hb => hb) (fun b hb => by have hb : b < w.heap.size := hb; have := hR.g; exact ⟨by omega, by omega⟩))
            have hgr := hR.gr
            have hst := hide (step30_any A c H level (.agg #[.int .i64 s.width, .bool s.cut, .slice Ap s.path.length cp, .slice Al s.left.length cl]) s (fun b => b < Wr.heap.size ∧ b ≠ g9) Wr (fun b hb => hb.1) hTr.out hsm.out hR.ws ⟨by have := hgr.1; omega, by have := hgr.2.1; omega, fun l hl => by have := hgr.2.2 l hl; omega⟩ (hTB.below hbr))
            have hnx := hide (stepW_grow (level := level) hgr)
            have hws := hide (wide_step H level s)
            have hE2 := hide (hE.out.step hlt)
            generalize stepW H level s = r at *
            obtain ⟨s', said, ord⟩ := r
            dsimp only at *
            clear hE
            go_upto_region 12 with fail
            go_wp2_with fail
            refine hst.out.mono ?_
            rintro e W4 ⟨v, vo, rfl, hv, ho, hb4⟩
            obtain ⟨Ap', cp', Al', cl', rfl, -, -⟩ := hv.form
            obtain ⟨Ao, co, rfl⟩ := IntS.form ho
            dsimp only
            clear e0 e1 e2 e3 ch hst hTr ho
            go_upto_region 13 with fail
            obtain ⟨X, hX⟩ : ∃ X, (W4.alloc (.cells #[.int .i64 s'.width, .bool s'.cut, .slice Ap' s'.path.length cp', .slice Al' s'.left.length cl'] 30)).alloc (.cells #[.int .i64 said, .slice Ao ord.length co, .slice none 0 0, .slice none 0 0] 35) = X := ⟨_, rfl⟩
            rw [hX]
            have hbX := below_two hX
            have kt := Blk.two1 hX
            have ko := Blk.two2 hX
            have sX := size_two hX
            clear hX
            have hs4 := hb4.size
            have hbr4 := hb4.trans (hbX.mono hs4)
            have kh := hR.hh.below hbr4 hR.hh.lt
            have k9 := hR.b9.below hbr4 hR.b9.lt
            have hbw := hbr.trans (hbr4.mono hsr)
            have g9l := hR.b9.lt
            have hv4 := hide (hv.keep (w' := X) (K' := fun b => b < X.heap.size ∧ b ≠ g9) (Agree.below hbX fun b hb => hb.2) (fun b hb => by omega))
            have hw1 := hR.w1
            have hw2 := hR.w2
            have hg := hR.g
            have hq3 := hws.out.2.2 ⟨hw1, hw2⟩
            clear hv hbX hws hb4 hbr4 hR hbr
            replace sX := hide sX
            generalize W4.heap.size = g4 at *
            have e0 := ko.cell 0
            have t0 := kt.cell 0
            have t1 := kt.cell 1
            have t2 := kt.cell 2
            have t3 := kt.cell 3
            have s0 := k9.cell 0
            have s1 := k9.cell 1
            have s2 := k9.cell 2
            have s3 := k9.cell 3
            simp only [List.getElem?_toArray, List.getElem?_cons_zero, List.getElem?_cons_succ] at e0 t0 t1 t2 t3 s0 s1 s2 s3
            have f0 := k9.frozen 0
            have f1 := k9.frozen 1
            have f2 := k9.frozen 2
            have f3 := k9.frozen 3
            have hR' : Hid (WideR w (set4 X g9 (.int .i64 s'.width) (.bool s'.cut) (.slice Ap' s'.path.length cp') (.slice Al' s'.left.length cl')) A c H g9 (k + 1) s' (.slice Ap' s'.path.length cp') (.slice Al' s'.left.length cl')) := hide
              { below := set4_below hbw (by omega)
                g := hg
                hh := set4_far kh (by omega)
                b9 := set4_blk k9
                ws := hv4.out.keep (set4_agree (fun h => h.2 rfl)) (fun b hb => by rw [set4_size]; exact hb)
                gr := hnx.out
                w1 := hq3.1
                w2 := hq3.2 }
            clear kt k9 ko hv4 kh hbw hgr hnx hq3
            go_wp2
            go_roundw
            case rel => exact ⟨k + 1, s', _, _, said, by omega, by go_num, rfl, hR'.out, hE2⟩
            case measure => simp [intOf]; omega
          · have hsF : said = F := by
              by_cases e : said = 0
              · have e2 : k = 1000 := by
                  rcases Nat.lt_or_ge k 1000 with g | g
                  · exact absurd ⟨g, e⟩ hgo
                  · omega
                have := hE.out
                rw [e2] at this
                exact this.last hF0.out
              · exact hE.out.said e
            have hways : decide ((k : Int) < 1000) = false ∨ (decide ((k : Int) < 1000) = true ∧ (said == 0) = false) := by
              by_cases g : k < 1000
              · refine .inr ⟨by simp; omega, ?_⟩
                rw [beq_eq_false_iff_ne]
                intro e
                exact hgo ⟨g, e⟩
              · exact .inl (by simp; omega)
            have hTr := h.below hbr
            have hhs := hide (rhas21_any A c H level Wr hTr hr.out hsm.out)
            have hhs2 := hide (fun W (hb : Below Wr.heap.size Wr W) => rhas20_any A c H W (hTr.below hb) hr.out hsm.out)
            have kh := hR.hh
            obtain ⟨q, hq⟩ : ∃ q, hasB H level = q := ⟨_, rfl⟩
            rw [hq] at hhs hF hl0
            have hF2 : said = (if q = true then (1 : Int) else 3) := by rw [hsF]; exact hF.out.symm
            clear hsF hgo hE hR hq hF hF0 e0 e1 e2 e3 hTr
            have hlq : (level == 0) = false ∨ ((level == 0) = true ∧ Hid (serB H = q)) := by
              cases e : level == 0 with
              | false => exact .inl rfl
              | true => exact .inr ⟨rfl, hide (hl0.out e).symm⟩
            clear hl0
            replace h := hide h
            have hz : (q = true ∧ said = 1) ∨ (q = false ∧ said = 3) := by
              cases q
              · exact .inr ⟨rfl, hF2⟩
              · exact .inl ⟨rfl, hF2⟩
            clear hF2
            rcases hz with ⟨rfl, rfl⟩ | ⟨rfl, rfl⟩
            all_goals
              rcases hways with hw1 | ⟨hw1, -⟩
              all_goals
                go_wp2_with fail
                refine hhs.out.mono ?_
                rintro e w5 ⟨rfl, hb5⟩
                have kh5 := kh.below hb5 kh.lt
                have ch5 := kh5.cell 0
                simp only [List.getElem?_toArray, List.getElem?_cons_zero] at ch5
                have hb6 := hbr.trans (hb5.mono hbr.size)
                have hhs3 := hide (hhs2.out w5 hb5)
                clear hhs hhs2 ch
                rcases hlq with hlq | ⟨hlq, hsr⟩
                · go_wp2
                  go_ret
                  exact ⟨rfl, hb6⟩
                · rw [hsr.out] at hhs3
                  clear hsr
                  go_wp2_with fail
                  refine hhs3.out.mono ?_
                  rintro e w6 ⟨rfl, hb7⟩
                  go_wp2
                  go_ret
                  exact ⟨rfl, hb6.trans (hb7.mono hb6.size)⟩
    · have h0 : (level != 0) = true := by rw [bne_iff_ne]; omega
      have h1 : (level != 1) = true := by rw [bne_iff_ne]; omega
      clear hlv
      go_wp2
      go_ret
      exact ⟨rfl, hb⟩
end Go.Proofs.YtjomijnbnbideaaGreatDoor
