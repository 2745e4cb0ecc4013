/-
  Plain words for ScreenAll; no program in sight.
-/
import Derived.Lib.SmallJoins
import Derived.Test.YtjomijnbnbideaaGreatDoorS33
import Derived.Test.YtjomijnbnbideaaGreatDoorS31
import Derived.Test.YtjomijnbnbideaaGreatDoorS04
set_option linter.unusedVariables false
set_option linter.unusedSimpArgs false
namespace Go.Proofs.YtjomijnbnbideaaGreatDoor
open Go.RowKit Go.Inq
set_option maxHeartbeats 1000000

theorem rightC_nil (H : List Txn) : rightC H [] = rightH H := by unfold rightC; simp
theorem scr_facts (H : List Txn) (level : Int) : (scrH H level).facts = [] ∨ (scrH H level).facts = plainL H level (pairsL H) := by
  unfold scrH
  split
  · split
    · split
      · exact .inl rfl
      · exact .inr rfl
    · exact .inl rfl
  · exact .inl rfl
theorem scr_flen {H : List Txn} {level : Int} : (scrH H level).facts.length ≤ 40000 := by
  by_cases hr : rightH H = true
  · rcases scr_facts H level with e | e
    · rw [e]; simp
    · rw [e]
      have := plainL_len H level (pairsL H)
      have := pairsL_len hr
      omega
  · rw [scr_bad (by rw [rightC_nil]; simp [hr])]; simp
theorem scr_once (H : List Txn) (level : Int) : (scrH H level).facts.Pairwise (fun x y => x.1 ≠ y.1) := by
  rcases scr_facts H level with e | e
  · rw [e]; exact List.Pairwise.nil
  · rw [e]; exact plainL_once
/-- What is said of a choice that is told nowhere. -/
theorem scr_all {H : List Txn} {level : Int} {f : Fct} (hs : (scrH H level).said = 3) (hk : f.kind = 1 ∨ f.kind = 3) (hno : ((scrH H level).facts.any fun x => decide (x.1 = f.c)) = false) : holdsB H level [] f = false := by
  rw [← Bool.not_eq_true]
  intro hh
  have hmay : mayB H level = true := by unfold holdsB at hh; simp only [Bool.and_eq_true] at hh; exact hh.1.1.1
  have hg : (rightC H [] && (decide (level = 0) || decide (level = 1))) = true := by rw [rightC_nil]; exact hmay
  have hone : oneB H f.c = true := by unfold holdsB at hh; simp only [Bool.and_eq_true] at hh; exact hh.1.1.2
  have hp : pairsL H ≠ [] := fun e => by
    rcases one_pair hone with h | h
    · rw [e] at h; cases h
    · rw [e] at h; cases h
  have hf : (scrH H level).facts = plainL H level (pairsL H) := by
    unfold scrH at hs ⊢
    rw [hg, if_pos rfl] at hs ⊢
    by_cases h2 : findL H.length (fullE H level []) = []
    · rw [if_pos h2, if_neg hp] at hs ⊢
    · rw [if_neg h2] at hs; simp at hs
  obtain ⟨x, hx, e⟩ := plainL_in hk hh
  rw [hf, List.any_eq_false] at hno
  exact hno x hx (by simp [e])
end Go.Proofs.YtjomijnbnbideaaGreatDoor

namespace Go.Proofs.YtjomijnbnbideaaGreatDoor
open Go.RowKit Go.Inq
set_option maxHeartbeats 8000000
attribute [local go_sem ↓] Go.wp_at_zero Go.wp_at_succ

theorem any_snoc {α : Type} {p : α → Bool} {l : List α} {i : Nat} (hi : i < l.length) : (l.take (i + 1)).any p = ((l.take i).any p || p l[i]) := by
  rw [take_snoc' hi, List.any_append]; simp
set_option maxRecDepth 100000 in
theorem screenAll_any (A : Option Addr) (c : Nat) (H : List Txn) (level : Int) (f : Fct) (Ac : Option Addr) (cc : Nat) (w : World) (h : TxnS w (Old w) (.slice A H.length c) H) (hn : H.length ≤ maxLen) (hns : ∀ t ∈ H, t.writes.length ≤ maxLen ∧ t.reads.length ≤ maxLen) (hTB : TabB w) :
    Calls Tryz.prog 5 #[.agg #[.slice A H.length c], .int .i64 level, .agg #[.int .i64 f.c.key, .int .i64 f.c.a, .int .i64 f.c.b, .int .i64 f.kind, .int .i64 f.i, .int .i64 f.j, .slice Ac f.cyc.length cc]] w fun e w' => e = .returned (.bool true) ∧ Below w.heap.size w w' := by
  have hhol := hide (fun W (hT : TxnS W (Old W) (.slice A H.length c) H) (hsm : SmallH H) hk => holds22_any A c H level none 0 0 [] f Ac cc W hT hsm hk)
  have hall := hide (fun h1 h2 h3 => scr_all (H := H) (level := level) (f := f) h1 h2 h3)
  obtain ⟨fc, fk, fi, fj, fy⟩ := f
  obtain ⟨xk, xa, xb⟩ := fc
  dsimp only at hhol ⊢
  obtain ⟨W0, hW0⟩ : ∃ W0, (w.alloc (.cells #[.slice A H.length c] 24)).alloc (.cells #[.int .i64 xk, .int .i64 xa, .int .i64 xb, .int .i64 fk, .int .i64 fi, .int .i64 fj, .slice Ac fy.length cc] 51) = W0 := ⟨_, rfl⟩
  have hA := below_two hW0
  have kh := Blk.two1 hW0
  have kf := Blk.two2 hW0
  have hT0 := h.below hA
  replace hn := hide hn
  replace hns := hide hns
  replace h := hide h
  go_enter Tryz.func5, Tryz.ntmps5
  go_wp2_with fail
  clear hW0
  refine (awake28_any W0 (hTB.below hA)).mono ?_
  rintro e w1 ⟨rfl, hb1⟩
  have hb := hA.trans (hb1.mono hA.size)
  have hT1 := hT0.below hb1
  replace kh := kh.below hb1 kh.lt
  replace kf := kf.below hb1 kf.lt
  have c0 := kh.cell 0
  simp only [List.getElem?_toArray, List.getElem?_cons_zero] at c0
  clear hT0 hA hb1
  go_wp2_with fail
  refine (few8n_any 12 A c H w1 hT1 hn.out hns.out).mono ?_
  rintro e w2 ⟨rfl, hb2⟩
  replace hb := hb.trans (hb2.mono hb.size)
  have hT2 := hide (hT1.below hb2)
  replace kh := kh.below hb2 kh.lt
  replace kf := kf.below hb2 kf.lt
  have f6 := kf.cell 6
  simp only [List.getElem?_toArray, List.getElem?_cons_zero, List.getElem?_cons_succ] at f6
  clear hT1 hb2 c0 hn hns
  cases hf : fewN 12 H with
  | false =>
    go_wp2
    go_ret
    exact ⟨rfl, hb⟩
  | true =>
    have hsm := hide (fewN_small (by omega) hf)
    clear hf
    have c0 := kh.cell 0
    simp only [List.getElem?_toArray, List.getElem?_cons_zero] at c0
    by_cases hcy : 20 < fy.length
    · have hgt : (20 : Int) < (fy.length : Int) := by omega
      go_wp2
      go_ret
      exact ⟨rfl, hb⟩
    · have hgt : ¬ (20 : Int) < (fy.length : Int) := by omega
      clear hcy
      go_wp2_with fail
      refine (step28_any A c H level w2 hT2.out hsm.out (hTB.below hb)).mono ?_
      rintro e w3 ho
      obtain ⟨Ao, no, co, At, nt, ct, Af, nf, cf, hno, hnt, hnf, rfl, v3, b3⟩ := ho.v
      clear ho c0 f6 hno hnt hgt
      obtain ⟨W4, hX, q, bX⟩ := ScrB.made v3
      clear v3
      replace hX := hide hX
      dsimp only at hX ⊢
      replace hnf := hide hnf
      go_upto_region 8 with fail
      rw [hX.out]
      have b4 := b3.trans (bX.mono b3.size)
      have hT4 := hide (hT2.out.below b4)
      replace kh := kh.below b4 kh.lt
      replace kf := kf.below b4 kf.lt
      replace hb := hb.trans (b4.mono hb.size)
      have c0 := kh.cell 0
      obtain ⟨vo, vt, vf, k7, -, -, x7⟩ := q
      obtain ⟨A7, c7, rfl⟩ := own_slice x7
      have hfl := scr_flen (H := H) (level := level)
      have hon := hide (scr_once H level)
      replace x7 := hide x7
      clear hX bX b4 b3 hT2 hnf
      replace k7 := hide k7
      replace kh := hide kh
      replace kf := hide kf
      have hsa := hide (scr_said H level)
      generalize (scrH H level).facts = L at *
      generalize (scrH H level).said = sd at *
      have g7l := k7.out.lt
      have gfl := kf.out.lt
      generalize w3.heap.size = g7 at *
      go_upto_region 10 with fail
      go_loopw [10, 11] (fun s10 s11 wr => ∃ i : Nat, i ≤ L.length ∧ s11 = .int .i64 i ∧ s10 = .bool ((L.take i).any fun x => decide (x.1 = ⟨xk, xa, xb⟩)) ∧ Below W4.heap.size W4 wr) (fun _ s11 _ => L.length - (intOf s11).toNat)
      case atStart => exact ⟨0, Nat.zero_le _, by go_num, by simp, Below.refl _ _⟩
      case round =>
        obtain ⟨i, hi, rfl, rfl, hbr⟩ := hrel
        obtain ⟨Wr, rfl⟩ : ∃ Wr, Wr = wr := ⟨_, rfl⟩
        have hi1 : (0 : Int) ≤ (i : Int) := Int.natCast_nonneg _
        have k7r := k7.out.below hbr k7.out.lt
        have kfr := kf.out.below hbr kf.out.lt
        have x7r := hide (show OwnX Wr 0 _ L from own_below x7.out hbr (Nat.le_refl _))
        have e3 := k7r.cell 3
        simp only [List.getElem?_toArray, List.getElem?_cons_zero, List.getElem?_cons_succ] at e3
        by_cases hlt : i < L.length
        · have hi2 : (i : Int) < (L.length : Int) := by omega
          have hst := hide (any_snoc (p := fun x : Cho × Option Nat => decide (x.1 = ⟨xk, xa, xb⟩)) hlt)
          obtain ⟨b, off, rfl, d0, d1, d2, -⟩ := x7r.out.at_ hlt
          have hpw := hide (fun k hk => List.pairwise_iff_getElem.1 hon.out k i (by omega) hlt hk)
          have f0 := kfr.cell 0
          have f1 := kfr.cell 1
          have f2 := kfr.cell 2
          simp only [List.getElem?_toArray, List.getElem?_cons_zero, List.getElem?_cons_succ] at f0 f1 f2
          go_upto_region 12 with fail
          go_cut [10] (fun s10 wz => s10 = .bool ((L.take (i + 1)).any fun x => decide (x.1 = ⟨xk, xa, xb⟩)) ∧ Below W4.heap.size W4 wz)
          case first =>
            generalize (L.take i).any (fun x => decide (x.1 = ⟨xk, xa, xb⟩)) = ip at *
            generalize L[i] = y at *
            obtain ⟨⟨yk, ya, yb⟩, y2⟩ := y
            dsimp only at d0 d1 d2 hst
            rw [cho_eq] at hst
            dsimp only at hst
            clear hpw k7r kfr x7r
            cases ip with
            | true =>
              have hr := hide (show true = _ from (hst.out.trans (Bool.true_or _)).symm)
              clear hst
              go_wp2
              go_quiet (fail)
              go_wp2
              go_meet
              exact ⟨congrArg Value.bool hr.out, hbr.trans ⟨rfl, rfl, rfl, Nat.le_refl _, fun _ _ => rfl⟩⟩
            | false =>
              by_cases q0 : yk = xk
              · have q0b : (yk == xk) = true := by simpa using q0
                by_cases q1 : ya = xa
                · have q1b : (ya == xa) = true := by simpa using q1
                  by_cases q2 : yb = xb
                  · have q2b : (yb == xb) = true := by simpa using q2
                    have hr := hide (show true = _ from (hst.out.trans (by simp [q0, q1, q2])).symm)
                    clear q0 q1 q2 hst
                    go_wp2
                    go_quiet (fail)
                    go_wp2
                    go_meet
                    exact ⟨congrArg Value.bool hr.out, hbr.trans ⟨rfl, rfl, rfl, Nat.le_refl _, fun _ _ => rfl⟩⟩
                  · have q2b : (yb == xb) = false := by simpa using q2
                    have hr := hide (show false = _ from (hst.out.trans (by simp [q2])).symm)
                    clear q0 q1 q2 hst
                    go_wp2
                    go_quiet (fail)
                    go_wp2
                    go_meet
                    exact ⟨congrArg Value.bool hr.out, hbr.trans ⟨rfl, rfl, rfl, Nat.le_refl _, fun _ _ => rfl⟩⟩
                · have q1b : (ya == xa) = false := by simpa using q1
                  have hr := hide (show false = _ from (hst.out.trans (by simp [q1])).symm)
                  clear q0 q1 hst
                  go_wp2
                  go_quiet (fail)
                  go_wp2
                  go_meet
                  exact ⟨congrArg Value.bool hr.out, hbr.trans ⟨rfl, rfl, rfl, Nat.le_refl _, fun _ _ => rfl⟩⟩
              · have q0b : (yk == xk) = false := by simpa using q0
                have hr := hide (show false = _ from (hst.out.trans (by simp [q0])).symm)
                clear q0 hst
                go_wp2
                go_quiet (fail)
                go_wp2
                go_meet
                exact ⟨congrArg Value.bool hr.out, hbr.trans ⟨rfl, rfl, rfl, Nat.le_refl _, fun _ _ => rfl⟩⟩
          case rest =>
            obtain ⟨rfl, hbc⟩ := hcut
            clear e3 d0 d1 d2 f0 f1 f2 k7r kfr x7r hbr hst
            go_upto_region 14 with fail
            go_loopw [12] (fun s12 wr => ∃ k : Nat, k ≤ i ∧ s12 = .int .i64 k ∧ Below W4.heap.size W4 wr) (fun s12 _ => i - (intOf s12).toNat)
            case atStart => exact ⟨0, Nat.zero_le _, by go_num, hbc⟩
            case round =>
              obtain ⟨k, hk, rfl, hbr⟩ := hrel
              obtain ⟨Wq, rfl⟩ : ∃ Wq, Wq = wr := ⟨_, rfl⟩
              have hk1 : (0 : Int) ≤ (k : Int) := Int.natCast_nonneg _
              by_cases hkt : k < i
              · have hk2 : (k : Int) < (i : Int) := by omega
                have hk3 : (k : Int) < (L.length : Int) := by omega
                have k7r := k7.out.below hbr k7.out.lt
                have x7r := hide (show OwnX Wq 0 _ L from own_below x7.out hbr (Nat.le_refl _))
                have e3 := k7r.cell 3
                simp only [List.getElem?_toArray, List.getElem?_cons_zero, List.getElem?_cons_succ] at e3
                obtain ⟨b1, off1, he1, d0, d1, d2, -⟩ := x7r.out.at_ hlt
                obtain ⟨b2, off2, he2, a0, a1, a2, -⟩ := x7r.out.at_ (i := k) (by omega)
                obtain ⟨rfl, rfl⟩ : b1 = b ∧ off1 = off := by simp at he1; exact ⟨he1.1.symm, he1.2.symm⟩
                obtain ⟨rfl, rfl⟩ : b2 = b1 ∧ off2 = off1 := by simp at he2; exact ⟨he2.1.symm, he2.2.symm⟩
                have hne := hpw.out k hkt
                generalize L[i] = y at *
                generalize L[k] = z at *
                obtain ⟨⟨yk, ya, yb⟩, y2⟩ := y
                obtain ⟨⟨zk, za, zb⟩, z2⟩ := z
                dsimp only at d0 d1 d2 a0 a1 a2 hne
                simp only [ne_eq, Cho.mk.injEq, not_and] at hne
                clear he1 he2 hbc
                by_cases q0 : zk = yk
                · have q0b : (zk == yk) = true := by simpa using q0
                  by_cases q1 : za = ya
                  · have q1b : (za == ya) = true := by simpa using q1
                    have q2b : (zb == yb) = false := by simpa using hne q0 q1
                    clear q0 q1 hne
                    go_wp2
                    go_quiet (fail)
                    go_wp2
                    go_roundw
                    case rel => exact ⟨k + 1, by omega, by go_num, hbr.trans ⟨rfl, rfl, rfl, Nat.le_refl _, fun _ _ => rfl⟩⟩
                    case measure => simp [intOf]; omega
                  · have q1b : (za == ya) = false := by simpa using q1
                    clear q0 q1 hne
                    go_wp2
                    go_quiet (fail)
                    go_wp2
                    go_roundw
                    case rel => exact ⟨k + 1, by omega, by go_num, hbr.trans ⟨rfl, rfl, rfl, Nat.le_refl _, fun _ _ => rfl⟩⟩
                    case measure => simp [intOf]; omega
                · have q0b : (zk == yk) = false := by simpa using q0
                  clear q0 hne
                  go_wp2
                  go_quiet (fail)
                  go_wp2
                  go_roundw
                  case rel => exact ⟨k + 1, by omega, by go_num, hbr.trans ⟨rfl, rfl, rfl, Nat.le_refl _, fun _ _ => rfl⟩⟩
                  case measure => simp [intOf]; omega
              · obtain rfl : k = i := by omega
                go_wp2
                go_roundw
                case rel => exact ⟨k + 1, by omega, by go_num, rfl, hbr⟩
                case measure => simp [intOf]; omega
        · obtain rfl : i = L.length := by omega
          rw [List.take_length]
          have hbw := hb.trans (hbr.mono hb.size)
          have hTr := hide (hT4.out.below hbr)
          have khr := kh.out.below hbr kh.out.lt
          have c0 := khr.cell 0
          have e0 := k7r.cell 0
          have f0 := kfr.cell 0
          have f1 := kfr.cell 1
          have f2 := kfr.cell 2
          have f3 := kfr.cell 3
          have f4 := kfr.cell 4
          have f5 := kfr.cell 5
          have f6 := kfr.cell 6
          simp only [List.getElem?_toArray, List.getElem?_cons_zero, List.getElem?_cons_succ] at c0 e0 f0 f1 f2 f3 f4 f5 f6
          have hho := hide (fun hk => hhol.out Wr hTr.out hsm.out hk)
          have hsa := hsa.out
          obtain ⟨ip, hip⟩ : ∃ ip, (L.any fun x => decide (x.1 = ⟨xk, xa, xb⟩)) = ip := ⟨_, rfl⟩
          rw [hip] at hall
          rw [hip]
          clear hip k7r kfr khr x7r hhol hon hTr hT4 kf kh k7 x7 hi
          rcases hsa with rfl | rfl | rfl
          · clear hall hho
            go_wp2
            go_ret
            exact ⟨rfl, hbw⟩
          · clear hall hho
            go_wp2
            go_ret
            exact ⟨rfl, hbw⟩
          · by_cases hk1 : fk = 1
            · subst hk1
              replace hho := hide (hho.out (.inl rfl))
              replace hall := hide (hall.out rfl (.inl rfl))
              cases ip with
              | true =>
                clear hall hho
                go_wp2
                go_ret
                exact ⟨rfl, hbw⟩
              | false =>
                rw [hall.out rfl] at hho
                clear hall
                go_wp2_with fail
                refine Calls.mono hho.out ?_
                rintro e w9 ⟨rfl, b9⟩
                go_wp2
                go_ret
                exact ⟨rfl, hbw.trans (b9.mono hbw.size)⟩
            · by_cases hk3 : fk = 3
              · subst hk3
                replace hho := hide (hho.out (.inr rfl))
                replace hall := hide (hall.out rfl (.inr rfl))
                clear hk1
                cases ip with
                | true =>
                  clear hall hho
                  go_wp2
                  go_ret
                  exact ⟨rfl, hbw⟩
                | false =>
                  rw [hall.out rfl] at hho
                  clear hall
                  go_wp2_with fail
                  refine Calls.mono hho.out ?_
                  rintro e w9 ⟨rfl, b9⟩
                  go_wp2
                  go_ret
                  exact ⟨rfl, hbw.trans (b9.mono hbw.size)⟩
              · have hk1b : (fk != 1) = true := by rw [bne_iff_ne]; exact hk1
                have hk3b : (fk != 3) = true := by rw [bne_iff_ne]; exact hk3
                clear hk1 hk3 hall hho
                go_wp2
                go_ret
                exact ⟨rfl, hbw⟩
end Go.Proofs.YtjomijnbnbideaaGreatDoor

namespace Go.Proofs.YtjomijnbnbideaaGreatDoor
open Go.Joins Go.ChangeShapes Go.WideShapes Go.ChangeAt Go.RowKit Go.Deep Go.Inq
/-- A fact's cells. -/
def FctR (w : World) (K : Nat → Prop) (cs : List Value) (f : Fct) : Prop := ∃ A c, cs = [.int .i64 f.c.key, .int .i64 f.c.a, .int .i64 f.c.b, .int .i64 f.kind, .int .i64 f.i, .int .i64 f.j, .slice A f.cyc.length c] ∧ IntS w K (.slice A f.cyc.length c) f.cyc
theorem FctR.stab : Stab FctR := fun _ _ _ _ _ _ h ha hk => by
  obtain ⟨A, c, h1, h2⟩ := h
  exact ⟨A, c, h1, IntS.keep h2 ha hk⟩
def FctS (w : World) (K : Nat → Prop) (v : Value) (l : List Fct) : Prop := SlR 7 FctR w K v l
section
variable {H : Type} {enc : TypeId × Value → H} {w : World} {base : Nat} {spare : Nat → Bool} {held : Bool}
theorem trod_struct5 {P : Program} {t : TypeId} {f0 f1 f2 f3 f4 : Field} {fuel : Nat} {cs : List Value} {x : DataW H × List MemPlace} (ht : P.underlying t = some (.struct #[f0, f1, f2, f3, f4])) (h : DataW.trod enc P w base spare held fuel t cs = some x) :
    ∃ y0 y1 y2 y3 y4 n, cs.length = P.cellsOf t ∧ DataW.trod enc P w base spare held n f0.type ((cs.drop f0.offset).take (P.cellsOf f0.type)) = some y0 ∧
      DataW.trod enc P w base spare held n f1.type ((cs.drop f1.offset).take (P.cellsOf f1.type)) = some y1 ∧ DataW.trod enc P w base spare held n f2.type ((cs.drop f2.offset).take (P.cellsOf f2.type)) = some y2 ∧
      DataW.trod enc P w base spare held n f3.type ((cs.drop f3.offset).take (P.cellsOf f3.type)) = some y3 ∧ DataW.trod enc P w base spare held n f4.type ((cs.drop f4.offset).take (P.cellsOf f4.type)) = some y4 := by
  obtain ⟨xs, n, _, rfl, hl, hlen, hf⟩ := DataW.trod_struct ht h
  match xs, hlen with
  | [y0, y1, y2, y3, y4], _ => exact ⟨y0, y1, y2, y3, y4, n, hl, by simpa using hf 0 f0 rfl, by simpa using hf 1 f1 rfl, by simpa using hf 2 f2 rfl, by simpa using hf 3 f3 rfl, by simpa using hf 4 f4 rfl⟩
theorem open_cho {n : Nat} {a b c : Value} {x : DataW H × List MemPlace} (h : DataW.trod enc Tryz.prog w base spare held n 49 [a, b, c] = some x) : ∃ d : Cho, [a, b, c] = [.int .i64 d.key, .int .i64 d.a, .int .i64 d.b] := by
  obtain ⟨y0, y1, y2, n', _, hl, h0, h1, h2⟩ := trod_struct3 Tryz.underlying49 h
  have e1 : Tryz.prog.cellsOf 3 = 1 := by kernel_rfl
  simp only [e1] at h0 h1 h2
  obtain ⟨k0, g0, _⟩ := DataW.trod_int Tryz.underlying3 h0
  obtain ⟨k1, g1, _⟩ := DataW.trod_int Tryz.underlying3 h1
  obtain ⟨k2, g2, _⟩ := DataW.trod_int Tryz.underlying3 h2
  simp at g0 g1 g2
  exact ⟨⟨k0, k1, k2⟩, by rw [g0, g1, g2]⟩
/-- A fact. -/
theorem open_fact {n : Nat} {cs : List Value} {x : DataW H × List MemPlace} (hC : Tryz.prog.cellsOf 51 = 7) (h : DataW.trod enc Tryz.prog w base spare held n 51 cs = some x) : ∃ f : Fct, FctR w (Old w) cs f := by
  obtain ⟨y0, y1, y2, y3, y4, n', hl, h0, h1, h2, h3, h4⟩ := trod_struct5 Tryz.underlying51 h
  rw [hC] at hl
  have e1 : Tryz.prog.cellsOf 3 = 1 := by kernel_rfl
  have e2 : Tryz.prog.cellsOf 49 = 3 := by kernel_rfl
  have e3 : Tryz.prog.cellsOf 27 = 1 := by kernel_rfl
  simp only [e1, e2, e3] at h0 h1 h2 h3 h4
  match cs, hl with
  | [a, b, c, d, e, f, g], _ =>
    obtain ⟨ch, hch⟩ := open_cho (a := a) (b := b) (c := c) (by simpa using h0)
    simp only [List.cons.injEq, and_true] at hch
    obtain ⟨k1, g1, _⟩ := DataW.trod_int Tryz.underlying3 h1
    obtain ⟨k2, g2, _⟩ := DataW.trod_int Tryz.underlying3 h2
    obtain ⟨k3, g3, _⟩ := DataW.trod_int Tryz.underlying3 h3
    simp at g1 g2 g3
    have h4' : DataW.trod enc Tryz.prog w base spare held n' 27 [g] = some y4 := by simpa using h4
    obtain ⟨A, c', l, hv, hev, _⟩ := open_nums h4'
    exact ⟨⟨ch, k1, k2, k3, l⟩, A, c', by rw [hch.1, hch.2.1, hch.2.2, g1, g2, g3, hv], hev⟩
/-- Some facts. -/
theorem open_facts {n : Nat} {v : Value} {x : DataW H × List MemPlace} (h : DataW.trod enc Tryz.prog w base spare held n 33 [v] = some x) :
    ∃ (A : Option Addr) (c : Nat) (l : List Fct), v = .slice A l.length c ∧ FctS w (Old w) (.slice A l.length c) l ∧ l.length ≤ maxLen := by
  obtain ⟨A, c, l, h1, h2, h3, _⟩ := open_rows (R := FctR) (size := 7) (fun _ => True) ⟨⟨0, 0, 0⟩, 0, 0, 0, []⟩ Tryz.underlying33 (by kernel_rfl) (by decide) (fun n cs x h => by obtain ⟨f, hf⟩ := open_fact (by kernel_rfl) h; exact ⟨f, hf, trivial⟩) h
  exact ⟨A, c, l, h1, h2, h3⟩
end
end Go.Proofs.YtjomijnbnbideaaGreatDoor

namespace Go.Proofs.YtjomijnbnbideaaGreatDoor
open Go.ChangeShapes Go.WideShapes Go.ChangeAt Go.RowKit Go.Inq

set_option maxRecDepth 100000 in
theorem screenAll_lifted (os : Os) (started : os.Started) (H : Type) (enc : TypeId × Value → H) :
    ReturnsInHanded {} Tryz.checked os 5 .any (fun w args => (Rows.screenAllSpec.pre enc Tryz.prog Tryz.f5 Rows.screenAllRow.domain false w args ∧ laidMetH Tryz.prog Rows.screenAllRow.laid w) ∧ sizedMet enc Tryz.prog Tryz.f5 (OpenSpec.ofChange Rows.screenAllSpec) false w args)
      (Rows.screenAllSpec.post enc Tryz.prog Tryz.f5 false true false false) := by
  refine returnsInHanded_shaped_and (C := Tryz.checked) (X := fun w _ => laidMetH Tryz.prog Rows.screenAllRow.laid w) (fun _ _ _ hh h => h.of_heap hh) own started (by kernel_rfl) Tryz.func5
    (ChangeSpec.witness_shaped (enc := enc) (C := Tryz.checked) (os := os) (X := fun w _ => laidMetH Tryz.prog Rows.screenAllRow.laid w) false (World.laidAll Tryz.prog os Rows.screenAllRow.laid) #[.agg #[.slice none 0 0], .int .i64 0, .agg #[.int .i64 0, .int .i64 0, .int .i64 0, .int .i64 0, .int .i64 0, .int .i64 0, .slice none 0 0]] 8 (World.laidAll_os _ _ _)
      (World.shaped_of_ZipB (by kernel_rfl) (by kernel_rfl)) (by kernel_rfl) (by kernel_rfl) (by kernel_rfl)
      (by rw [MakeChecks.laidMetH_plain _ _ _ (by kernel_rfl)]; exact laidMet_laidAll _ (by kernel_rfl) (by kernel_rfl))) ?_
  intro W base args ds gs before hval0 hW hL hsh
  have hval : ∀ (j : Nat) t v, Tryz.f5.params[j]? = some t → args[j]? = some v → Value.okWide Tryz.prog W .any base t v := hval0
  have hW' := hW
  obtain ⟨p, q, hA0, hV, rfl, hfz, hnd⟩ := hW
  have hlt : ∀ x ∈ p ++ q, x.block < W.heap.size := fun x hx => hW'.lt x hx
  have hA : DataW.TrodAll enc Tryz.prog W 0 (fun _ => true) true Tryz.f5.params.toList args.toList ds p := hA0
  rw [Tryz.params5] at hA hval
  obtain ⟨v0, v1, v2, d0, d1, d2, p0, p1, p2, rfl, rfl, rfl, h0, h1, h2⟩ := trodAll_three hA
  obtain ⟨rfl, rfl⟩ := trodVars_none hV
  obtain ⟨n0, t0⟩ := h0
  obtain ⟨cs0, rfl, hz0⟩ := okWide_struct Tryz.underlying24 (hval 0 24 v0 rfl rfl)
  obtain ⟨a0, cap0, l0, he0, hl0, hn0, hm0⟩ := open_hist (by kernel_rfl) t0
  obtain rfl : cs0 = #[.slice a0 l0.length cap0] := Array.toList_inj.1 he0
  obtain ⟨x1, rfl⟩ := okWide_int Tryz.underlying3 (hval 1 3 v1 rfl rfl)
  obtain ⟨n2, t2⟩ := h2
  obtain ⟨cs2, rfl, hz2⟩ := okWide_struct Tryz.underlying51 (hval 2 51 v2 rfl rfl)
  obtain ⟨f2, aF2, cF2, he2, hF2⟩ := open_fact (by kernel_rfl) t2
  obtain rfl : cs2 = #[.int .i64 f2.c.key, .int .i64 f2.c.a, .int .i64 f2.c.b, .int .i64 f2.kind, .int .i64 f2.i, .int .i64 f2.j, .slice aF2 f2.cyc.length cF2] := Array.toList_inj.1 he2
  refine (screenAll_any a0 cap0 l0 x1 f2 aF2 cF2 W hl0 hn0 hm0 (TabB.of hL (MakeChecks.laidMetH_plain _ _ _ (by kernel_rfl)) (.head _))).mono fun e W2 he => ?_
  obtain ⟨he, hb⟩ := he
  subst he
  exact ⟨_, rfl, [d0, d1, d2], [], (p0 ++ p1 ++ p2) ++ [], [], (p0 ++ p1 ++ p2), [], hW', trodAll_mk1 (shut_bool Tryz.underlying4 true), Below.trodAll hb (by kernel_rfl) hA (fun x hx => hlt x (List.mem_append.2 (.inl hx))), rfl, hb.frame _, fun h => by cases h⟩

theorem screenAll_holds : Rows.ScreenAllSaid :=
  OpenClaim.holds_of_wide 5 Tryz.f5 rfl rfl rfl rfl rfl rfl rfl ⟨rfl, rfl, rfl, rfl, rfl⟩ rfl rfl rfl rfl rfl (by kernel_rfl) Tryz.func5 (by kernel_rfl)
    (of_decide_eq_true (by kernel_rfl)) (by unfold Func.isWrapper; first | (rw [if_pos (by decide +kernel)]; kernel_rfl) | (rw [if_neg (by decide +kernel)]; exact ⟨rfl, rfl⟩))
    (fun os started H enc _ => screenAll_lifted os started H enc)
theorem screenAll_card_holds : Rows.ScreenAllCardSaid :=
  Claim7.holds_tied_plain_at .later [] [.data] true (true, "b0efe9e99674400e280ea1a23a13eec5d1b686fa42771ae2dadb0efcfea19ec7") false screenAll_holds (fun _ h => by cases h) (by kernel_rfl) (fun _ h => by cases h) screenAll_row_tie rfl ⟨rfl, rfl⟩ (by kernel_rfl) rfl
    (fun f fn hf hfn => by
      obtain rfl : f = 5 := Option.some.inj ((show Tryz.prog.funcNamed Rows.screenAllRow.func = some 5 by kernel_rfl).symm.trans hf) |>.symm
      obtain rfl : fn = Tryz.f5 := (Option.some.inj (Tryz.func5.symm.trans hfn)).symm
      exact ⟨by kernel_rfl, fun j t ht => by
        rw [Tryz.params5] at ht
        have hm : t ∈ [24, 3, 51] := by simpa using Array.mem_of_getElem? ht
        have hall : ([24, 3, 51].all fun u => !Tryz.prog.wantsStandIn u) = true := by kernel_rfl
        exact (show Tryz.prog.wantsStandIn t = false by simpa using List.all_eq_true.1 hall t hm)⟩)
    (by kernel_rfl)
#print axioms screenAll_card_holds
end Go.Proofs.YtjomijnbnbideaaGreatDoor
