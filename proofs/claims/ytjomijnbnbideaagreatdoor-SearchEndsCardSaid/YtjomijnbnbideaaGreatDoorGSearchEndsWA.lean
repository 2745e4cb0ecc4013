/-
  Walks: SearchEnds.
-/
import Derived.Test.YtjomijnbnbideaaGreatDoorG36
import Derived.Test.YtjomijnbnbideaaGreatDoorG41
import Derived.Test.YtjomijnbnbideaaGreatDoorG47
set_option linter.unusedVariables false
set_option linter.unusedSimpArgs false
namespace Go.Proofs.YtjomijnbnbideaaGreatDoor
open Go.RowKit Go.Inq
set_option maxHeartbeats 8000000
attribute [local go_sem ↓] Go.wp_at_zero Go.wp_at_succ

def opnTo (l : List Cho) (p : Cho) (k : Nat) : Bool := !(l.take k).contains p && !(l.take k).contains (turnB p)
theorem opnTo_step {l : List Cho} {p : Cho} {k : Nat} (hk : k < l.length) : opnTo l p (k + 1) = (opnTo l p k && (decide (l[k] ≠ p) && decide (l[k] ≠ turnB p))) := by
  unfold opnTo
  rw [List.take_succ_eq_append_getElem hk]
  rw [Bool.eq_iff_iff]
  simp only [Bool.and_eq_true, Bool.not_eq_true', ← Bool.not_eq_true, List.contains_iff_mem, List.mem_append, List.mem_singleton, decide_eq_true_eq, not_or]
  constructor
  · rintro ⟨⟨h1, h2⟩, h3, h4⟩; exact ⟨⟨h1, h3⟩, fun e => h2 e.symm, fun e => h4 e.symm⟩
  · rintro ⟨⟨h1, h3⟩, h2, h4⟩; exact ⟨⟨h1, fun e => h2 e.symm⟩, h3, fun e => h4 e.symm⟩
theorem opnTo_all (l : List Cho) (p : Cho) : opnTo l p l.length = (!l.contains p && !l.contains (turnB p)) := by unfold opnTo; rw [List.take_length]
def cntO (P : List Cho) (l : List Cho) (i : Nat) : Nat := ((P.take i).filter fun p => !l.contains p && !l.contains (turnB p)).length
theorem cntO_step {P l : List Cho} {i : Nat} (hi : i < P.length) : cntO P l (i + 1) = if opnTo l P[i] l.length = true then cntO P l i + 1 else cntO P l i := by
  unfold cntO
  rw [List.take_succ_eq_append_getElem hi, List.filter_append, opnTo_all]
  by_cases h : (!l.contains P[i] && !l.contains (turnB P[i])) = true
  · rw [if_pos h, List.length_append, List.filter_cons, if_pos h]; rfl
  · rw [if_neg h, List.length_append, List.filter_cons, if_neg h]; rfl
theorem cntO_le (P l : List Cho) (i : Nat) : cntO P l i ≤ i := by
  unfold cntO
  exact Nat.le_trans (List.length_filter_le _ _) (by rw [List.length_take]; omega)
theorem cntO_all (H : List Txn) (l : List Cho) : cntO (pairsL H) l (pairsL H).length = openN H l := by
  unfold cntO openN
  rw [List.take_length]
set_option maxRecDepth 100000 in
theorem searchEnds_any (A : Option Addr) (c : Nat) (H : List Txn) (level : Int) (Al : Option Addr) (cl : Nat) (L : List Fct) (w : World) (h : TxnS w (Old w) (.slice A H.length c) H) (hn : H.length ≤ maxLen) (hns : ∀ t ∈ H, t.writes.length ≤ maxLen ∧ t.reads.length ≤ maxLen) (hL : FctS w (Old w) (.slice Al L.length cl) L) (hL1 : L.length ≤ maxLen) (hTB : TabB w) :
    Calls Tryz.prog 12 #[.agg #[.slice A H.length c], .int .i64 level, .slice Al L.length cl] w fun e w' => e = .returned (.bool true) ∧ Below w.heap.size w w' := by
  obtain ⟨W0, hW0⟩ : ∃ W0, w.alloc (.cells #[.slice A H.length c] 24) = W0 := ⟨_, rfl⟩
  have hA := below_allocEq (Below.refl w.heap.size w) hW0 (Nat.le_refl _)
  have kh := Blk.newEq hW0
  have hLn : LenH H := ⟨hn, hns⟩
  have haw := hide (awake31_any W0 (hTB.below hA))
  have hsl := hide (fun W (hb : Below w.heap.size w W) => rsmall22_any A c H 5 6 W (h.below hb) hLn (by omega) (by omega))
  have hfe := hide (fun W (hb : Below w.heap.size w W) => few31_any A c H 0 Al cl L none 0 [] 5 W (h.below hb) hn hns (hL.below hb) hL1 (MkS.nil _ _ _ _) (Nat.zero_le _))
  have hHs := hide (fun W (hb : Below w.heap.size w W) => h.below hb)
  have hLs := hide (fun W (hb : Below w.heap.size w W) => hL.below hb)
  have hTs := hide (fun W (hb : Below w.heap.size w W) => hTB.below hb)
  clear h hn hns hL hL1 hTB hLn
  go_enter Tryz.func12, Tryz.ntmps12
  go_wp2_with fail
  clear hW0
  refine haw.out.mono ?_
  rintro e w1 ⟨rfl, hb1⟩
  have hB1 := hA.trans (hb1.mono hA.size)
  replace kh := kh.below hb1 kh.lt
  have hsl1 := hide (hsl.out w1 hB1)
  clear haw hb1 hA hsl
  have c0 := Blk.n0 kh
  go_wp2_with fail
  refine hsl1.out.mono ?_
  rintro e w2 ⟨rfl, hb2⟩
  have hB2 := hB1.trans (hb2.mono hB1.size)
  replace kh := kh.below hb2 kh.lt
  have hfe1 := hide (hfe.out w2 hB2)
  clear hsl1 hb2 hB1 hfe c0
  have c0 := Blk.n0 kh
  obtain ⟨qs, hqs⟩ : ∃ qs, smallB H 5 6 = qs := ⟨_, rfl⟩
  rw [hqs]
  go_wp2_with fail
  refine hfe1.out.mono ?_
  rintro e w3 ⟨rfl, hb3⟩
  have hB3 := hB2.trans (hb3.mono hB2.size)
  replace kh := kh.below hb3 kh.lt
  clear hfe1 hb3 hB2 c0
  have c0 := Blk.n0 kh
  obtain ⟨qf, hqf⟩ : ∃ qf, few31B H L [] 5 = qf := ⟨_, rfl⟩
  rw [hqf]
  cases qs with
  | false =>
    clear hHs hLs hTs hqs hqf
    go_wp2
    go_ret
    exact ⟨rfl, hB3⟩
  | true =>
    cases qf with
    | false =>
      clear hHs hLs hTs hqs hqf
      go_wp2
      go_ret
      exact ⟨rfl, hB3⟩
    | true =>
      have hr : rightH H = true := by unfold smallB at hqs; simp only [Bool.and_eq_true] at hqs; exact hqs.1.2
      have hk6 : (pairsL H).length ≤ 6 := by unfold smallB at hqs; simp only [Bool.and_eq_true, decide_eq_true_eq] at hqs; exact hqs.2
      have hsm := hide (right_small hr)
      have hfw := few31_iff.1 hqf
      have hL20 := hfw.facts
      have hFit : FitF L := ⟨by omega, fun f hf => by have := hfw.fcyc f hf; omega⟩
      clear hqs hqf
      by_cases hlv : level = 0 ∨ level = 1
      · have hlb : (level != 0) = false ∨ ((level != 0) = true ∧ (level != 1) = false) := by
          rcases hlv with rfl | rfl
          · left; rfl
          · right; exact ⟨rfl, rfl⟩
        have hrp := hide (replay22_any A c H level Al cl L w3 (hHs.out w3 hB3) hsm.out (hLs.out w3 hB3) hFit)
        obtain ⟨qr, hqr⟩ : ∃ qr, replB H level L = qr := ⟨_, rfl⟩
        rw [hqr] at hrp
        replace hr := hide hr
        replace hfw := hide hfw
        replace hFit := hide hFit
        clear hlv
        go_upto_region 6 with fail
        go_cut [52] (fun s52 wz => s52 = .bool (!qr) ∧ Below w3.heap.size w3 wz)
        case first =>
          rcases hlb with hlb | ⟨hlb, hlb1⟩
          all_goals
            clear hHs hLs hTs hr hfw hFit hsm
            go_wp2_with fail
            refine hrp.out.mono ?_
            rintro e w4 ⟨rfl, hb4⟩
            go_wp2
            go_meet
            exact ⟨rfl, hb4⟩
        case rest =>
          obtain ⟨rfl, hbc⟩ := hcut
          have hB4 := hB3.trans (hbc.mono hB3.size)
          replace kh := kh.below hbc kh.lt
          clear hlb hrp hbc hB3 c0
          cases qr with
          | false =>
            go_wp2
            go_ret
            exact ⟨rfl, hB4⟩
          | true =>
            have c0 := Blk.n0 kh
            have hpa := hide (rpairs09_any A c H wc (hHs.out wc hB4) hr.out hsm.out)
            have hse := hide (fun n (hn : 2 ^ (openN H (chosL L) + 1) - 1 ≤ n) => search_ends (H := H) (level := level) (L := L) hqr (by have := openN_le H (chosL L); omega) hn)
            replace hqr := hide hqr
            have hcn := hide (fun i (hi : i < (pairsL H).length) => cntO_step (l := chosL L) hi)
            have hca := hide (cntO_all H (chosL L))
            go_wp2_with fail
            refine hpa.out.mono ?_
            rintro e w5 ⟨vP, rfl, oP, hb5⟩
            obtain ⟨AP, cP, rfl⟩ := OwnC.form oP
            have hB5 := hB4.trans (hb5.mono hB4.size)
            replace kh := kh.below hb5 kh.lt
            have hPS := hide (OwnC.sl (K := Old w5) oP fun _ _ h => h)
            have hch := hide (choices22_any Al cl L w5 (hLs.out w5 hB5) hFit.out.1)
            clear hpa hb5 hB4 oP c0
            go_wp2_with fail
            refine hch.out.mono ?_
            rintro e w6 ⟨vC, rfl, oC, hb6⟩
            obtain ⟨AC, cC, rfl⟩ := OwnC.form oC
            have hB6 := hB5.trans (hb6.mono hB5.size)
            replace kh := kh.below hb6 kh.lt
            replace hPS := hide (ChoS.below hPS.out hb6)
            have hCS := hide (OwnC.sl (K := Old w6) oC fun _ _ h => h)
            have hlC := chosL_len L
            clear hch hb6 hB5 oC
            obtain ⟨P, hP⟩ : ∃ P, pairsL H = P := ⟨_, rfl⟩
            rw [hP] at hk6 hPS hcn hca ⊢
            obtain ⟨M, hM⟩ : ∃ M, chosL L = M := ⟨_, rfl⟩
            rw [hM] at hCS hcn hca hse hlC ⊢
            replace hP := hide hP
            replace hM := hide hM
            have hop := hide (fun p k (hk : k < M.length) => opnTo_step (p := p) hk)
            have hMl : M.length ≤ 20 := by omega
            have hcle := hide (cntO_le P M)
            replace hlC := hide hlC
            go_wp2_with fail
            go_loopw [12, 13, 14, 15] (fun s12 s13 _ _ wr => ∃ (i m : Nat), i ≤ P.length ∧ s13 = .int .i64 (i : Int) ∧ s12 = .int .i64 (m : Int) ∧ m ≤ 128 ∧ Hid (m = 2 ^ (cntO P M i + 1)) ∧ Blk wr w.heap.size 24 #[.slice A H.length c] ∧ Below w6.heap.size w6 wr ∧ Below w.heap.size w wr) (fun _ s13 _ _ _ => P.length - (intOf s13).toNat)
            case atStart => exact ⟨0, 2, by omega, by go_num, by go_num, by omega, hide (by unfold cntO; simp), kh, Below.refl _ _, hB6⟩
            case round =>
              clear kh hB6
              obtain ⟨Wo, rfl⟩ : ∃ Wo, Wo = wr := ⟨_, rfl⟩
              obtain ⟨i, m, hi, rfl, rfl, hm, hmm, kh, hbo, hB⟩ := hrel
              have hi0 : (0 : Int) ≤ (i : Int) := Int.natCast_nonneg _
              have hm0 : (0 : Int) ≤ (m : Int) := Int.natCast_nonneg _
              by_cases hlt : i < P.length
              · have hi1 : (i : Int) < (P.length : Int) := by omega
                have hopi := hide (fun k hk => hop.out P[i] k hk)
                have hcs := hide (hcn.out i hlt)
                have ho0 : Hid (opnTo M P[i] 0 = true) := hide (by unfold opnTo; simp)
                obtain ⟨bp, op, rfl, hbK, p0, p1, p2⟩ := ChoS.at_ (ChoS.below hPS.out hbo) hlt
                have hPK : bp < Wo.heap.size := hbK
                obtain ⟨pp, hpp⟩ : ∃ pp, P[i] = pp := ⟨_, rfl⟩
                rw [hpp] at p0 p1 p2 hopi hcs ho0
                obtain ⟨pk, pa, pb⟩ := pp
                dsimp only at p0 p1 p2
                replace hpp := hide hpp
                clear hop
                go_wp2_with fail
                go_loopw [14, 15] (fun s14 s15 wr => ∃ k : Nat, k ≤ M.length ∧ s15 = .int .i64 (k : Int) ∧ s14 = .bool (opnTo M ⟨pk, pa, pb⟩ k) ∧ Below Wo.heap.size Wo wr) (fun _ s15 _ => M.length - (intOf s15).toNat)
                case atStart => exact ⟨0, by omega, by go_num, by rw [ho0.out], Below.refl _ _⟩
                case round =>
                  obtain ⟨Wr, rfl⟩ : ∃ Wr, Wr = wr := ⟨_, rfl⟩
                  obtain ⟨k, hk, rfl, rfl, hbr⟩ := hrel
                  have hk0 : (0 : Int) ≤ (k : Int) := Int.natCast_nonneg _
                  by_cases hkl : k < M.length
                  · have hk1 : (k : Int) < (M.length : Int) := by omega
                    have q0 := (hbr.cell (p := ⟨bp, op + i * 3, none⟩) hPK).trans p0
                    have q1 := (hbr.cell (p := ⟨bp, op + i * 3 + 1, none⟩) hPK).trans p1
                    have q2 := (hbr.cell (p := ⟨bp, op + i * 3 + 2, none⟩) hPK).trans p2
                    have hb6r := hbo.trans (hbr.mono hbo.size)
                    obtain ⟨bc, oc, rfl, hcK, d0, d1, d2⟩ := ChoS.at_ (ChoS.below hCS.out hb6r) hkl
                    have hcK2 : bc < Wr.heap.size := hcK
                    have hst := hide (hopi.out k hkl)
                    obtain ⟨cc, hcc⟩ : ∃ cc, M[k] = cc := ⟨_, rfl⟩
                    rw [hcc] at d0 d1 d2 hst
                    obtain ⟨ck, ca, cb⟩ := cc
                    dsimp only at d0 d1 d2
                    replace hcc := hide hcc
                    obtain ⟨Wa, hWa⟩ : ∃ Wa, Wr.alloc (.cells #[.int .i64 pk, .int .i64 pa, .int .i64 pb] 49) = Wa := ⟨_, rfl⟩
                    have hba := below_allocEq (Below.refl Wr.heap.size Wr) hWa (Nat.le_refl _)
                    have n1 := Blk.newEq hWa
                    have e0 := (hba.cell (p := ⟨bc, oc + k * 3, none⟩) hcK2).trans d0
                    have e1 := (hba.cell (p := ⟨bc, oc + k * 3 + 1, none⟩) hcK2).trans d1
                    have e2 := (hba.cell (p := ⟨bc, oc + k * 3 + 2, none⟩) hcK2).trans d2
                    have f0 := Blk.n0 n1
                    have f1 := Blk.n1 n1
                    have f2 := Blk.n2 n1
                    have hbra := hbr.trans (hba.mono hbr.size)
                    obtain ⟨q, hq⟩ : ∃ q, opnTo M ⟨pk, pa, pb⟩ k = q := ⟨_, rfl⟩
                    rw [hq] at hst ⊢
                    obtain ⟨z, hz⟩ : ∃ z, (q && (decide ((⟨ck, ca, cb⟩ : Cho) ≠ ⟨pk, pa, pb⟩) && decide ((⟨ck, ca, cb⟩ : Cho) ≠ turnB ⟨pk, pa, pb⟩))) = z := ⟨_, rfl⟩
                    rw [hz] at hst
                    have hcw : Hid (q = false ∧ z = false ∨ q = true ∧ ((ck ≠ pk ∧ z = true) ∨ (ck = pk ∧ ca = pa ∧ cb = pb ∧ z = false) ∨ (ck = pk ∧ ca = pa ∧ cb ≠ pb ∧ (ca ≠ pb ∧ z = true ∨ ca = pb ∧ cb ≠ pa ∧ z = true ∨ ca = pb ∧ cb = pa ∧ z = false)) ∨ (ck = pk ∧ ca ≠ pa ∧ (ca ≠ pb ∧ z = true ∨ ca = pb ∧ cb ≠ pa ∧ z = true ∨ ca = pb ∧ cb = pa ∧ z = false)))) := hide (by
                      rw [← hz]
                      cases q with
                      | false => exact .inl ⟨rfl, rfl⟩
                      | true =>
                        refine .inr ⟨rfl, ?_⟩
                        simp only [turnB, Bool.true_and, ne_eq, Cho.mk.injEq]
                        by_cases a1 : ck = pk <;> by_cases a2 : ca = pa <;> by_cases a3 : cb = pb <;> by_cases a4 : ca = pb <;> by_cases a5 : cb = pa <;> simp [a1, a2, a3, a4, a5] <;> omega)
                    have hck0 := hide hkl
                    clear hz hq d0 d1 d2
                    go_upto_region 19 with fail
                    try rw [hWa]
                    generalize Wr.heap.size = gr at *
                    clear hWa q0 q1 q2
                    have hzz : Hid (z = opnTo M ⟨pk, pa, pb⟩ (k + 1)) := hide hst.out.symm
                    have hcw := hcw.out
                    clear hst hHs hLs hTs hr hfw hFit hsm hse hcn hca hopi hcs ho0 hPS hCS n1 hba hb6r hcc
                    rcases hcw with ⟨rfl, rfl⟩ | ⟨rfl, ⟨h1, rfl⟩ | ⟨h1, h2, h3, rfl⟩ | ⟨h1, h2, h3, h4⟩ | ⟨h1, h2, h4⟩⟩
                    ·
                      go_quiet (fail)
                      go_wp2
                      go_roundw
                      case rel => exact ⟨k + 1, by omega, by go_num, by rw [← hzz.out], hbra.trans ⟨rfl, rfl, rfl, Nat.le_refl _, fun _ _ => rfl⟩⟩
                      case measure => simp [intOf]; omega
                    ·
                      have x0 : (ck == pk) = false := by simpa using h1
                      have x1 : (ck != pk) = true := by simpa using h1
                      clear h1
                      go_quiet (fail)
                      go_wp2
                      go_roundw
                      case rel => exact ⟨k + 1, by omega, by go_num, by rw [← hzz.out], hbra.trans ⟨rfl, rfl, rfl, Nat.le_refl _, fun _ _ => rfl⟩⟩
                      case measure => simp [intOf]; omega
                    ·
                      have x0 : (ck == pk) = true := by simpa using h1
                      have x1 : (ck != pk) = false := by simpa using h1
                      clear h1
                      have u0 : (ca == pa) = true := by simpa using h2
                      have u1 : (ca != pa) = false := by simpa using h2
                      clear h2
                      have t0 : (cb == pb) = true := by simpa using h3
                      have t1 : (cb != pb) = false := by simpa using h3
                      clear h3
                      go_quiet (fail)
                      go_wp2
                      go_roundw
                      case rel => exact ⟨k + 1, by omega, by go_num, by rw [← hzz.out], hbra.trans ⟨rfl, rfl, rfl, Nat.le_refl _, fun _ _ => rfl⟩⟩
                      case measure => simp [intOf]; omega
                    ·
                      have x0 : (ck == pk) = true := by simpa using h1
                      have x1 : (ck != pk) = false := by simpa using h1
                      clear h1
                      have u0 : (ca == pa) = true := by simpa using h2
                      have u1 : (ca != pa) = false := by simpa using h2
                      clear h2
                      have t0 : (cb == pb) = false := by simpa using h3
                      have t1 : (cb != pb) = true := by simpa using h3
                      clear h3
                      rcases h4 with ⟨h5, rfl⟩ | ⟨h5, h6, rfl⟩ | ⟨h5, h6, rfl⟩
                      ·
                        have y0 : (ca == pb) = false := by simpa using h5
                        have y1 : (ca != pb) = true := by simpa using h5
                        clear h5
                        go_quiet (fail)
                        go_wp2
                        go_roundw
                        case rel => exact ⟨k + 1, by omega, by go_num, by rw [← hzz.out], hbra.trans ⟨rfl, rfl, rfl, Nat.le_refl _, fun _ _ => rfl⟩⟩
                        case measure => simp [intOf]; omega
                      ·
                        have y0 : (ca == pb) = true := by simpa using h5
                        have y1 : (ca != pb) = false := by simpa using h5
                        clear h5
                        have v0 : (cb == pa) = false := by simpa using h6
                        have v1 : (cb != pa) = true := by simpa using h6
                        clear h6
                        go_quiet (fail)
                        go_wp2
                        go_roundw
                        case rel => exact ⟨k + 1, by omega, by go_num, by rw [← hzz.out], hbra.trans ⟨rfl, rfl, rfl, Nat.le_refl _, fun _ _ => rfl⟩⟩
                        case measure => simp [intOf]; omega
                      ·
                        have y0 : (ca == pb) = true := by simpa using h5
                        have y1 : (ca != pb) = false := by simpa using h5
                        clear h5
                        have v0 : (cb == pa) = true := by simpa using h6
                        have v1 : (cb != pa) = false := by simpa using h6
                        clear h6
                        go_quiet (fail)
                        go_wp2
                        go_roundw
                        case rel => exact ⟨k + 1, by omega, by go_num, by rw [← hzz.out], hbra.trans ⟨rfl, rfl, rfl, Nat.le_refl _, fun _ _ => rfl⟩⟩
                        case measure => simp [intOf]; omega
                    ·
                      have x0 : (ck == pk) = true := by simpa using h1
                      have x1 : (ck != pk) = false := by simpa using h1
                      clear h1
                      have u0 : (ca == pa) = false := by simpa using h2
                      have u1 : (ca != pa) = true := by simpa using h2
                      clear h2
                      rcases h4 with ⟨h5, rfl⟩ | ⟨h5, h6, rfl⟩ | ⟨h5, h6, rfl⟩
                      ·
                        have y0 : (ca == pb) = false := by simpa using h5
                        have y1 : (ca != pb) = true := by simpa using h5
                        clear h5
                        go_quiet (fail)
                        go_wp2
                        go_roundw
                        case rel => exact ⟨k + 1, by omega, by go_num, by rw [← hzz.out], hbra.trans ⟨rfl, rfl, rfl, Nat.le_refl _, fun _ _ => rfl⟩⟩
                        case measure => simp [intOf]; omega
                      ·
                        have y0 : (ca == pb) = true := by simpa using h5
                        have y1 : (ca != pb) = false := by simpa using h5
                        clear h5
                        have v0 : (cb == pa) = false := by simpa using h6
                        have v1 : (cb != pa) = true := by simpa using h6
                        clear h6
                        go_quiet (fail)
                        go_wp2
                        go_roundw
                        case rel => exact ⟨k + 1, by omega, by go_num, by rw [← hzz.out], hbra.trans ⟨rfl, rfl, rfl, Nat.le_refl _, fun _ _ => rfl⟩⟩
                        case measure => simp [intOf]; omega
                      ·
                        have y0 : (ca == pb) = true := by simpa using h5
                        have y1 : (ca != pb) = false := by simpa using h5
                        clear h5
                        have v0 : (cb == pa) = true := by simpa using h6
                        have v1 : (cb != pa) = false := by simpa using h6
                        clear h6
                        go_quiet (fail)
                        go_wp2
                        go_roundw
                        case rel => exact ⟨k + 1, by omega, by go_num, by rw [← hzz.out], hbra.trans ⟨rfl, rfl, rfl, Nat.le_refl _, fun _ _ => rfl⟩⟩
                        case measure => simp [intOf]; omega
                  · obtain rfl : k = M.length := by omega
                    have hcs2 := hcs.out
                    have hle := hcle.out (i + 1)
                    obtain ⟨q, hq⟩ : ∃ q, opnTo M ⟨pk, pa, pb⟩ M.length = q := ⟨_, rfl⟩
                    rw [hq] at hcs2 ⊢
                    have hbw := hbo.trans (hbr.mono hbo.size)
                    have hBw := hB.trans (hbr.mono hB.size)
                    have khw := kh.below hbr kh.lt
                    have hpw : ∀ n, n ≤ 7 → 2 ^ n ≤ 128 := fun n hn => Nat.le_trans (Nat.pow_le_pow_right (by omega) hn) (by decide)
                    cases q with
                    | false =>
                      have hm2 : Hid (m = 2 ^ (cntO P M (i + 1) + 1)) := hide (by rw [hcs2]; exact hmm.out)
                      clear hcs hcs2 hmm hq hopi ho0 hpw kh
                      go_wp2
                      go_roundw
                      case rel => exact ⟨i + 1, m, by omega, by go_num, rfl, hm, hm2, khw, hbw, hBw⟩
                      case measure => simp [intOf]; omega
                    | true =>
                      have hm2 : Hid (2 * m = 2 ^ (cntO P M (i + 1) + 1)) := hide (by rw [hcs2, hmm.out, if_pos rfl, Nat.pow_succ 2 (cntO P M i + 1)]; omega)
                      have hm3 : 2 * m ≤ 128 := by rw [hm2.out]; exact hpw _ (by omega)
                      clear hcs hcs2 hmm hq hopi ho0 hpw kh
                      go_wp2
                      go_roundw
                      case rel => exact ⟨i + 1, 2 * m, by omega, by go_num, by go_num, hm3, hm2, khw, hbw, hBw⟩
                      case measure => simp [intOf]; omega
              · obtain rfl : i = P.length := by omega
                have hmp : 0 < m := by rw [hmm.out]; exact Nat.two_pow_pos _
                obtain ⟨nn, hnn⟩ : ∃ nn, m = nn + 1 := ⟨m - 1, by omega⟩
                have hse1 := hse.out nn (by rw [← hca.out, ← hmm.out]; omega)
                obtain ⟨F, hF⟩ : ∃ F, runP H level L nn [] = F := ⟨_, rfl⟩
                rw [hF] at hse1
                have hJ0 : Hid (RunJ H level L nn 0 [] F) := hide (by rw [← hF]; exact RunJ.start)
                have hstp := hide (fun (Ap : Option Addr) cp path W (hb : Below w.heap.size w W) (hP : MkS W (Old W) (.slice Ap (List.length path) cp) path) (hM : FitM path) => step31_any A c H level Al cl L Ap cp path W (hHs.out W hb) hsm.out (hLs.out W hb) hFit.out hP hM (hTs.out W hb))
                have hhas := hide (fun W (hb : Below w.heap.size w W) => rhas21_any A c H level W (hHs.out W hb) hr.out hsm.out)
                obtain ⟨qh, hq⟩ : ∃ qh, hasB H level = qh := ⟨_, rfl⟩
                rw [hq] at hse1 hhas
                have hnb : nn ≤ 127 := by omega
                have hsub : (m : Int) - 1 = (nn : Int) := by omega
                replace hnn := hide hnn
                replace hse1 := hide hse1
                clear hF hse hcn hca hop hcle hPS hCS hmm hq hbo hLs hTs hHs hfw hqr
                go_wp2_with fail
                go_loopw [17, 18, 19, 20, 21] (fun s17 s18 s19 _ _ wr => ∃ (n : Nat) (path : List Mk) (sd : Int) (Ap : Option Addr) (cp : Nat), s17 = .slice Ap path.length cp ∧ s18 = .int .i64 sd ∧ s19 = .int .i64 (n : Int) ∧ n ≤ nn ∧ MkS wr (Old wr) (.slice Ap path.length cp) path ∧ Blk wr w.heap.size 24 #[.slice A H.length c] ∧ Below w.heap.size w wr ∧ Hid ((sd = 0 ∧ RunJ H level L nn n path F) ∨ (sd ≠ 0 ∧ F.2.said = sd))) (fun _ _ s19 _ _ _ => nn - (intOf s19).toNat)
                case atStart => exact ⟨0, [], 0, none, 0, rfl, by go_num, by go_num, by omega, MkS.nil _ _ _ _, kh, hB, hide (.inl ⟨rfl, hJ0.out⟩)⟩
                case round =>
                  clear kh hB hJ0
                  obtain ⟨Wr, rfl⟩ : ∃ Wr, Wr = wr := ⟨_, rfl⟩
                  obtain ⟨n, path, sd, Ap, cp, rfl, rfl, rfl, hnl, hPt, kh, hB, hst⟩ := hrel
                  have hn0 : (0 : Int) ≤ (n : Int) := Int.natCast_nonneg _
                  by_cases hsd : sd = 0
                  · subst hsd
                    have hJ : RunJ H level L nn n path F := by
                      rcases hst.out with ⟨-, h⟩ | ⟨h, -⟩
                      · exact h
                      · exact absurd rfl h
                    have hlt : n < nn := by
                      rcases Nat.lt_or_ge n nn with h | h
                      · exact h
                      · exfalso
                        obtain rfl : n = nn := by omega
                        have := hJ.last
                        rw [this] at hse1
                        rcases hse1.out with ⟨h, -⟩ | ⟨h, -⟩ <;> simp [goesS] at h
                    have hlt1 : (n : Int) < (nn : Int) := by omega
                    have hE := hide (hJ.step hlt rfl)
                    have hc := hide (hstp.out Ap cp path Wr hB hPt ⟨by have := hJ.size; omega, hJ.cyc⟩)
                    generalize stepP H level L path = rr at *
                    have c0 := Blk.n0 kh
                    clear hst hJ hse1 hstp hhas
                    go_wp2_with fail
                    refine hc.out.mono ?_
                    rintro e wz ho
                    obtain ⟨Ap2, cp2, Ao, no, co, At, ct, Af, nf, cf, rfl, oM, bz⟩ := ho.v
                    have hBz := hB.trans (bz.mono hB.size)
                    have khz := kh.below bz kh.lt
                    generalize hrd : rr.2.said = rd at *
                    replace hrd := hide hrd
                    clear ho hc kh c0
                    obtain ⟨X, hX⟩ : ∃ X, wz.alloc (.cells #[.int .i64 rd, .slice Ao no co, .slice At rr.2.tree.length ct, .slice Af nf cf] 35) = X := ⟨_, rfl⟩
                    have hbX := below_allocEq (Below.refl wz.heap.size wz) hX (Nat.le_refl _)
                    have kO := Blk.newEq hX
                    have o0 := Blk.n0 kO
                    have hBX := hBz.trans (hbX.mono hBz.size)
                    have khX := khz.below hbX khz.lt
                    have oX := hide (MkS.below oM.s hbX)
                    have hnx : Hid ((rd = 0 ∧ RunJ H level L nn (n + 1) rr.1 F) ∨ (rd ≠ 0 ∧ F.2.said = rd)) := hide (by
                      by_cases h0 : rd = 0
                      · exact .inl ⟨h0, hE.out.1 h0⟩
                      · exact .inr ⟨h0, by rw [hE.out.2 h0]; exact hrd.out⟩)
                    clear hbX hBz khz oM hE kO bz hrd
                    go_upto_region 27 with fail
                    try rw [hX]
                    generalize wz.heap.size = gz at *
                    clear hX
                    go_wp2
                    go_roundw
                    case rel => exact ⟨n + 1, rr.1, rd, Ap2, cp2, rfl, rfl, by go_num, hlt, oX.out, khX, hBX, hnx⟩
                    case measure => simp [intOf]; omega
                  · have hfin : (sd = 1 ∧ qh = true) ∨ (sd = 2 ∧ qh = false) := by
                      rcases hst.out with ⟨h, -⟩ | ⟨-, h⟩
                      · exact absurd h hsd
                      · rw [h] at hse1; exact hse1.out
                    have gs : (sd == 0) = false := by simpa using hsd
                    have c0 := Blk.n0 kh
                    have hh := hide (hhas.out Wr hB)
                    clear hst hse1 hstp hhas hsd hPt
                    by_cases hlt : n < nn
                    · have g1 : decide ((n : Int) < (nn : Int)) = true := decide_eq_true (by omega)
                      have g2 : decide (n < nn) = true := decide_eq_true hlt
                      rcases hfin with ⟨rfl, rfl⟩ | ⟨rfl, rfl⟩
                      all_goals
                        go_wp2_with fail
                        refine hh.out.mono ?_
                        rintro e wz ⟨rfl, bz⟩
                        go_wp2
                        go_ret
                        exact ⟨rfl, hB.trans (bz.mono hB.size)⟩
                    · have g1 : decide ((n : Int) < (nn : Int)) = false := decide_eq_false (by omega)
                      have g2 : decide (n < nn) = false := decide_eq_false hlt
                      rcases hfin with ⟨rfl, rfl⟩ | ⟨rfl, rfl⟩
                      all_goals
                        go_wp2_with fail
                        refine hh.out.mono ?_
                        rintro e wz ⟨rfl, bz⟩
                        go_wp2
                        go_ret
                        exact ⟨rfl, hB.trans (bz.mono hB.size)⟩
      · have h0 : (level != 0) = true := by rw [bne_iff_ne]; omega
        have h1 : (level != 1) = true := by rw [bne_iff_ne]; omega
        clear hlv hHs hLs hTs hr hfw hFit hsm
        go_wp2
        go_ret
        exact ⟨rfl, hB3⟩
end Go.Proofs.YtjomijnbnbideaaGreatDoor
