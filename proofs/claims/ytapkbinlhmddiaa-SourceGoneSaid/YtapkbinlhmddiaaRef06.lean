/-
  Walks: the reference of layer 6: ahead, wrong.
-/
import Derived.Test.YtapkbinlhmddiaaEvW
set_option linter.unusedVariables false
set_option linter.unusedSimpArgs false
namespace Go.Proofs.Ytapkbinlhmddiaa
open Go.RowKit Go.Inq
set_option maxHeartbeats 400000

theorem ahead_any {K : Nat → Prop} (A : Option Addr) (c : Nat) (l : List Ev) (i kind key : Int) (w : World) (h : EvS w K (.slice A l.length c) l) (hi : 0 ≤ i) (hil : i ≤ l.length) (hn : l.length ≤ 1000000) :
    Calls Try.prog 31 #[.slice A l.length c, .int .i64 i, .int .i64 kind, .int .i64 key] w fun e w' => e = .returned (.int .i64 (aheadN l kind key i.toNat)) ∧ w = w' := by
  go_enter Try.func31, Try.ntmps31
  go_wp2
  go_loop [9] (fun s => ∃ k : Nat, (k : Int) ≤ i ∧ s = .int .i64 ((k : Int) - 1) ∧ aheadN l kind key i.toNat = aheadN l kind key k) (fun s => (intOf s + 1).toNat)
  case atStart => exact ⟨i.toNat, by omega, by rw [Int.toNat_of_nonneg hi], rfl⟩
  case round =>
    obtain ⟨k, hk, rfl, heq⟩ := hrel
    have HQ := hide heq
    clear heq
    cases k with
    | zero =>
      go_wp2
      go_ret
      exact ⟨ret_int (by rw [HQ.out]; rfl), rfl⟩
    | succ m =>
      have hm : m < l.length := by omega
      have e0 : ((m + 1 : Nat) : Int) - 1 = (m : Int) := by omega
      rw [e0]
      clear e0
      obtain ⟨b, off, hA, _, c0, c1, c2, c3⟩ := EvS.at_ h hm
      subst hA
      have hg : l[m]? = some l[m] := List.getElem?_eq_getElem hm
      have HG := hide hg
      clear hg
      generalize l[m] = x at *
      go_wp2
      · go_ret
        exact ⟨ret_int (by rw [HQ.out]; exact (aheadN_hit HG.out (by assumption) (eq_of_beq (by assumption))).symm), rfl⟩
      · exact ⟨⟨m, by omega, rfl, by rw [HQ.out]; exact aheadN_miss HG.out (fun hh => by simp_all)⟩, by simp [intOf]⟩
      · exact ⟨⟨m, by omega, rfl, by rw [HQ.out]; exact aheadN_miss HG.out (fun hh => by simp_all)⟩, by simp [intOf]⟩
theorem wrong_any (A : Option Addr) (c : Nat) (l : List Ev) (i : Nat) (w : World) (h : EvS w (Old w) (.slice A l.length c) l) (hi : i < l.length) (hn : l.length ≤ 1000000) :
    Calls Try.prog 30 #[.slice A l.length c, .int .i64 i] w fun e w' => e = .returned (.int .i64 (wrongE l i l[i])) ∧ Below w.heap.size w w' := by
  obtain ⟨b, off, rfl, hb, c0, c1, c2, c3⟩ := EvS.at_ h hi
  have hg : l[i]? = some l[i] := List.getElem?_eq_getElem hi
  have HG := hide hg
  clear hg
  generalize l[i] = x at *
  go_enter Try.func30, Try.ntmps30
  go_wp2_with fail
  refine (rright_any x _).mono ?_
  rintro e w1 ⟨rfl, hb1⟩
  have h1 := EvS.below h hb1
  have hbc := fun o => hb1.cell (p := ⟨b, o, none⟩) hb
  rw [← hbc] at c0 c1 c2 c3
  clear hbc
  by_cases hr : x.right = true
  · by_cases hk2 : x.kind = 2
    · go_wp2
      go_ret
      exact ⟨ret_int (by simp [wrongE, hr, hk2]), hb1⟩
    · by_cases hk1 : x.kind = 1
      · have hlo := aheadN_lt l 2 x.key i
        go_wp2_with fail
        refine (ahead_any _ c l i 2 x.key w1 h1 (by omega) (by omega) hn).mono ?_
        rintro e w2 ⟨rfl, rfl⟩
        rw [Int.toNat_natCast]
        have E : Hid (wrongE l i x = if 0 ≤ aheadN l 2 x.key i then (if valAt l (aheadN l 2 x.key i) = x.val then 0 else 10) else if 0 ≤ aheadN l 1 x.key i then (if valAt l (aheadN l 1 x.key i) = x.val then 0 else 11)
            else if future l i x.key x.val = true then 9 else 0) := by
          unfold Hid wrongE; rw [if_neg (by simp [hr, hk1]), if_neg hk2]
        generalize hv : aheadN l 2 x.key i = v at *
        clear hv
        by_cases h0 : 0 ≤ v
        · obtain ⟨m, rfl⟩ := Int.eq_ofNat_of_zero_le h0
          have hm : m < l.length := by omega
          obtain ⟨_, d0, d1, d2, d3⟩ := EvS.cells h1 hm
          have hv : Hid (valAt l m = l[m].val) := by unfold Hid valAt; rw [Int.toNat_natCast, List.getElem?_eq_getElem hm]; rfl
          generalize l[m] = y at *
          go_wp2
          go_quiet (fail)
          go_wp2
          all_goals go_ret
          · exact ⟨ret_int (by rw [E.out, if_pos h0, hv.out, if_neg (by simp_all)]), below_drewN hb1 _⟩
          · exact ⟨ret_int (by rw [E.out, if_pos h0, hv.out, if_pos (by simp_all)]), below_drewN hb1 _⟩
        · have hlo1 := aheadN_lt l 1 x.key i
          go_wp2_with fail
          refine (ahead_any _ c l i 1 x.key w1 h1 (by omega) (by omega) hn).mono ?_
          rintro e w2 ⟨rfl, rfl⟩
          rw [Int.toNat_natCast]
          have E1 := E.out
          rw [if_neg (by omega)] at E1
          clear E
          have E := hide E1
          clear E1
          generalize hv : aheadN l 1 x.key i = v1 at *
          clear hv
          by_cases h01 : 0 ≤ v1
          · obtain ⟨m, rfl⟩ := Int.eq_ofNat_of_zero_le h01
            have hm : m < l.length := by omega
            obtain ⟨_, d0, d1, d2, d3⟩ := EvS.cells h1 hm
            have hv : Hid (valAt l m = l[m].val) := by unfold Hid valAt; rw [Int.toNat_natCast, List.getElem?_eq_getElem hm]; rfl
            generalize l[m] = y at *
            go_wp2
            go_quiet (fail)
            go_wp2
            all_goals go_ret
            · exact ⟨ret_int (by rw [E.out, if_pos h01, hv.out, if_neg (by simp_all)]), below_drewN hb1 _⟩
            · exact ⟨ret_int (by rw [E.out, if_pos h01, hv.out, if_pos (by simp_all)]), below_drewN hb1 _⟩
          · have E1 := E.out
            rw [if_neg (by omega)] at E1
            clear E hlo hlo1
            have E := hide E1
            clear E1
            go_wp2
            go_loopw [8] (fun s wr => ∃ k : Nat, i < k ∧ k ≤ l.length ∧ s = .int .i64 k ∧ (∃ n, wr = w1.drewN n) ∧ wrongE l i x = if (l.drop k).any (fun z => z.kind == 2 && z.key == x.key && z.val == x.val) = true then 9 else 0) (fun s _ => l.length - (intOf s).toNat)
            case atStart => exact ⟨i + 1, by omega, by omega, by go_num, ⟨0, rfl⟩, E.out⟩
            case round =>
              obtain ⟨k, hk, hkl, rfl, ⟨nd, rfl⟩, heq⟩ := hrel
              have HQ := hide heq
              clear heq E
              by_cases hlt : k < l.length
              · obtain ⟨_, d0, d1, d2, d3⟩ := EvS.cells h1 hlt
                have hst := hide (future_step (key := x.key) (val := x.val) hk (List.getElem?_eq_getElem hlt))
                generalize l[k] = y at *
                obtain ⟨yk, ys, yy, yv⟩ := y
                by_cases g1 : yk = 2
                · subst g1
                  by_cases g2 : yy = x.key
                  · subst g2
                    have b1 : (x.key == x.key) = true := by simp
                    by_cases g3 : yv = x.val
                    · subst g3
                      go_wp2
                      go_quiet (fail)
                      go_wp2
                      go_ret
                      exact ⟨ret_int (by rw [HQ.out, hst.out]; simp), below_drewN (below_drewN hb1 _) _⟩
                    · have b2 : (yv == x.val) = false := by simp [g3]
                      go_wp2
                      go_quiet (fail)
                      go_wp2
                      go_roundw
                      case rel => exact ⟨k + 1, by omega, by omega, by go_num, ⟨_, rfl⟩, by rw [HQ.out, hst.out]; simp [g3]⟩
                      case measure => simp [intOf]; omega
                  · have b1 : (yy == x.key) = false := by simp [g2]
                    go_wp2
                    go_quiet (fail)
                    go_wp2
                    go_roundw
                    case rel => exact ⟨k + 1, by omega, by omega, by go_num, ⟨_, rfl⟩, by rw [HQ.out, hst.out]; simp [g2]⟩
                    case measure => simp [intOf]; omega
                · have b1 : (yk == 2) = false := by simp [g1]
                  go_wp2
                  go_quiet (fail)
                  go_wp2
                  go_roundw
                  case rel => exact ⟨k + 1, by omega, by omega, by go_num, ⟨_, rfl⟩, by rw [HQ.out, hst.out]; simp [g1]⟩
                  case measure => simp [intOf]; omega
              · have : k = l.length := by omega
                subst this
                go_wp2
                go_ret
                exact ⟨ret_int (by rw [HQ.out]; simp), below_drewN hb1 _⟩
      · go_wp2
        go_ret
        exact ⟨ret_int (by simp [wrongE, hr, hk1, hk2]), hb1⟩
  · go_wp2
    go_ret
    exact ⟨ret_int (by simp [wrongE, hr]), hb1⟩
end Go.Proofs.Ytapkbinlhmddiaa
