/-
  Walks: layer 30's reference: whether a state may be.
-/
import Derived.StillTailTactics
import Derived.Test.YtfodlklpfffaaaaGreatDoorC03
import Derived.Test.YtfodlklpfffaaaaGreatDoorC11
import Derived.Test.YtfodlklpfffaaaaGreatDoorC08
set_option linter.unusedVariables false
set_option linter.unusedSimpArgs false
namespace Go.Proofs.YtfodlklpfffaaaaGreatDoor
open Go.RowKit Go.Inq
set_option maxHeartbeats 8000000
attribute [local go_sem ↓] Go.wp_at_zero Go.wp_at_succ

theorem fresh_one {n : Nat} {x : Int} {path : List Int} : freshW n [x] path = (decide (0 ≤ x) && decide (x < (n : Int)) && !path.contains x) := by
  unfold freshW
  simp
set_option maxRecDepth 100000 in
theorem rright30_any (A : Option Addr) (c : Nat) (H : List Txn) (v : Value) (s : Wd) (w : World) (h : TxnS w (Old w) (.slice A H.length c) H) (hn : SmallH H) (hv : WdS w (Old w) v s) (hs : SmallWd s) :
    Calls Tryz.prog 16 #[.agg #[.slice A H.length c], v] w fun e w' => e = .returned (.bool (rightW H s)) ∧ Below w.heap.size w w' := by
  obtain ⟨Ap, cp, Al, cl, rfl, hP, hL⟩ := hv.form
  obtain ⟨_, _, hcpq, hcp⟩ := SlR.len hP
  injection hcpq with q1 q2 q3
  subst q1 q3
  have hfB := hide (rightW_base (H := H) (s := s))
  have hfP := hide (fun k => rightW_path (H := H) (s := s) (k := k))
  have hfL := hide (rightW_len (H := H) (s := s))
  have hfR := hide (fun k => rightW_row (H := H) (s := s) (k := k))
  have hpW := hide (pathW_of (H := H) (s := s))
  have hlW := hide (leftW_of (H := H) (s := s))
  have hyes := hide (rightW_yes (H := H) (s := s))
  have hnil := hide (rightW_nil (H := H) (s := s))
  have hbW : Hid (baseW H s = (rightH H && decide (1 ≤ s.width) && decide (s.width ≤ 32) && decide (s.path.length ≤ H.length - 1))) := hide rfl
  obtain ⟨width, cut, path, left⟩ := s
  dsimp only at *
  obtain ⟨hs1, hs2, hs3⟩ := hs
  dsimp only at hs1 hs2 hs3
  obtain ⟨W0, hW0⟩ : ∃ W0, (w.alloc (.cells #[.slice A H.length c] 24)).alloc (.cells #[.int .i64 width, .bool cut, .slice Ap path.length cp, .slice Al left.length cl] 32) = W0 := ⟨_, rfl⟩
  have hB := below_two hW0
  have k0 := Blk.two1 hW0
  have k1 := Blk.two2 hW0
  have hT := hide (h.below hB)
  have hP0 := hide (hP.below hB)
  have hL0 := hide (hL.below hB)
  have c0 := k0.cell 0
  simp only [List.getElem?_toArray, List.getElem?_cons_zero, List.getElem?_cons_succ] at c0
  have hH9 : H.length ≤ 1000000 := hn.1
  have hrc := hide (right08_any A c H W0 hT.out hn)
  replace hn := hide hn
  replace hs3 := hide hs3
  clear h hP hL hv hT
  generalize rightW H ⟨width, cut, path, left⟩ = rr at *
  generalize baseW H ⟨width, cut, path, left⟩ = bw at *
  generalize pathW H ⟨width, cut, path, left⟩ = pw at *
  generalize leftW H ⟨width, cut, path, left⟩ = lw at *
  go_enter Tryz.func16, Tryz.ntmps16
  go_wp2_with fail
  clear hW0 c0
  refine hrc.out.mono ?_
  rintro e w1 ⟨rfl, hb1⟩
  replace k0 := k0.below hb1 k0.lt
  replace k1 := k1.below hb1 k1.lt
  have hP1 := hide (hP0.out.below hb1)
  have hL1 := hide (hL0.out.below hb1)
  have hb := hB.trans (hb1.mono hB.size)
  clear hb1 hB hP0 hL0 hrc
  have c0 := k1.cell 0
  have c2 := k1.cell 2
  have c3 := k1.cell 3
  have e0 := k0.cell 0
  simp only [List.getElem?_toArray, List.getElem?_cons_zero, List.getElem?_cons_succ] at c0 c2 c3 e0
  generalize rightH H = rh at *
  cases rh with
  | false =>
    have hres := (hfB.out (by rw [hbW.out]; rfl))
    subst hres
    clear hfB hfP hfL hfR hpW hlW hyes hnil hbW
    go_wp2
    go_ret
    exact ⟨rfl, hb⟩
  | true =>
    by_cases hw1 : 1 ≤ width
    · have hw1b : decide (width < 1) = false := by simpa using hw1
      by_cases hw2 : width ≤ 32
      · have hw2b : decide (width > 32) = false := by simpa using hw2
        by_cases hp : path.length ≤ H.length - 1
        · have hbase := hide (show bw = true by rw [hbW.out]; simp [hw1, hw2, hp])
          have hmb : decide (H.length ≤ path.length) = false ∨ (decide (H.length ≤ path.length) = true ∧ decide (0 < path.length) = false) := by
            rcases Nat.lt_or_ge path.length H.length with g | g
            · left; exact decide_eq_false (by omega)
            · right; exact ⟨decide_eq_true g, decide_eq_false (by omega)⟩
          clear hw1 hw2 hp hfB hbW
          rcases hmb with g1 | ⟨g1, g2⟩
          · go_wp2_with fail
            clear c0 c2 c3 e0
            go_loopw [7] (fun s7 wr => ∃ k : Nat, k ≤ path.length ∧ s7 = .int .i64 k ∧ Hid (∀ j (hj : j < path.length), j < k → freshW H.length [path[j]] (path.take j) = true) ∧ Below w1.heap.size w1 wr) (fun s7 _ => path.length - (intOf s7).toNat)
            case atStart => exact ⟨0, Nat.zero_le _, by go_num, hide (fun j hj h => absurd h (by omega)), Below.refl _ _⟩
            case round =>
              obtain ⟨k, hk, rfl, hall, hbr⟩ := hrel
              have hk1 : (0 : Int) ≤ (k : Int) := Int.natCast_nonneg _
              have m1 := k1.below hbr k1.lt
              have c2 := m1.cell 2
              have c3 := m1.cell 3
              simp only [List.getElem?_toArray, List.getElem?_cons_zero, List.getElem?_cons_succ] at c2 c3
              have hbF := hb.trans (hbr.mono hb.size)
              have hPr := hide (hP1.out.below hbr)
              by_cases hlt : k < path.length
              · have hi2 : (k : Int) < (path.length : Int) := by omega
                obtain ⟨b, off, hA, _, d0⟩ := hPr.out.at_ hlt
                subst hA
                have hbad := hide (hfP.out k hlt)
                have hst : Hid (freshW H.length [path[k]] (path.take k) = true → ∀ j (hj : j < path.length), j < k + 1 → freshW H.length [path[j]] (path.take j) = true) := hide (fun g j hj hjk => by
                  by_cases e : j = k
                  · subst e; exact g
                  · exact hall.out j hj (by omega))
                have htk := IntS.take hPr.out hk
                have hlk : (path.take k).length = k := by rw [List.length_take]; omega
                have hkc : k ≤ cp := by omega
                have hin := hide (rin30_any (some ⟨b, off, none⟩) cp (path.take k) path[k] (Old wr) wr.drew (by rw [hlk]; exact htk.keep (Agree.drew _ _) (fun _ h => h)) (by rw [hlk]; omega))
                rw [hlk] at hin
                have hfo := hide (fresh_one (n := H.length) (x := path[k]) (path := path.take k))
                have d0' : wr.drew.cell? ⟨b, off + k, none⟩ = some (.int .i64 path[k]) := d0
                clear hlk htk
                generalize freshW H.length [path[k]] (path.take k) = fr at *
                generalize (path.take k).contains path[k] = ct at *
                generalize path[k] = x at *
                go_wp2_with fail
                refine wp_region_still_tail 9 (by kernel_rfl) (by kernel_rfl) ?_
                simp only [List.take_succ_cons, List.take_zero, List.drop_succ_cons, List.drop_zero]
                repeat still_step
                refine wpStill_nil ?_
                go_wp2_with fail
                refine hin.out.mono ?_
                rintro e w3 ⟨rfl, rfl⟩
                clear hin d0
                replace hbr := below_drew hbr
                replace hbF := below_drew hbF
                have c2' : wr.drew.cell? ⟨w.heap.size + 1, 2, none⟩ = some (.slice (some ⟨b, off, none⟩) path.length cp) := c2
                clear c2 c3 m1 hPr
                generalize wr.drew = wd at *
                by_cases h1 : x < 0
                · have h1b : decide (x < 0) = true := by simpa using h1
                  have hno : ¬ 0 ≤ x := by omega
                  clear h1
                  have hres := (hbad.out (by rw [hfo.out]; simp [hno]))
                  subst hres
                  clear hst hbad hfo hno hall
                  go_wp2
                  go_ret
                  exact ⟨rfl, hbF⟩
                · have h1b : decide (x < 0) = false := by simpa using h1
                  by_cases h2 : (H.length : Int) ≤ x
                  · have h2b : decide (x ≥ (H.length : Int)) = true := by simpa using h2
                    have hno : ¬ x < (H.length : Int) := by omega
                    clear h1 h2
                    have hres := (hbad.out (by rw [hfo.out]; simp [hno]))
                    subst hres
                    clear hst hbad hfo hno hall
                    go_wp2
                    go_ret
                    exact ⟨rfl, hbF⟩
                  · have h2b : decide (x ≥ (H.length : Int)) = false := by simpa using h2
                    cases ct with
                    | true =>
                      have hno : True := trivial
                      clear h1 h2
                      have hres := (hbad.out (by rw [hfo.out]; simp [hno]))
                      subst hres
                      clear hst hbad hfo hno hall
                      go_wp2
                      go_ret
                      exact ⟨rfl, hbF⟩
                    | false =>
                      have hgo := hide (hst.out (by rw [hfo.out]; simp; omega))
                      clear hst hbad hfo h1 h2 hall
                      go_wp2
                      go_roundw
                      case rel => exact ⟨k + 1, by omega, by go_num, hgo, hbr⟩
                      case measure => simp [intOf]; omega
              · have hpw := hide (hpW.out fun j hj => hall.out j hj (by omega))
                have hL2 := hide (hL1.out.below hbr)
                clear hall hP1 hfP hpW
                by_cases hl0 : left = []
                · subst hl0
                  have hres := (hnil.out hbase.out hpw.out rfl)
                  have hpe : decide (path = []) = ((path.length : Int) == 0) := by
                    cases path <;> simp
                    omega
                  rw [hpe] at hres
                  subst hres
                  clear hpe hfL hfR hlW hyes hnil
                  go_wp2
                  go_ret
                  exact ⟨rfl, hbF⟩
                · have hl0n : 0 < left.length := List.length_pos_iff.2 hl0
                  have hl0b : ((left.length : Int) == 0) = false := by simp; omega
                  by_cases hle : left.length = path.length + 1
                  · have hleb : ((left.length : Int) != (path.length : Int) + 1) = false := by rw [hle]; simp
                    have hyes2 := hide (hyes.out hbase.out hpw.out hl0 hle)
                    clear hyes hbase hpw hl0 hfL hnil
                    replace hle := hide hle
                    go_wp2_with fail
                    clear c2 c3 hl0n hl0b hleb
                    go_loopw [9] (fun s9 wq => ∃ i : Nat, i ≤ left.length ∧ s9 = .int .i64 i ∧ Hid (∀ j (hj : j < left.length), j < i → riseW left[j] = true ∧ freshW H.length left[j] (path.take j) = true) ∧ Below wr.heap.size wr wq) (fun s9 _ => left.length - (intOf s9).toNat)
                    case atStart => exact ⟨0, Nat.zero_le _, by go_num, hide (fun j hj h => absurd h (by omega)), Below.refl _ _⟩
                    case round =>
                      obtain ⟨Wo, rfl⟩ : ∃ Wo, Wo = wr := ⟨_, rfl⟩
                      obtain ⟨i, hi, rfl, hall, hbq⟩ := hrel
                      have hii : (0 : Int) ≤ (i : Int) := Int.natCast_nonneg _
                      have m2 := m1.below hbq m1.lt
                      have c2 := m2.cell 2
                      have c3 := m2.cell 3
                      simp only [List.getElem?_toArray, List.getElem?_cons_zero, List.getElem?_cons_succ] at c2 c3
                      have hbG := hbF.trans (hbq.mono hbF.size)
                      by_cases hil : i < left.length
                      · have hil2 : (i : Int) < (left.length : Int) := by omega
                        have hip : i ≤ path.length := by have := hle.out; omega
                        obtain ⟨bl, ol, Ar, cr, hA, _, d0, hrow⟩ := (hL2.out.below hbq).at_ hil
                        subst hA
                        have hrl := hs3.out _ (List.getElem_mem hil)
                        have hbad := hide (hfR.out i hil)
                        have hst : Hid (riseW left[i] = true ∧ freshW H.length left[i] (path.take i) = true → ∀ j (hj : j < left.length), j < i + 1 → riseW left[j] = true ∧ freshW H.length left[j] (path.take j) = true) := hide (fun g j hj hjk => by
                          by_cases e : j = i
                          · subst e; exact g
                          · exact hall.out j hj (by omega))
                        have htk := IntS.take (hPr.out.below hbq) hip
                        have hlk : (path.take i).length = i := by rw [List.length_take]; omega
                        have hkc : i ≤ cp := by omega
                        have hcall := hide (rrow30_any H.length Ar cr left[i] Ap cp (path.take i) Wo.drew (hrow.keep (Agree.drew _ _) (fun _ h => h)) (by rw [hlk]; exact htk.keep (Agree.drew _ _) (fun _ h => h)) hrl (by rw [hlk]; omega))
                        rw [hlk] at hcall
                        have hrb : Hid (rowB H.length left[i] (path.take i) = (riseW left[i] && freshW H.length left[i] (path.take i))) := hide rfl
                        clear hlk htk hrow
                        generalize rowB H.length left[i] (path.take i) = rb at *
                        generalize riseW left[i] = rw1 at *
                        generalize freshW H.length left[i] (path.take i) = fw1 at *
                        generalize left[i].length = nl at *
                        go_wp2_with fail
                        refine wp_region_still_tail 10 (by kernel_rfl) (by kernel_rfl) ?_
                        simp only [List.take_succ_cons, List.take_zero, List.drop_succ_cons, List.drop_zero]
                        repeat still_step
                        refine wpStill_nil ?_
                        go_wp2_with fail
                        refine hcall.out.mono ?_
                        rintro e w3 ⟨rfl, hb3⟩
                        have hbR := (below_drew hbq).trans (hb3.mono hbq.size)
                        have hbS := (below_drew hbG).trans (hb3.mono hbG.size)
                        clear hcall hb3 d0 c2 c3 m2 hbG hbq
                        cases rb with
                        | false =>
                          have hres := (hbad.out (by
                            cases rw1
                            · exact .inl rfl
                            · cases fw1
                              · exact .inr rfl
                              · exact absurd hrb.out (by decide)))
                          subst hres
                          clear hst hbad hrb hall hyes2 hfR hlW
                          go_wp2
                          go_ret
                          exact ⟨rfl, hbS⟩
                        | true =>
                          have hgo := hide (hst.out (by
                            have := hrb.out
                            cases rw1
                            · cases this
                            · cases fw1
                              · cases this
                              · exact ⟨rfl, rfl⟩))
                          clear hst hbad hrb hall
                          go_wp2
                          go_roundw
                          case rel => exact ⟨i + 1, by omega, by go_num, hgo, hbR⟩
                          case measure => simp [intOf]; omega
                      · have hres := (hyes2.out (hlW.out fun j hj => hall.out j hj (by omega)))
                        subst hres
                        clear hall hyes2 hfR hlW
                        go_wp2
                        go_ret
                        exact ⟨rfl, hbG⟩
                  · have hleb : ((left.length : Int) != (path.length : Int) + 1) = true := by simp; omega
                    have hres := (hfL.out hl0 hle)
                    subst hres
                    clear hle hl0 hfL hfR hlW hyes hnil
                    go_wp2
                    go_ret
                    exact ⟨rfl, hbF⟩
          · go_wp2_with fail
            clear c0 c2 c3 e0
            go_loopw [7] (fun s7 wr => ∃ k : Nat, k ≤ path.length ∧ s7 = .int .i64 k ∧ Hid (∀ j (hj : j < path.length), j < k → freshW H.length [path[j]] (path.take j) = true) ∧ Below w1.heap.size w1 wr) (fun s7 _ => path.length - (intOf s7).toNat)
            case atStart => exact ⟨0, Nat.zero_le _, by go_num, hide (fun j hj h => absurd h (by omega)), Below.refl _ _⟩
            case round =>
              obtain ⟨k, hk, rfl, hall, hbr⟩ := hrel
              have hk1 : (0 : Int) ≤ (k : Int) := Int.natCast_nonneg _
              have m1 := k1.below hbr k1.lt
              have c2 := m1.cell 2
              have c3 := m1.cell 3
              simp only [List.getElem?_toArray, List.getElem?_cons_zero, List.getElem?_cons_succ] at c2 c3
              have hbF := hb.trans (hbr.mono hb.size)
              have hPr := hide (hP1.out.below hbr)
              by_cases hlt : k < path.length
              · have hi2 : (k : Int) < (path.length : Int) := by omega
                obtain ⟨b, off, hA, _, d0⟩ := hPr.out.at_ hlt
                subst hA
                have hbad := hide (hfP.out k hlt)
                have hst : Hid (freshW H.length [path[k]] (path.take k) = true → ∀ j (hj : j < path.length), j < k + 1 → freshW H.length [path[j]] (path.take j) = true) := hide (fun g j hj hjk => by
                  by_cases e : j = k
                  · subst e; exact g
                  · exact hall.out j hj (by omega))
                have htk := IntS.take hPr.out hk
                have hlk : (path.take k).length = k := by rw [List.length_take]; omega
                have hkc : k ≤ cp := by omega
                have hin := hide (rin30_any (some ⟨b, off, none⟩) cp (path.take k) path[k] (Old wr) wr.drew (by rw [hlk]; exact htk.keep (Agree.drew _ _) (fun _ h => h)) (by rw [hlk]; omega))
                rw [hlk] at hin
                have hfo := hide (fresh_one (n := H.length) (x := path[k]) (path := path.take k))
                have d0' : wr.drew.cell? ⟨b, off + k, none⟩ = some (.int .i64 path[k]) := d0
                clear hlk htk
                generalize freshW H.length [path[k]] (path.take k) = fr at *
                generalize (path.take k).contains path[k] = ct at *
                generalize path[k] = x at *
                go_wp2_with fail
                refine wp_region_still_tail 9 (by kernel_rfl) (by kernel_rfl) ?_
                simp only [List.take_succ_cons, List.take_zero, List.drop_succ_cons, List.drop_zero]
                repeat still_step
                refine wpStill_nil ?_
                go_wp2_with fail
                refine hin.out.mono ?_
                rintro e w3 ⟨rfl, rfl⟩
                clear hin d0
                replace hbr := below_drew hbr
                replace hbF := below_drew hbF
                have c2' : wr.drew.cell? ⟨w.heap.size + 1, 2, none⟩ = some (.slice (some ⟨b, off, none⟩) path.length cp) := c2
                clear c2 c3 m1 hPr
                generalize wr.drew = wd at *
                by_cases h1 : x < 0
                · have h1b : decide (x < 0) = true := by simpa using h1
                  have hno : ¬ 0 ≤ x := by omega
                  clear h1
                  have hres := (hbad.out (by rw [hfo.out]; simp [hno]))
                  subst hres
                  clear hst hbad hfo hno hall
                  go_wp2
                  go_ret
                  exact ⟨rfl, hbF⟩
                · have h1b : decide (x < 0) = false := by simpa using h1
                  by_cases h2 : (H.length : Int) ≤ x
                  · have h2b : decide (x ≥ (H.length : Int)) = true := by simpa using h2
                    have hno : ¬ x < (H.length : Int) := by omega
                    clear h1 h2
                    have hres := (hbad.out (by rw [hfo.out]; simp [hno]))
                    subst hres
                    clear hst hbad hfo hno hall
                    go_wp2
                    go_ret
                    exact ⟨rfl, hbF⟩
                  · have h2b : decide (x ≥ (H.length : Int)) = false := by simpa using h2
                    cases ct with
                    | true =>
                      have hno : True := trivial
                      clear h1 h2
                      have hres := (hbad.out (by rw [hfo.out]; simp [hno]))
                      subst hres
                      clear hst hbad hfo hno hall
                      go_wp2
                      go_ret
                      exact ⟨rfl, hbF⟩
                    | false =>
                      have hgo := hide (hst.out (by rw [hfo.out]; simp; omega))
                      clear hst hbad hfo h1 h2 hall
                      go_wp2
                      go_roundw
                      case rel => exact ⟨k + 1, by omega, by go_num, hgo, hbr⟩
                      case measure => simp [intOf]; omega
              · have hpw := hide (hpW.out fun j hj => hall.out j hj (by omega))
                have hL2 := hide (hL1.out.below hbr)
                clear hall hP1 hfP hpW
                by_cases hl0 : left = []
                · subst hl0
                  have hres := (hnil.out hbase.out hpw.out rfl)
                  have hpe : decide (path = []) = ((path.length : Int) == 0) := by
                    cases path <;> simp
                    omega
                  rw [hpe] at hres
                  subst hres
                  clear hpe hfL hfR hlW hyes hnil
                  go_wp2
                  go_ret
                  exact ⟨rfl, hbF⟩
                · have hl0n : 0 < left.length := List.length_pos_iff.2 hl0
                  have hl0b : ((left.length : Int) == 0) = false := by simp; omega
                  by_cases hle : left.length = path.length + 1
                  · have hleb : ((left.length : Int) != (path.length : Int) + 1) = false := by rw [hle]; simp
                    have hyes2 := hide (hyes.out hbase.out hpw.out hl0 hle)
                    clear hyes hbase hpw hl0 hfL hnil
                    replace hle := hide hle
                    go_wp2_with fail
                    clear c2 c3 hl0n hl0b hleb
                    go_loopw [9] (fun s9 wq => ∃ i : Nat, i ≤ left.length ∧ s9 = .int .i64 i ∧ Hid (∀ j (hj : j < left.length), j < i → riseW left[j] = true ∧ freshW H.length left[j] (path.take j) = true) ∧ Below wr.heap.size wr wq) (fun s9 _ => left.length - (intOf s9).toNat)
                    case atStart => exact ⟨0, Nat.zero_le _, by go_num, hide (fun j hj h => absurd h (by omega)), Below.refl _ _⟩
                    case round =>
                      obtain ⟨Wo, rfl⟩ : ∃ Wo, Wo = wr := ⟨_, rfl⟩
                      obtain ⟨i, hi, rfl, hall, hbq⟩ := hrel
                      have hii : (0 : Int) ≤ (i : Int) := Int.natCast_nonneg _
                      have m2 := m1.below hbq m1.lt
                      have c2 := m2.cell 2
                      have c3 := m2.cell 3
                      simp only [List.getElem?_toArray, List.getElem?_cons_zero, List.getElem?_cons_succ] at c2 c3
                      have hbG := hbF.trans (hbq.mono hbF.size)
                      by_cases hil : i < left.length
                      · have hil2 : (i : Int) < (left.length : Int) := by omega
                        have hip : i ≤ path.length := by have := hle.out; omega
                        obtain ⟨bl, ol, Ar, cr, hA, _, d0, hrow⟩ := (hL2.out.below hbq).at_ hil
                        subst hA
                        have hrl := hs3.out _ (List.getElem_mem hil)
                        have hbad := hide (hfR.out i hil)
                        have hst : Hid (riseW left[i] = true ∧ freshW H.length left[i] (path.take i) = true → ∀ j (hj : j < left.length), j < i + 1 → riseW left[j] = true ∧ freshW H.length left[j] (path.take j) = true) := hide (fun g j hj hjk => by
                          by_cases e : j = i
                          · subst e; exact g
                          · exact hall.out j hj (by omega))
                        have htk := IntS.take (hPr.out.below hbq) hip
                        have hlk : (path.take i).length = i := by rw [List.length_take]; omega
                        have hkc : i ≤ cp := by omega
                        have hcall := hide (rrow30_any H.length Ar cr left[i] Ap cp (path.take i) Wo.drew (hrow.keep (Agree.drew _ _) (fun _ h => h)) (by rw [hlk]; exact htk.keep (Agree.drew _ _) (fun _ h => h)) hrl (by rw [hlk]; omega))
                        rw [hlk] at hcall
                        have hrb : Hid (rowB H.length left[i] (path.take i) = (riseW left[i] && freshW H.length left[i] (path.take i))) := hide rfl
                        clear hlk htk hrow
                        generalize rowB H.length left[i] (path.take i) = rb at *
                        generalize riseW left[i] = rw1 at *
                        generalize freshW H.length left[i] (path.take i) = fw1 at *
                        generalize left[i].length = nl at *
                        go_wp2_with fail
                        refine wp_region_still_tail 10 (by kernel_rfl) (by kernel_rfl) ?_
                        simp only [List.take_succ_cons, List.take_zero, List.drop_succ_cons, List.drop_zero]
                        repeat still_step
                        refine wpStill_nil ?_
                        go_wp2_with fail
                        refine hcall.out.mono ?_
                        rintro e w3 ⟨rfl, hb3⟩
                        have hbR := (below_drew hbq).trans (hb3.mono hbq.size)
                        have hbS := (below_drew hbG).trans (hb3.mono hbG.size)
                        clear hcall hb3 d0 c2 c3 m2 hbG hbq
                        cases rb with
                        | false =>
                          have hres := (hbad.out (by
                            cases rw1
                            · exact .inl rfl
                            · cases fw1
                              · exact .inr rfl
                              · exact absurd hrb.out (by decide)))
                          subst hres
                          clear hst hbad hrb hall hyes2 hfR hlW
                          go_wp2
                          go_ret
                          exact ⟨rfl, hbS⟩
                        | true =>
                          have hgo := hide (hst.out (by
                            have := hrb.out
                            cases rw1
                            · cases this
                            · cases fw1
                              · cases this
                              · exact ⟨rfl, rfl⟩))
                          clear hst hbad hrb hall
                          go_wp2
                          go_roundw
                          case rel => exact ⟨i + 1, by omega, by go_num, hgo, hbR⟩
                          case measure => simp [intOf]; omega
                      · have hres := (hyes2.out (hlW.out fun j hj => hall.out j hj (by omega)))
                        subst hres
                        clear hall hyes2 hfR hlW
                        go_wp2
                        go_ret
                        exact ⟨rfl, hbG⟩
                  · have hleb : ((left.length : Int) != (path.length : Int) + 1) = true := by simp; omega
                    have hres := (hfL.out hl0 hle)
                    subst hres
                    clear hle hl0 hfL hfR hlW hyes hnil
                    go_wp2
                    go_ret
                    exact ⟨rfl, hbF⟩
        · have hres := (hfB.out (by rw [hbW.out]; simp [hp]))
          have hmb : decide ((path.length : Int) ≥ (H.length : Int)) = true := decide_eq_true (by omega)
          have hme : decide (H.length ≤ path.length) = true := decide_eq_true (by omega)
          have hmc : decide ((path.length : Int) > 0) = true := decide_eq_true (by omega)
          have hmd : decide (0 < path.length) = true := decide_eq_true (by omega)
          subst hres
          clear hp hw1 hw2 hfB hfP hfL hfR hpW hlW hyes hnil hbW
          go_wp2
          go_ret
          exact ⟨rfl, hb⟩
      · have hw2b : decide (width > 32) = true := by simpa using hw2
        have hres := (hfB.out (by rw [hbW.out]; simp [hw2]))
        subst hres
        clear hw2 hfB hfP hfL hfR hpW hlW hyes hnil hbW
        go_wp2
        go_ret
        exact ⟨rfl, hb⟩
    · have hw1b : decide (width < 1) = true := by simpa using hw1
      have hres := (hfB.out (by rw [hbW.out]; simp [hw1]))
      subst hres
      clear hw1 hfB hfP hfL hfR hpW hlW hyes hnil hbW
      go_wp2
      go_ret
      exact ⟨rfl, hb⟩
end Go.Proofs.YtfodlklpfffaaaaGreatDoor
