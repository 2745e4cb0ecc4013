/-
  Walks: layer 22: whether a fact holds, whatever its reason.
-/
import Derived.Test.YtjomijnbnbideaaGreatDoorM15
import Derived.Test.YtjomijnbnbideaaGreatDoorM16
import Derived.Test.YtjomijnbnbideaaGreatDoorM18
set_option linter.unusedVariables false
set_option linter.unusedSimpArgs false
namespace Go.Proofs.YtjomijnbnbideaaGreatDoor
open Go.RowKit Go.Inq
set_option maxHeartbeats 8000000
attribute [local go_sem ↓] Go.wp_at_zero Go.wp_at_succ

theorem holds_eq {H : List Txn} {level : Int} {L : List Fct} {f : Fct} : holdsB H level L f = (mayB H level && oneB H f.c && (decide (f.kind = 4) || decide (f.cyc = [])) && whyB H level L f) := rfl
theorem why_1 {H : List Txn} {level : Int} {L : List Fct} {f : Fct} (h : f.kind = 1) : whyB H level L f = axB H f := by unfold whyB; rw [if_pos h]
theorem why_2 {H : List Txn} {level : Int} {L : List Fct} {f : Fct} (h : f.kind = 2) : whyB H level L f = joinB L f := by unfold whyB; rw [if_neg (by omega), if_pos h]
theorem why_3 {H : List Txn} {level : Int} {L : List Fct} {f : Fct} (h : f.kind = 3) : whyB H level L f = seenF H f := by unfold whyB; rw [if_neg (by omega), if_neg (by omega), if_pos h]
theorem why_4 {H : List Txn} {level : Int} {L : List Fct} {f : Fct} (h : f.kind = 4) : whyB H level L f = forcB H level L f := by unfold whyB; rw [if_neg (by omega), if_neg (by omega), if_neg (by omega), if_pos h]
theorem why_0 {H : List Txn} {level : Int} {L : List Fct} {f : Fct} (h : f.kind ≠ 1 ∧ f.kind ≠ 2 ∧ f.kind ≠ 3 ∧ f.kind ≠ 4) : whyB H level L f = false := by unfold whyB; rw [if_neg h.1, if_neg h.2.1, if_neg h.2.2.1, if_neg h.2.2.2]
set_option maxRecDepth 100000 in
theorem holds22_all (A : Option Addr) (c : Nat) (H : List Txn) (level : Int) (Al : Option Addr) (cl : Nat) (L : List Fct) (f : Fct) (Ac : Option Addr) (cc : Nat) (w : World) (h : TxnS w (Old w) (.slice A H.length c) H) (hn : SmallH H) (hL : FctS w (Old w) (.slice Al L.length cl) L) (hl : L.length ≤ 1000000) (hy : IntS w (Old w) (.slice Ac f.cyc.length cc) f.cyc) (hyl : f.cyc.length ≤ 1000000) :
    Calls Tryz.prog 26 #[.agg #[.slice A H.length c], .int .i64 level, .slice Al L.length cl, .agg #[.int .i64 f.c.key, .int .i64 f.c.a, .int .i64 f.c.b, .int .i64 f.kind, .int .i64 f.i, .int .i64 f.j, .slice Ac f.cyc.length cc]] w fun e w' => e = .returned (.bool (holdsB H level L f)) ∧ Below w.heap.size w w' := by
  have hfm := hide (holds_eq (H := H) (level := level) (L := L) (f := f))
  have hax := hide (fun W (hb : Below w.heap.size w W) => ax22_any A c H level (.slice Al L.length cl) f (.slice Ac f.cyc.length cc) W (h.below hb) hn)
  have hse := hide (fun W (hb : Below w.heap.size w W) => seen22_any A c H level (.slice Al L.length cl) f (.slice Ac f.cyc.length cc) W (h.below hb) hn)
  have hjo := hide (fun W (hb : Below w.heap.size w W) => joined22_any A c H.length level Al cl L f (.slice Ac f.cyc.length cc) W (hL.below hb) hl)
  have hfo := hide (fun W (hb : Below w.heap.size w W) => forced22_any A c H level Al cl L f Ac cc W (h.below hb) hn (hL.below hb) hl (hy.below hb) hyl)
  have hma := hide (fun W (hb : Below w.heap.size w W) => may22_any A c H level W (h.below hb) hn)
  have hch := hide (fun W (hb : Below w.heap.size w W) => choice22_any A c H f.c.key f.c.a f.c.b W (h.below hb) hn)
  obtain ⟨r, hr⟩ : ∃ r, holdsB H level L f = r := ⟨_, rfl⟩
  rw [hr] at hfm
  rw [hr]
  obtain ⟨⟨key, a, b⟩, kind, i, j, cyc⟩ := f
  dsimp only at *
  have hm2 : Hid (mayB H level = (rightH H && (decide (level = 0) || decide (level = 1)))) := hide rfl
  rw [← hm2.out] at hma
  have ho2 : Hid (oneB H ⟨key, a, b⟩ = oneB H ⟨key, a, b⟩) := hide rfl
  generalize mayB H level = qm at *
  generalize oneB H ⟨key, a, b⟩ = qo at *
  obtain ⟨W0, hW0⟩ : ∃ W0, (w.alloc (.cells #[.slice A H.length c] 24)).alloc (.cells #[.int .i64 key, .int .i64 a, .int .i64 b, .int .i64 kind, .int .i64 i, .int .i64 j, .slice Ac cyc.length cc] 51) = W0 := ⟨_, rfl⟩
  have hB := below_two hW0
  have k0 := Blk.two1 hW0
  have k1 := Blk.two2 hW0
  have c0 := Blk.n0 k0
  have hm1 := hide (hma.out W0 hB)
  clear h hr hma hm2 ho2 hy hL
  go_enter Tryz.func26, Tryz.ntmps26
  go_wp2_with fail
  refine hm1.out.mono ?_
  rintro e w1 ⟨rfl, hb1⟩
  replace k0 := k0.below hb1 k0.lt
  replace k1 := k1.below hb1 k1.lt
  have hb2 := hB.trans (hb1.mono hB.size)
  have hch1 := hide (hch.out w1 hb2)
  clear hW0 c0 hm1 hch hB hb1
  have c0 := Blk.n0 k0
  have d0 := Blk.n0 k1
  have d1 := Blk.n1 k1
  have d2 := Blk.n2 k1
  cases qm with
  | false =>
    have hre : r = false := by rw [hfm.out]; rfl
    subst hre
    clear hfm hax hse hjo hfo hch1
    go_wp2
    go_ret
    exact ⟨rfl, hb2⟩
  | true =>
    go_wp2_with fail
    refine hch1.out.mono ?_
    rintro e w2 ⟨rfl, hb3⟩
    replace k0 := k0.below hb3 k0.lt
    replace k1 := k1.below hb3 k1.lt
    have hb4 := hb2.trans (hb3.mono hb2.size)
    clear hch1 c0 d0 d1 d2 hb2 hb3
    cases qo with
    | false =>
      have hre : r = false := by rw [hfm.out]; rfl
      subst hre
      clear hfm hax hse hjo hfo
      go_wp2
      go_ret
      exact ⟨rfl, hb4⟩
    | true =>
      by_cases h4 : kind = 4
      · have hkn : (kind != 4) = false := by simp [h4]
        have hw := hide (show r = whyB H level L ⟨⟨key, a, b⟩, kind, i, j, cyc⟩ by rw [hfm.out, decide_eq_true h4]; simp)
        clear hfm
        replace h4 := hide h4
        have d3 := Blk.n3 k1
        have d6 := Blk.n6 k1
        go_wp2_with fail
        refine (reasons22_any w2).mono ?_
        rintro e w3 ⟨rfl, kr, hb5⟩
        have hsz : w.heap.size + 1 < w2.heap.size := k1.lt
        replace k0 := k0.below hb5 k0.lt
        replace k1 := k1.below hb5 k1.lt
        have hb6 := hb4.trans (hb5.mono hb4.size)
        have hsr := hb4.size
        have hsk := k1.lt
        clear d3 d6 hb4 hb5
        generalize w2.heap.size = pr at *
        go_wp2_with fail
        go_loopw [35] (fun s35 wr => ∃ k : Nat, k ≤ 4 ∧ s35 = .int .i64 (k : Int) ∧ Hid (∀ z : Nat, z < k → kind ≠ (z : Int) + 1) ∧ Blk wr w.heap.size 24 #[.slice A H.length c] ∧ Blk wr (w.heap.size + 1) 51 #[.int .i64 key, .int .i64 a, .int .i64 b, .int .i64 kind, .int .i64 i, .int .i64 j, .slice Ac cyc.length cc] ∧ Blk wr pr 136 #[.int .i64 1, .func (.func 134) #[] #[], .int .i64 2, .func (.func 135) #[] #[], .int .i64 3, .func (.func 136) #[] #[], .int .i64 4, .func (.func 137) #[] #[]] ∧ Below w.heap.size w wr) (fun s35 _ => 4 - (intOf s35).toNat)
        case atStart => exact ⟨0, by omega, by go_num, hide fun z hz => absurd hz (by omega), k0, k1, kr, hb6⟩
        case round =>
          clear k0 k1 kr hb6 hsr hsk
          obtain ⟨Wo, rfl⟩ : ∃ Wo, Wo = wr := ⟨_, rfl⟩
          obtain ⟨k, hkk, rfl, hno, k0, k1, kr, hb⟩ := hrel
          have hk2 : k = 0 ∨ k = 1 ∨ k = 2 ∨ k = 3 ∨ k = 4 := by omega
          have hsw := hb.size
          have c0 := Blk.n0 k0
          have d0 := Blk.n0 k1
          have d1 := Blk.n1 k1
          have d2 := Blk.n2 k1
          have d3 := Blk.n3 k1
          have d4 := Blk.n4 k1
          have d5 := Blk.n5 k1
          have d6 := Blk.n6 k1
          have r0 := Blk.n0 kr
          have r1 := Blk.n1 kr
          have r2 := Blk.n2 kr
          have r3 := Blk.n3 kr
          have r4 := Blk.n4 kr
          have r5 := Blk.n5 kr
          have r6 := Blk.n6 kr
          have r7 := Blk.n7 kr
          clear hkk
          rcases hk2 with rfl | rfl | rfl | rfl | rfl
          · have hA := below_allocEq hb (W := Wo.alloc (.cells #[.int .i64 1, .func (.func 134) #[] #[]] 136)) rfl hsw
            have m0 := (k0.alloc (.cells #[.int .i64 1, .func (.func 134) #[] #[]] 136))
            have m1 := (k1.alloc (.cells #[.int .i64 1, .func (.func 134) #[] #[]] 136))
            have mr := (kr.alloc (.cells #[.int .i64 1, .func (.func 134) #[] #[]] 136))
            by_cases hq : kind = 1
            · subst hq
              have hcl := hide (hax.out _ hA)
              have hre := hide (hw.out.trans (why_1 (f := ⟨⟨key, a, b⟩, 1, i, j, cyc⟩) rfl))
              rw [← hre.out] at hcl
              clear hw hre hax hse hjo hfo m0 m1 mr hno
              go_upto_region 6 with fail
              generalize hWa : Wo.alloc (.cells #[.int .i64 1, .func (.func 134) #[] #[]] 136) = Wa at *
              have n0 := k0.allocEq hWa
              have n1 := k1.allocEq hWa
              have nn := Blk.newEq hWa
              clear hWa
              have f0 := Blk.n0 n0
              have q0 := Blk.n0 n1
              have q1 := Blk.n1 n1
              have q2 := Blk.n2 n1
              have q3 := Blk.n3 n1
              have q4 := Blk.n4 n1
              have q5 := Blk.n5 n1
              have q6 := Blk.n6 n1
              have nn0 := Blk.n0 nn
              have nn1 := Blk.n1 nn
              go_wp2_with fail
              refine hcl.out.mono ?_
              rintro e w5 ⟨rfl, hb7⟩
              go_wp2
              go_ret
              exact ⟨rfl, hA.trans (hb7.mono hA.size)⟩
            · have gq : ((1 : Int) == kind) = false := by rw [beq_eq_false_iff_ne]; omega
              have hkn2 : Hid (∀ z : Nat, z < 0 + 1 → kind ≠ (z : Int) + 1) := hide (fun z hz => by
                by_cases e : z = 0
                · subst e; omega
                · exact hno.out z (by omega))
              replace hq := hide hq
              go_upto_region 6 with fail
              generalize hWa : Wo.alloc (.cells #[.int .i64 1, .func (.func 134) #[] #[]] 136) = Wa at *
              have n1 := k1.allocEq hWa
              have nn := Blk.newEq hWa
              clear hWa
              have q3 := Blk.n3 n1
              have nn0 := Blk.n0 nn
              go_wp2
              go_roundw
              case rel => exact ⟨0 + 1, by omega, by go_num, hkn2, m0, m1, mr, hA⟩
              case measure => simp [intOf]
          · have hA := below_allocEq hb (W := Wo.alloc (.cells #[.int .i64 2, .func (.func 135) #[] #[]] 136)) rfl hsw
            have m0 := (k0.alloc (.cells #[.int .i64 2, .func (.func 135) #[] #[]] 136))
            have m1 := (k1.alloc (.cells #[.int .i64 2, .func (.func 135) #[] #[]] 136))
            have mr := (kr.alloc (.cells #[.int .i64 2, .func (.func 135) #[] #[]] 136))
            by_cases hq : kind = 2
            · subst hq
              have hcl := hide (hjo.out _ hA)
              have hre := hide (hw.out.trans (why_2 (f := ⟨⟨key, a, b⟩, 2, i, j, cyc⟩) rfl))
              rw [← hre.out] at hcl
              clear hw hre hax hse hjo hfo m0 m1 mr hno
              go_upto_region 6 with fail
              generalize hWa : Wo.alloc (.cells #[.int .i64 2, .func (.func 135) #[] #[]] 136) = Wa at *
              have n0 := k0.allocEq hWa
              have n1 := k1.allocEq hWa
              have nn := Blk.newEq hWa
              clear hWa
              have f0 := Blk.n0 n0
              have q0 := Blk.n0 n1
              have q1 := Blk.n1 n1
              have q2 := Blk.n2 n1
              have q3 := Blk.n3 n1
              have q4 := Blk.n4 n1
              have q5 := Blk.n5 n1
              have q6 := Blk.n6 n1
              have nn0 := Blk.n0 nn
              have nn1 := Blk.n1 nn
              go_wp2_with fail
              refine hcl.out.mono ?_
              rintro e w5 ⟨rfl, hb7⟩
              go_wp2
              go_ret
              exact ⟨rfl, hA.trans (hb7.mono hA.size)⟩
            · have gq : ((2 : Int) == kind) = false := by rw [beq_eq_false_iff_ne]; omega
              have hkn2 : Hid (∀ z : Nat, z < 1 + 1 → kind ≠ (z : Int) + 1) := hide (fun z hz => by
                by_cases e : z = 1
                · subst e; omega
                · exact hno.out z (by omega))
              replace hq := hide hq
              go_upto_region 6 with fail
              generalize hWa : Wo.alloc (.cells #[.int .i64 2, .func (.func 135) #[] #[]] 136) = Wa at *
              have n1 := k1.allocEq hWa
              have nn := Blk.newEq hWa
              clear hWa
              have q3 := Blk.n3 n1
              have nn0 := Blk.n0 nn
              go_wp2
              go_roundw
              case rel => exact ⟨1 + 1, by omega, by go_num, hkn2, m0, m1, mr, hA⟩
              case measure => simp [intOf]
          · have hA := below_allocEq hb (W := Wo.alloc (.cells #[.int .i64 3, .func (.func 136) #[] #[]] 136)) rfl hsw
            have m0 := (k0.alloc (.cells #[.int .i64 3, .func (.func 136) #[] #[]] 136))
            have m1 := (k1.alloc (.cells #[.int .i64 3, .func (.func 136) #[] #[]] 136))
            have mr := (kr.alloc (.cells #[.int .i64 3, .func (.func 136) #[] #[]] 136))
            by_cases hq : kind = 3
            · subst hq
              have hcl := hide (hse.out _ hA)
              have hre := hide (hw.out.trans (why_3 (f := ⟨⟨key, a, b⟩, 3, i, j, cyc⟩) rfl))
              rw [← hre.out] at hcl
              clear hw hre hax hse hjo hfo m0 m1 mr hno
              go_upto_region 6 with fail
              generalize hWa : Wo.alloc (.cells #[.int .i64 3, .func (.func 136) #[] #[]] 136) = Wa at *
              have n0 := k0.allocEq hWa
              have n1 := k1.allocEq hWa
              have nn := Blk.newEq hWa
              clear hWa
              have f0 := Blk.n0 n0
              have q0 := Blk.n0 n1
              have q1 := Blk.n1 n1
              have q2 := Blk.n2 n1
              have q3 := Blk.n3 n1
              have q4 := Blk.n4 n1
              have q5 := Blk.n5 n1
              have q6 := Blk.n6 n1
              have nn0 := Blk.n0 nn
              have nn1 := Blk.n1 nn
              go_wp2_with fail
              refine hcl.out.mono ?_
              rintro e w5 ⟨rfl, hb7⟩
              go_wp2
              go_ret
              exact ⟨rfl, hA.trans (hb7.mono hA.size)⟩
            · have gq : ((3 : Int) == kind) = false := by rw [beq_eq_false_iff_ne]; omega
              have hkn2 : Hid (∀ z : Nat, z < 2 + 1 → kind ≠ (z : Int) + 1) := hide (fun z hz => by
                by_cases e : z = 2
                · subst e; omega
                · exact hno.out z (by omega))
              replace hq := hide hq
              go_upto_region 6 with fail
              generalize hWa : Wo.alloc (.cells #[.int .i64 3, .func (.func 136) #[] #[]] 136) = Wa at *
              have n1 := k1.allocEq hWa
              have nn := Blk.newEq hWa
              clear hWa
              have q3 := Blk.n3 n1
              have nn0 := Blk.n0 nn
              go_wp2
              go_roundw
              case rel => exact ⟨2 + 1, by omega, by go_num, hkn2, m0, m1, mr, hA⟩
              case measure => simp [intOf]
          · have hA := below_allocEq hb (W := Wo.alloc (.cells #[.int .i64 4, .func (.func 137) #[] #[]] 136)) rfl hsw
            have m0 := (k0.alloc (.cells #[.int .i64 4, .func (.func 137) #[] #[]] 136))
            have m1 := (k1.alloc (.cells #[.int .i64 4, .func (.func 137) #[] #[]] 136))
            have mr := (kr.alloc (.cells #[.int .i64 4, .func (.func 137) #[] #[]] 136))
            by_cases hq : kind = 4
            · subst hq
              have hcl := hide (hfo.out _ hA)
              have hre := hide (hw.out.trans (why_4 (f := ⟨⟨key, a, b⟩, 4, i, j, cyc⟩) rfl))
              rw [← hre.out] at hcl
              clear hw hre hax hse hjo hfo m0 m1 mr hno
              go_upto_region 6 with fail
              generalize hWa : Wo.alloc (.cells #[.int .i64 4, .func (.func 137) #[] #[]] 136) = Wa at *
              have n0 := k0.allocEq hWa
              have n1 := k1.allocEq hWa
              have nn := Blk.newEq hWa
              clear hWa
              have f0 := Blk.n0 n0
              have q0 := Blk.n0 n1
              have q1 := Blk.n1 n1
              have q2 := Blk.n2 n1
              have q3 := Blk.n3 n1
              have q4 := Blk.n4 n1
              have q5 := Blk.n5 n1
              have q6 := Blk.n6 n1
              have nn0 := Blk.n0 nn
              have nn1 := Blk.n1 nn
              go_wp2_with fail
              refine hcl.out.mono ?_
              rintro e w5 ⟨rfl, hb7⟩
              go_wp2
              go_ret
              exact ⟨rfl, hA.trans (hb7.mono hA.size)⟩
            · have gq : ((4 : Int) == kind) = false := by rw [beq_eq_false_iff_ne]; omega
              have hkn2 : Hid (∀ z : Nat, z < 3 + 1 → kind ≠ (z : Int) + 1) := hide (fun z hz => by
                by_cases e : z = 3
                · subst e; omega
                · exact hno.out z (by omega))
              replace hq := hide hq
              go_upto_region 6 with fail
              generalize hWa : Wo.alloc (.cells #[.int .i64 4, .func (.func 137) #[] #[]] 136) = Wa at *
              have n1 := k1.allocEq hWa
              have nn := Blk.newEq hWa
              clear hWa
              have q3 := Blk.n3 n1
              have nn0 := Blk.n0 nn
              go_wp2
              go_roundw
              case rel => exact ⟨3 + 1, by omega, by go_num, hkn2, m0, m1, mr, hA⟩
              case measure => simp [intOf]
          · have hre : r = false := hw.out.trans (why_0 (f := ⟨⟨key, a, b⟩, kind, i, j, cyc⟩) ⟨fun e => hno.out 0 (by omega) (by rw [show kind = 1 from e]; rfl), fun e => hno.out 1 (by omega) (by rw [show kind = 2 from e]; rfl), fun e => hno.out 2 (by omega) (by rw [show kind = 3 from e]; rfl), fun e => hno.out 3 (by omega) (by rw [show kind = 4 from e]; rfl)⟩)
            subst hre
            clear hw hax hse hjo hfo hno
            go_wp2
            go_ret
            exact ⟨rfl, hb⟩
      · have hkn : (kind != 4) = true := by simpa using h4
        by_cases hc0 : 0 < cyc.length
        · have g1 : decide ((cyc.length : Int) > 0) = true := by simp; omega
          have g2 : decide (0 < cyc.length) = true := by simp; omega
          have hre : r = false := by
            have : ¬ cyc = [] := by intro e; rw [e] at hc0; simp at hc0
            rw [hfm.out]; simp [this, h4]
          have d3 := Blk.n3 k1
          have d6 := Blk.n6 k1
          subst hre
          clear hfm hax hse hjo hfo hc0 h4
          go_wp2
          go_ret
          exact ⟨rfl, hb4⟩
        · have hcn : cyc = [] := List.eq_nil_of_length_eq_zero (by omega)
          have g1 : decide ((cyc.length : Int) > 0) = false := by simp; omega
          have g2 : decide (0 < cyc.length) = false := by simp; omega
          have hw := hide (show r = whyB H level L ⟨⟨key, a, b⟩, kind, i, j, cyc⟩ by rw [hfm.out, decide_eq_true hcn]; simp)
          clear hfm hc0 hcn
          replace h4 := hide h4
          have d3 := Blk.n3 k1
          have d6 := Blk.n6 k1
          go_wp2_with fail
          refine (reasons22_any w2).mono ?_
          rintro e w3 ⟨rfl, kr, hb5⟩
          have hsz : w.heap.size + 1 < w2.heap.size := k1.lt
          replace k0 := k0.below hb5 k0.lt
          replace k1 := k1.below hb5 k1.lt
          have hb6 := hb4.trans (hb5.mono hb4.size)
          have hsr := hb4.size
          have hsk := k1.lt
          clear d3 d6 hb4 hb5
          generalize w2.heap.size = pr at *
          go_wp2_with fail
          go_loopw [35] (fun s35 wr => ∃ k : Nat, k ≤ 4 ∧ s35 = .int .i64 (k : Int) ∧ Hid (∀ z : Nat, z < k → kind ≠ (z : Int) + 1) ∧ Blk wr w.heap.size 24 #[.slice A H.length c] ∧ Blk wr (w.heap.size + 1) 51 #[.int .i64 key, .int .i64 a, .int .i64 b, .int .i64 kind, .int .i64 i, .int .i64 j, .slice Ac cyc.length cc] ∧ Blk wr pr 136 #[.int .i64 1, .func (.func 134) #[] #[], .int .i64 2, .func (.func 135) #[] #[], .int .i64 3, .func (.func 136) #[] #[], .int .i64 4, .func (.func 137) #[] #[]] ∧ Below w.heap.size w wr) (fun s35 _ => 4 - (intOf s35).toNat)
          case atStart => exact ⟨0, by omega, by go_num, hide fun z hz => absurd hz (by omega), k0, k1, kr, hb6⟩
          case round =>
            clear k0 k1 kr hb6 hsr hsk
            obtain ⟨Wo, rfl⟩ : ∃ Wo, Wo = wr := ⟨_, rfl⟩
            obtain ⟨k, hkk, rfl, hno, k0, k1, kr, hb⟩ := hrel
            have hk2 : k = 0 ∨ k = 1 ∨ k = 2 ∨ k = 3 ∨ k = 4 := by omega
            have hsw := hb.size
            have c0 := Blk.n0 k0
            have d0 := Blk.n0 k1
            have d1 := Blk.n1 k1
            have d2 := Blk.n2 k1
            have d3 := Blk.n3 k1
            have d4 := Blk.n4 k1
            have d5 := Blk.n5 k1
            have d6 := Blk.n6 k1
            have r0 := Blk.n0 kr
            have r1 := Blk.n1 kr
            have r2 := Blk.n2 kr
            have r3 := Blk.n3 kr
            have r4 := Blk.n4 kr
            have r5 := Blk.n5 kr
            have r6 := Blk.n6 kr
            have r7 := Blk.n7 kr
            clear hkk
            rcases hk2 with rfl | rfl | rfl | rfl | rfl
            · have hA := below_allocEq hb (W := Wo.alloc (.cells #[.int .i64 1, .func (.func 134) #[] #[]] 136)) rfl hsw
              have m0 := (k0.alloc (.cells #[.int .i64 1, .func (.func 134) #[] #[]] 136))
              have m1 := (k1.alloc (.cells #[.int .i64 1, .func (.func 134) #[] #[]] 136))
              have mr := (kr.alloc (.cells #[.int .i64 1, .func (.func 134) #[] #[]] 136))
              by_cases hq : kind = 1
              · subst hq
                have hcl := hide (hax.out _ hA)
                have hre := hide (hw.out.trans (why_1 (f := ⟨⟨key, a, b⟩, 1, i, j, cyc⟩) rfl))
                rw [← hre.out] at hcl
                clear hw hre hax hse hjo hfo m0 m1 mr hno
                go_upto_region 6 with fail
                generalize hWa : Wo.alloc (.cells #[.int .i64 1, .func (.func 134) #[] #[]] 136) = Wa at *
                have n0 := k0.allocEq hWa
                have n1 := k1.allocEq hWa
                have nn := Blk.newEq hWa
                clear hWa
                have f0 := Blk.n0 n0
                have q0 := Blk.n0 n1
                have q1 := Blk.n1 n1
                have q2 := Blk.n2 n1
                have q3 := Blk.n3 n1
                have q4 := Blk.n4 n1
                have q5 := Blk.n5 n1
                have q6 := Blk.n6 n1
                have nn0 := Blk.n0 nn
                have nn1 := Blk.n1 nn
                go_wp2_with fail
                refine hcl.out.mono ?_
                rintro e w5 ⟨rfl, hb7⟩
                go_wp2
                go_ret
                exact ⟨rfl, hA.trans (hb7.mono hA.size)⟩
              · have gq : ((1 : Int) == kind) = false := by rw [beq_eq_false_iff_ne]; omega
                have hkn2 : Hid (∀ z : Nat, z < 0 + 1 → kind ≠ (z : Int) + 1) := hide (fun z hz => by
                  by_cases e : z = 0
                  · subst e; omega
                  · exact hno.out z (by omega))
                replace hq := hide hq
                go_upto_region 6 with fail
                generalize hWa : Wo.alloc (.cells #[.int .i64 1, .func (.func 134) #[] #[]] 136) = Wa at *
                have n1 := k1.allocEq hWa
                have nn := Blk.newEq hWa
                clear hWa
                have q3 := Blk.n3 n1
                have nn0 := Blk.n0 nn
                go_wp2
                go_roundw
                case rel => exact ⟨0 + 1, by omega, by go_num, hkn2, m0, m1, mr, hA⟩
                case measure => simp [intOf]
            · have hA := below_allocEq hb (W := Wo.alloc (.cells #[.int .i64 2, .func (.func 135) #[] #[]] 136)) rfl hsw
              have m0 := (k0.alloc (.cells #[.int .i64 2, .func (.func 135) #[] #[]] 136))
              have m1 := (k1.alloc (.cells #[.int .i64 2, .func (.func 135) #[] #[]] 136))
              have mr := (kr.alloc (.cells #[.int .i64 2, .func (.func 135) #[] #[]] 136))
              by_cases hq : kind = 2
              · subst hq
                have hcl := hide (hjo.out _ hA)
                have hre := hide (hw.out.trans (why_2 (f := ⟨⟨key, a, b⟩, 2, i, j, cyc⟩) rfl))
                rw [← hre.out] at hcl
                clear hw hre hax hse hjo hfo m0 m1 mr hno
                go_upto_region 6 with fail
                generalize hWa : Wo.alloc (.cells #[.int .i64 2, .func (.func 135) #[] #[]] 136) = Wa at *
                have n0 := k0.allocEq hWa
                have n1 := k1.allocEq hWa
                have nn := Blk.newEq hWa
                clear hWa
                have f0 := Blk.n0 n0
                have q0 := Blk.n0 n1
                have q1 := Blk.n1 n1
                have q2 := Blk.n2 n1
                have q3 := Blk.n3 n1
                have q4 := Blk.n4 n1
                have q5 := Blk.n5 n1
                have q6 := Blk.n6 n1
                have nn0 := Blk.n0 nn
                have nn1 := Blk.n1 nn
                go_wp2_with fail
                refine hcl.out.mono ?_
                rintro e w5 ⟨rfl, hb7⟩
                go_wp2
                go_ret
                exact ⟨rfl, hA.trans (hb7.mono hA.size)⟩
              · have gq : ((2 : Int) == kind) = false := by rw [beq_eq_false_iff_ne]; omega
                have hkn2 : Hid (∀ z : Nat, z < 1 + 1 → kind ≠ (z : Int) + 1) := hide (fun z hz => by
                  by_cases e : z = 1
                  · subst e; omega
                  · exact hno.out z (by omega))
                replace hq := hide hq
                go_upto_region 6 with fail
                generalize hWa : Wo.alloc (.cells #[.int .i64 2, .func (.func 135) #[] #[]] 136) = Wa at *
                have n1 := k1.allocEq hWa
                have nn := Blk.newEq hWa
                clear hWa
                have q3 := Blk.n3 n1
                have nn0 := Blk.n0 nn
                go_wp2
                go_roundw
                case rel => exact ⟨1 + 1, by omega, by go_num, hkn2, m0, m1, mr, hA⟩
                case measure => simp [intOf]
            · have hA := below_allocEq hb (W := Wo.alloc (.cells #[.int .i64 3, .func (.func 136) #[] #[]] 136)) rfl hsw
              have m0 := (k0.alloc (.cells #[.int .i64 3, .func (.func 136) #[] #[]] 136))
              have m1 := (k1.alloc (.cells #[.int .i64 3, .func (.func 136) #[] #[]] 136))
              have mr := (kr.alloc (.cells #[.int .i64 3, .func (.func 136) #[] #[]] 136))
              by_cases hq : kind = 3
              · subst hq
                have hcl := hide (hse.out _ hA)
                have hre := hide (hw.out.trans (why_3 (f := ⟨⟨key, a, b⟩, 3, i, j, cyc⟩) rfl))
                rw [← hre.out] at hcl
                clear hw hre hax hse hjo hfo m0 m1 mr hno
                go_upto_region 6 with fail
                generalize hWa : Wo.alloc (.cells #[.int .i64 3, .func (.func 136) #[] #[]] 136) = Wa at *
                have n0 := k0.allocEq hWa
                have n1 := k1.allocEq hWa
                have nn := Blk.newEq hWa
                clear hWa
                have f0 := Blk.n0 n0
                have q0 := Blk.n0 n1
                have q1 := Blk.n1 n1
                have q2 := Blk.n2 n1
                have q3 := Blk.n3 n1
                have q4 := Blk.n4 n1
                have q5 := Blk.n5 n1
                have q6 := Blk.n6 n1
                have nn0 := Blk.n0 nn
                have nn1 := Blk.n1 nn
                go_wp2_with fail
                refine hcl.out.mono ?_
                rintro e w5 ⟨rfl, hb7⟩
                go_wp2
                go_ret
                exact ⟨rfl, hA.trans (hb7.mono hA.size)⟩
              · have gq : ((3 : Int) == kind) = false := by rw [beq_eq_false_iff_ne]; omega
                have hkn2 : Hid (∀ z : Nat, z < 2 + 1 → kind ≠ (z : Int) + 1) := hide (fun z hz => by
                  by_cases e : z = 2
                  · subst e; omega
                  · exact hno.out z (by omega))
                replace hq := hide hq
                go_upto_region 6 with fail
                generalize hWa : Wo.alloc (.cells #[.int .i64 3, .func (.func 136) #[] #[]] 136) = Wa at *
                have n1 := k1.allocEq hWa
                have nn := Blk.newEq hWa
                clear hWa
                have q3 := Blk.n3 n1
                have nn0 := Blk.n0 nn
                go_wp2
                go_roundw
                case rel => exact ⟨2 + 1, by omega, by go_num, hkn2, m0, m1, mr, hA⟩
                case measure => simp [intOf]
            · have hA := below_allocEq hb (W := Wo.alloc (.cells #[.int .i64 4, .func (.func 137) #[] #[]] 136)) rfl hsw
              have m0 := (k0.alloc (.cells #[.int .i64 4, .func (.func 137) #[] #[]] 136))
              have m1 := (k1.alloc (.cells #[.int .i64 4, .func (.func 137) #[] #[]] 136))
              have mr := (kr.alloc (.cells #[.int .i64 4, .func (.func 137) #[] #[]] 136))
              by_cases hq : kind = 4
              · subst hq
                have hcl := hide (hfo.out _ hA)
                have hre := hide (hw.out.trans (why_4 (f := ⟨⟨key, a, b⟩, 4, i, j, cyc⟩) rfl))
                rw [← hre.out] at hcl
                clear hw hre hax hse hjo hfo m0 m1 mr hno
                go_upto_region 6 with fail
                generalize hWa : Wo.alloc (.cells #[.int .i64 4, .func (.func 137) #[] #[]] 136) = Wa at *
                have n0 := k0.allocEq hWa
                have n1 := k1.allocEq hWa
                have nn := Blk.newEq hWa
                clear hWa
                have f0 := Blk.n0 n0
                have q0 := Blk.n0 n1
                have q1 := Blk.n1 n1
                have q2 := Blk.n2 n1
                have q3 := Blk.n3 n1
                have q4 := Blk.n4 n1
                have q5 := Blk.n5 n1
                have q6 := Blk.n6 n1
                have nn0 := Blk.n0 nn
                have nn1 := Blk.n1 nn
                go_wp2_with fail
                refine hcl.out.mono ?_
                rintro e w5 ⟨rfl, hb7⟩
                go_wp2
                go_ret
                exact ⟨rfl, hA.trans (hb7.mono hA.size)⟩
              · have gq : ((4 : Int) == kind) = false := by rw [beq_eq_false_iff_ne]; omega
                have hkn2 : Hid (∀ z : Nat, z < 3 + 1 → kind ≠ (z : Int) + 1) := hide (fun z hz => by
                  by_cases e : z = 3
                  · subst e; omega
                  · exact hno.out z (by omega))
                replace hq := hide hq
                go_upto_region 6 with fail
                generalize hWa : Wo.alloc (.cells #[.int .i64 4, .func (.func 137) #[] #[]] 136) = Wa at *
                have n1 := k1.allocEq hWa
                have nn := Blk.newEq hWa
                clear hWa
                have q3 := Blk.n3 n1
                have nn0 := Blk.n0 nn
                go_wp2
                go_roundw
                case rel => exact ⟨3 + 1, by omega, by go_num, hkn2, m0, m1, mr, hA⟩
                case measure => simp [intOf]
            · have hre : r = false := hw.out.trans (why_0 (f := ⟨⟨key, a, b⟩, kind, i, j, cyc⟩) ⟨fun e => hno.out 0 (by omega) (by rw [show kind = 1 from e]; rfl), fun e => hno.out 1 (by omega) (by rw [show kind = 2 from e]; rfl), fun e => hno.out 2 (by omega) (by rw [show kind = 3 from e]; rfl), fun e => hno.out 3 (by omega) (by rw [show kind = 4 from e]; rfl)⟩)
              subst hre
              clear hw hax hse hjo hfo hno
              go_wp2
              go_ret
              exact ⟨rfl, hb⟩
end Go.Proofs.YtjomijnbnbideaaGreatDoor
