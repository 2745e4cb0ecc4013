/-
  Walks: layer 22: whether a fact holds by none (an axiom, or somebody who has the one and reads the other one).
-/
import Derived.Test.YtjomijnbnbideaaGreatDoorT21
set_option linter.unusedVariables false
set_option linter.unusedSimpArgs false
namespace Go.Proofs.YtjomijnbnbideaaGreatDoor
open Go.RowKit Go.Inq
set_option maxHeartbeats 8000000
attribute [local go_sem ↓] Go.wp_at_zero Go.wp_at_succ

theorem holds_form {H : List Txn} {level : Int} {L : List Fct} {f : Fct} (hk : f.kind = 1 ∨ f.kind = 3) : holdsB H level L f = (mayB H level && oneB H f.c && decide (f.cyc = []) && (if f.kind = 1 then axB H f else seenF H f)) := by
  unfold holdsB whyB
  rcases hk with e | e
  · rw [if_pos e, if_pos e, decide_eq_false (show ¬ f.kind = 4 by omega)]; rfl
  · rw [if_neg (show ¬ f.kind = 1 by omega), if_neg (show ¬ f.kind = 2 by omega), if_pos e, if_neg (show ¬ f.kind = 1 by omega), decide_eq_false (show ¬ f.kind = 4 by omega)]; rfl
set_option maxRecDepth 100000 in
theorem holds22_any (A : Option Addr) (c : Nat) (H : List Txn) (level : Int) (Al : Option Addr) (nl cl : Nat) (L : List Fct) (f : Fct) (Ac : Option Addr) (cc : Nat) (w : World) (h : TxnS w (Old w) (.slice A H.length c) H) (hn : SmallH H) (hk : f.kind = 1 ∨ f.kind = 3) :
    Calls Tryz.prog 26 #[.agg #[.slice A H.length c], .int .i64 level, .slice Al nl cl, .agg #[.int .i64 f.c.key, .int .i64 f.c.a, .int .i64 f.c.b, .int .i64 f.kind, .int .i64 f.i, .int .i64 f.j, .slice Ac f.cyc.length cc]] w fun e w' => e = .returned (.bool (holdsB H level L f)) ∧ Below w.heap.size w w' := by
  have hfm := hide (holds_form (H := H) (level := level) (L := L) hk)
  have hax := hide (fun W (hb : Below w.heap.size w W) => ax22_any A c H level (.slice Al nl cl) f (.slice Ac f.cyc.length cc) W (h.below hb) hn)
  have hse := hide (fun W (hb : Below w.heap.size w W) => seen22_any A c H level (.slice Al nl cl) f (.slice Ac f.cyc.length cc) W (h.below hb) hn)
  have hma := hide (fun W (hb : Below w.heap.size w W) => may22_any A c H level W (h.below hb) hn)
  have hch := hide (fun W (hb : Below w.heap.size w W) => choice22_any A c H f.c.key f.c.a f.c.b W (h.below hb) hn)
  obtain ⟨r, hr⟩ : ∃ r, holdsB H level L f = r := ⟨_, rfl⟩
  rw [hr] at hfm
  rw [hr]
  obtain ⟨⟨key, a, b⟩, kind, i, j, cyc⟩ := f
  dsimp only at *
  have hm2 : Hid (mayB H level = (rightH H && (decide (level = 0) || decide (level = 1)))) := hide rfl
  rw [← hm2.out] at hma
  generalize mayB H level = qm at *
  generalize oneB H ⟨key, a, b⟩ = qo at *
  obtain ⟨W0, hW0⟩ : ∃ W0, (w.alloc (.cells #[.slice A H.length c] 24)).alloc (.cells #[.int .i64 key, .int .i64 a, .int .i64 b, .int .i64 kind, .int .i64 i, .int .i64 j, .slice Ac cyc.length cc] 51) = W0 := ⟨_, rfl⟩
  have hB := below_two hW0
  have k0 := Blk.two1 hW0
  have k1 := Blk.two2 hW0
  have c0 := k0.cell 0
  simp only [List.getElem?_toArray, List.getElem?_cons_zero, List.getElem?_cons_succ] at c0
  have hm1 := hide (hma.out W0 hB)
  have hkn : (kind != 4) = true := by rw [bne_iff_ne]; rcases hk with e | e <;> omega
  clear h hr hma hm2
  go_enter Tryz.func26, Tryz.ntmps26
  go_wp2_with fail
  refine hm1.out.mono ?_
  rintro e w1 ⟨rfl, hb1⟩
  replace k0 := k0.below hb1 k0.lt
  replace k1 := k1.below hb1 k1.lt
  have hb2 := hB.trans (hb1.mono hB.size)
  have hch1 := hide (hch.out w1 hb2)
  clear hW0 c0 hm1 hch hB hb1
  have c0 := k0.cell 0
  have d0 := k1.cell 0
  have d1 := k1.cell 1
  have d2 := k1.cell 2
  simp only [List.getElem?_toArray, List.getElem?_cons_zero, List.getElem?_cons_succ] at c0 d0 d1 d2
  cases qm with
  | false =>
    have hre : r = false := by rw [hfm.out]; rfl
    subst hre
    clear hfm hax hse hch1
    go_wp2
    go_ret
    exact ⟨rfl, hb2⟩
  | true =>
    go_wp2_with fail
    refine hch1.out.mono ?_
    rintro e w2 ⟨rfl, hb3⟩
    replace k0 := k0.below hb3 k0.lt
    replace k1 := k1.below hb3 k1.lt
    have hb4 := hb2.trans (hb3.mono hb2.size)
    clear hch1 c0 d0 d1 d2 hb2 hb3
    have d3 := k1.cell 3
    have d6 := k1.cell 6
    simp only [List.getElem?_toArray, List.getElem?_cons_zero, List.getElem?_cons_succ] at d3 d6
    cases qo with
    | false =>
      have hre : r = false := by rw [hfm.out]; rfl
      subst hre
      clear hfm hax hse
      go_wp2
      go_ret
      exact ⟨rfl, hb4⟩
    | true =>
      by_cases hc0 : 0 < cyc.length
      · have g1 : decide ((cyc.length : Int) > 0) = true := by simp; omega
        have g2 : decide (0 < cyc.length) = true := by simp; omega
        have hre : r = false := by
          have : ¬ cyc = [] := by intro e; rw [e] at hc0; simp at hc0
          rw [hfm.out]; simp [this]
        subst hre
        clear hfm hax hse hc0
        go_wp2
        go_ret
        exact ⟨rfl, hb4⟩
      · have hcn : cyc = [] := List.eq_nil_of_length_eq_zero (by omega)
        subst hcn
        clear hc0
        have hfm2 := hide (show r = (if kind = 1 then axB H ⟨⟨key, a, b⟩, kind, i, j, []⟩ else seenF H ⟨⟨key, a, b⟩, kind, i, j, []⟩) by rw [hfm.out]; simp)
        clear hfm
        go_wp2_with fail
        refine (reasons22_any w2).mono ?_
        rintro e w3 ⟨rfl, kr, hb5⟩
        have hsz : w.heap.size + 1 < w2.heap.size := k1.lt
        replace k0 := k0.below hb5 k0.lt
        replace k1 := k1.below hb5 k1.lt
        have hb6 := hb4.trans (hb5.mono hb4.size)
        have hsr := hb4.size
        have hsk := k1.lt
        clear d3 d6 hb4 hb5
        generalize w2.heap.size = pr at *
        go_wp2_with fail
        go_loopw [35] (fun s35 wr => ∃ k : Nat, s35 = .int .i64 (k : Int) ∧ (k : Int) + 1 ≤ kind ∧ Blk wr w.heap.size 24 #[.slice A H.length c] ∧ Blk wr (w.heap.size + 1) 51 #[.int .i64 key, .int .i64 a, .int .i64 b, .int .i64 kind, .int .i64 i, .int .i64 j, .slice Ac 0 cc] ∧ Blk wr pr 136 #[.int .i64 1, .func (.func 134) #[] #[], .int .i64 2, .func (.func 135) #[] #[], .int .i64 3, .func (.func 136) #[] #[], .int .i64 4, .func (.func 137) #[] #[]] ∧ Below w.heap.size w wr) (fun s35 _ => 4 - (intOf s35).toNat)
        case atStart => exact ⟨0, by go_num, by rcases hk with e | e <;> omega, k0, k1, kr, hb6⟩
        case round =>
          clear k0 k1 kr hb6 hsr hsk
          obtain ⟨Wo, rfl⟩ : ∃ Wo, Wo = wr := ⟨_, rfl⟩
          obtain ⟨k, rfl, hkk, k0, k1, kr, hb⟩ := hrel
          have hk2 : k = 0 ∨ k = 1 ∨ k = 2 := by rcases hk with e | e <;> omega
          have hsw := hb.size
          have c0 := k0.cell 0
          have d0 := k1.cell 0
          have d1 := k1.cell 1
          have d2 := k1.cell 2
          have d3 := k1.cell 3
          have d4 := k1.cell 4
          have d5 := k1.cell 5
          have d6 := k1.cell 6
          have r0 := kr.cell 0
          have r1 := kr.cell 1
          have r2 := kr.cell 2
          have r3 := kr.cell 3
          have r4 := kr.cell 4
          have r5 := kr.cell 5
          simp only [List.getElem?_toArray, List.getElem?_cons_zero, List.getElem?_cons_succ] at c0 d0 d1 d2 d3 d4 d5 d6 r0 r1 r2 r3 r4 r5
          rcases hk2 with rfl | rfl | rfl
          · have hA := below_allocEq hb (W := Wo.alloc (.cells #[.int .i64 1, .func (.func 134) #[] #[]] 136)) rfl hsw
            have m0 := (k0.alloc (.cells #[.int .i64 1, .func (.func 134) #[] #[]] 136))
            have m1 := (k1.alloc (.cells #[.int .i64 1, .func (.func 134) #[] #[]] 136))
            have mr := (kr.alloc (.cells #[.int .i64 1, .func (.func 134) #[] #[]] 136))
            by_cases hq : kind = 1
            · subst hq
              have hcl := hide (hax.out _ hA)
              have hre := hide (show r = axB H ⟨⟨key, a, b⟩, 1, i, j, []⟩ by rw [hfm2.out]; simp)
              rw [← hre.out] at hcl
              clear hfm2 hre hax hse hk m0 m1 mr
              go_upto_region 6 with fail
              generalize hWa : Wo.alloc (.cells #[.int .i64 1, .func (.func 134) #[] #[]] 136) = Wa at *
              have n0 := k0.allocEq hWa
              have n1 := k1.allocEq hWa
              have nn := Blk.newEq hWa
              clear hWa
              have f0 := n0.cell 0
              have q0 := n1.cell 0
              have q1 := n1.cell 1
              have q2 := n1.cell 2
              have q3 := n1.cell 3
              have q4 := n1.cell 4
              have q5 := n1.cell 5
              have q6 := n1.cell 6
              have nn0 := nn.cell 0
              have nn1 := nn.cell 1
              simp only [List.getElem?_toArray, List.getElem?_cons_zero, List.getElem?_cons_succ] at f0 q0 q1 q2 q3 q4 q5 q6 nn0 nn1
              go_wp2_with fail
              refine hcl.out.mono ?_
              rintro e w5 ⟨rfl, hb7⟩
              go_wp2
              go_ret
              exact ⟨rfl, hA.trans (hb7.mono hA.size)⟩
            · have gq : ((1 : Int) == kind) = false := by rw [beq_eq_false_iff_ne]; omega
              have hkn2 : ((1 : Nat) : Int) + 1 ≤ kind := by rcases hk with e | e <;> omega
              replace hq := hide hq
              go_upto_region 6 with fail
              generalize hWa : Wo.alloc (.cells #[.int .i64 1, .func (.func 134) #[] #[]] 136) = Wa at *
              have n1 := k1.allocEq hWa
              have nn := Blk.newEq hWa
              clear hWa
              have q3 := n1.cell 3
              have nn0 := nn.cell 0
              simp only [List.getElem?_toArray, List.getElem?_cons_zero, List.getElem?_cons_succ] at q3 nn0
              go_wp2
              go_roundw
              case rel => exact ⟨1, by go_num, hkn2, m0, m1, mr, hA⟩
              case measure => simp [intOf]
          · have hA := below_allocEq hb (W := Wo.alloc (.cells #[.int .i64 2, .func (.func 135) #[] #[]] 136)) rfl hsw
            have m0 := (k0.alloc (.cells #[.int .i64 2, .func (.func 135) #[] #[]] 136))
            have m1 := (k1.alloc (.cells #[.int .i64 2, .func (.func 135) #[] #[]] 136))
            have mr := (kr.alloc (.cells #[.int .i64 2, .func (.func 135) #[] #[]] 136))
            have hq : ¬ kind = 2 := by rcases hk with e | e <;> omega
            have gq : ((2 : Int) == kind) = false := by rw [beq_eq_false_iff_ne]; omega
            have hkn2 : ((2 : Nat) : Int) + 1 ≤ kind := by rcases hk with e | e <;> omega
            replace hq := hide hq
            go_upto_region 6 with fail
            generalize hWa : Wo.alloc (.cells #[.int .i64 2, .func (.func 135) #[] #[]] 136) = Wa at *
            have n1 := k1.allocEq hWa
            have nn := Blk.newEq hWa
            clear hWa
            have q3 := n1.cell 3
            have nn0 := nn.cell 0
            simp only [List.getElem?_toArray, List.getElem?_cons_zero, List.getElem?_cons_succ] at q3 nn0
            go_wp2
            go_roundw
            case rel => exact ⟨2, by go_num, hkn2, m0, m1, mr, hA⟩
            case measure => simp [intOf]
          · have hA := below_allocEq hb (W := Wo.alloc (.cells #[.int .i64 3, .func (.func 136) #[] #[]] 136)) rfl hsw
            have m0 := (k0.alloc (.cells #[.int .i64 3, .func (.func 136) #[] #[]] 136))
            have m1 := (k1.alloc (.cells #[.int .i64 3, .func (.func 136) #[] #[]] 136))
            have mr := (kr.alloc (.cells #[.int .i64 3, .func (.func 136) #[] #[]] 136))
            by_cases hq : kind = 3
            · subst hq
              have hcl := hide (hse.out _ hA)
              have hre := hide (show r = seenF H ⟨⟨key, a, b⟩, 3, i, j, []⟩ by rw [hfm2.out]; simp)
              rw [← hre.out] at hcl
              clear hfm2 hre hax hse hk m0 m1 mr
              go_upto_region 6 with fail
              generalize hWa : Wo.alloc (.cells #[.int .i64 3, .func (.func 136) #[] #[]] 136) = Wa at *
              have n0 := k0.allocEq hWa
              have n1 := k1.allocEq hWa
              have nn := Blk.newEq hWa
              clear hWa
              have f0 := n0.cell 0
              have q0 := n1.cell 0
              have q1 := n1.cell 1
              have q2 := n1.cell 2
              have q3 := n1.cell 3
              have q4 := n1.cell 4
              have q5 := n1.cell 5
              have q6 := n1.cell 6
              have nn0 := nn.cell 0
              have nn1 := nn.cell 1
              simp only [List.getElem?_toArray, List.getElem?_cons_zero, List.getElem?_cons_succ] at f0 q0 q1 q2 q3 q4 q5 q6 nn0 nn1
              go_wp2_with fail
              refine hcl.out.mono ?_
              rintro e w5 ⟨rfl, hb7⟩
              go_wp2
              go_ret
              exact ⟨rfl, hA.trans (hb7.mono hA.size)⟩
            · exfalso; rcases hk with e | e <;> omega
end Go.Proofs.YtjomijnbnbideaaGreatDoor
