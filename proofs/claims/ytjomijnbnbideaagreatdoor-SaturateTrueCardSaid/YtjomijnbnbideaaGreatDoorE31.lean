/-
  Walks: layer 29: a fact of a choice by two others.
-/
import Derived.Test.YtjomijnbnbideaaGreatDoorE18
import Derived.Test.YtjomijnbnbideaaGreatDoorE29
set_option linter.unusedVariables false
set_option linter.unusedSimpArgs false
namespace Go.Proofs.YtjomijnbnbideaaGreatDoor
open Go.RowKit Go.Inq
set_option maxHeartbeats 8000000
attribute [local go_sem ↓] Go.wp_at_zero Go.wp_at_succ

theorem joinF_split {H : List Txn} {level : Int} {L : List Fct} {c : Cho} {i : Nat} (hi : i < L.length) : ∃ r : List (Nat × Nat), twoL L.length = ((List.range i).map fun a => (List.range L.length).map fun b => (a, b)).flatten ++ ((List.range L.length).map fun b => (i, b)) ++ r := by
  obtain ⟨d, hd⟩ : ∃ d, L.length = i + 1 + d := ⟨L.length - (i + 1), by omega⟩
  have h1 : List.range L.length = List.range i ++ [i] ++ (List.range d).map (i + 1 + ·) := by rw [hd, List.range_add, List.range_succ]
  have key : ∀ row : Nat → List (Nat × Nat), ∃ r, ((List.range L.length).map row).flatten = ((List.range i).map row).flatten ++ row i ++ r := fun row => by
    rw [h1, List.map_append, List.map_append, List.flatten_append, List.flatten_append]
    exact ⟨(List.map row (List.map (fun x => i + 1 + x) (List.range d))).flatten, by simp⟩
  exact key fun a => (List.range L.length).map fun b => (a, b)
theorem joinF_hit {H : List Txn} {level : Int} {L : List Fct} {c : Cho} {i j : Nat} (hi : i < L.length) (hj : j < L.length) (h1 : ∀ a, a < i → ∀ b, b < L.length → holdsB H level L (joinC c (a, b)) = false) (h2 : ∀ b, b < j → holdsB H level L (joinC c (i, b)) = false) (h : holdsB H level L (joinC c (i, j)) = true) : joinF H level L c = some (joinC c (i, j)) := by
  obtain ⟨r, hr⟩ := joinF_split (H := H) (level := level) (c := c) hi
  unfold joinF
  rw [hr, List.map_append, List.map_append, List.find?_append, List.find?_append]
  have e1 : ((((List.range i).map fun a => (List.range L.length).map fun b => (a, b)).flatten).map (joinC c)).find? (holdsB H level L) = none := by
    rw [List.find?_eq_none]
    intro f hf
    obtain ⟨x, hx, rfl⟩ := List.mem_map.1 hf
    obtain ⟨l, hl, hx⟩ := List.mem_flatten.1 hx
    obtain ⟨a, ha, rfl⟩ := List.mem_map.1 hl
    obtain ⟨b, hb, rfl⟩ := List.mem_map.1 hx
    rw [h1 a (List.mem_range.1 ha) b (List.mem_range.1 hb)]; simp
  have e2 : (((List.range L.length).map fun b => (i, b)).map (joinC c)).find? (holdsB H level L) = some (joinC c (i, j)) := by
    rw [List.find?_eq_some_iff_getElem]
    refine ⟨h, j, by simpa using hj, by simp, fun k hk => ?_⟩
    simp only [List.getElem_map, List.getElem_range]
    rw [h2 k hk]; rfl
  rw [e1, e2]; rfl
theorem joinF_miss {H : List Txn} {level : Int} {L : List Fct} {c : Cho} (h1 : ∀ a, a < L.length → ∀ b, b < L.length → holdsB H level L (joinC c (a, b)) = false) : joinF H level L c = none := by
  unfold joinF
  rw [List.find?_eq_none]
  intro f hf
  obtain ⟨x, hx, rfl⟩ := List.mem_map.1 hf
  unfold twoL at hx
  obtain ⟨l, hl, hx⟩ := List.mem_flatten.1 hx
  obtain ⟨a, ha, rfl⟩ := List.mem_map.1 hl
  obtain ⟨b, hb, rfl⟩ := List.mem_map.1 hx
  rw [h1 a (List.mem_range.1 ha) b (List.mem_range.1 hb)]; simp
/-- Of a fact of another key, or another transaction, nothing follows. -/
theorem joinC_not {H : List Txn} {level : Int} {L : List Fct} {c : Cho} {i j : Nat} (hi : i < L.length) (h : L[i].c.key ≠ c.key ∨ L[i].c.a ≠ c.a) : holdsB H level L (joinC c (i, j)) = false := by
  rw [← Bool.not_eq_true]
  intro hh
  rw [holds_eq, why_2 rfl, Bool.and_eq_true] at hh
  have := hh.2
  unfold joinB joinC at this
  simp only [Bool.and_eq_true, Int.toNat_natCast] at this
  have h3 := this.2
  rw [List.getElem?_eq_getElem hi] at h3
  split at h3
  · rename_i x y hx hy
    injection hx with hx
    subst hx
    simp only [Bool.and_eq_true, decide_eq_true_eq] at h3
    obtain ⟨-, h5⟩ := h3
    subst h5
    rcases h with h | h
    · exact h rfl
    · exact h rfl
  · cases h3
/-- What joined tells. -/
def jnV (o : Option Fct) : Value := .tuple #[.agg #[.int .i64 (o.getD zeroF).c.key, .int .i64 (o.getD zeroF).c.a, .int .i64 (o.getD zeroF).c.b, .int .i64 (o.getD zeroF).kind, .int .i64 (o.getD zeroF).i, .int .i64 (o.getD zeroF).j, .slice none 0 0], .bool o.isSome]
/-- The seven cells of a fact, written. -/
def setF (W : World) (g : Nat) (a b c d e f h : Value) : World := ((((((W.setCell ⟨g, 0, none⟩ a).setCell ⟨g, 1, none⟩ b).setCell ⟨g, 2, none⟩ c).setCell ⟨g, 3, none⟩ d).setCell ⟨g, 4, none⟩ e).setCell ⟨g, 5, none⟩ f).setCell ⟨g, 6, none⟩ h
section
variable {W : World} {g : Nat} {a b c d e f h x0 x1 x2 x3 x4 x5 x6 : Value}
theorem setF_blk (k : Blk W g 51 #[x0, x1, x2, x3, x4, x5, x6]) : Blk (setF W g a b c d e f h) g 51 #[a, b, c, d, e, f, h] := ((((((k.set_ 0 a).set_ 1 b).set_ 2 c).set_ 3 d).set_ 4 e).set_ 5 f).set_ 6 h
theorem setF_below {B : Nat} {w : World} (k : Below B w W) (hg : B ≤ g) : Below B w (setF W g a b c d e f h) := ((((((k.setCell (p := ⟨g, 0, none⟩) hg a).setCell (p := ⟨g, 1, none⟩) hg b).setCell (p := ⟨g, 2, none⟩) hg c).setCell (p := ⟨g, 3, none⟩) hg d).setCell (p := ⟨g, 4, none⟩) hg e).setCell (p := ⟨g, 5, none⟩) hg f).setCell (p := ⟨g, 6, none⟩) hg h
end
set_option maxRecDepth 100000 in
theorem join29_any (A : Option Addr) (c : Nat) (H : List Txn) (level : Int) (Al : Option Addr) (cl : Nat) (L : List Fct) (x : Cho) (w : World) (h : TxnS w (Old w) (.slice A H.length c) H) (hn : SmallH H) (hL : FctS w (Old w) (.slice Al L.length cl) L) (hl : L.length ≤ 1000000) :
    Calls Tryz.prog 157 #[.agg #[.slice A H.length c], .int .i64 level, .slice Al L.length cl, .agg #[.int .i64 x.key, .int .i64 x.a, .int .i64 x.b]] w fun e w' => e = .returned (jnV (joinF H level L x)) ∧ Below w.heap.size w w' := by
  obtain ⟨key, a0, b0⟩ := x
  dsimp only
  obtain ⟨W0, hW0⟩ : ∃ W0, ((w.alloc (.cells #[.slice A H.length c] 24)).alloc (.cells #[.int .i64 key, .int .i64 a0, .int .i64 b0] 49)).alloc (.cells #[.int .i64 0, .int .i64 0, .int .i64 0, .int .i64 0, .int .i64 0, .int .i64 0, .slice none 0 0] 51) = W0 := ⟨_, rfl⟩
  have hB := below_three hW0
  have k0 := Blk.three1 hW0
  have k1 := Blk.three2 hW0
  have kr := Blk.three3 hW0
  have hho := hide (fun i j W (hb : Below w.heap.size w W) => holds22_all A c H level Al cl L (joinC ⟨key, a0, b0⟩ (i, j)) none 0 W (h.below hb) hn (hL.below hb) hl (IntS.nil _ _ _ _) (Nat.zero_le _))
  have hhit := hide (fun i j hi hj => joinF_hit (H := H) (level := level) (L := L) (c := ⟨key, a0, b0⟩) (i := i) (j := j) hi hj)
  have hmis := hide (joinF_miss (H := H) (level := level) (L := L) (c := ⟨key, a0, b0⟩))
  have hnt := hide (fun i (hi : i < L.length) q j => joinC_not (H := H) (level := level) (c := ⟨key, a0, b0⟩) (j := j) hi q)
  obtain ⟨o, ho⟩ : ∃ o, joinF H level L ⟨key, a0, b0⟩ = o := ⟨_, rfl⟩
  rw [ho] at hhit hmis
  rw [ho]
  replace hL := hide hL
  clear h ho
  go_enter Tryz.func157, Tryz.ntmps157
  go_wp2_with fail
  clear hW0
  go_loopw [15] (fun s15 wr => ∃ i : Nat, i ≤ L.length ∧ s15 = .int .i64 (i : Int) ∧ Hid (∀ a, a < i → ∀ b, b < L.length → holdsB H level L (joinC ⟨key, a0, b0⟩ (a, b)) = false) ∧ Blk wr w.heap.size 24 #[.slice A H.length c] ∧ Blk wr (w.heap.size + 1) 49 #[.int .i64 key, .int .i64 a0, .int .i64 b0] ∧ Blk wr (w.heap.size + 1 + 1) 51 #[.int .i64 0, .int .i64 0, .int .i64 0, .int .i64 0, .int .i64 0, .int .i64 0, .slice none 0 0] ∧ Below w.heap.size w wr) (fun s15 _ => L.length - (intOf s15).toNat)
  case atStart => exact ⟨0, by omega, by go_num, hide fun a ha => absurd ha (by omega), k0, k1, kr, hB⟩
  case round =>
    clear k0 k1 kr hB
    obtain ⟨Wo, rfl⟩ : ∃ Wo, Wo = wr := ⟨_, rfl⟩
    obtain ⟨i, hi, rfl, hno, k0, k1, kr, hb⟩ := hrel
    have hi0 : (0 : Int) ≤ (i : Int) := Int.natCast_nonneg _
    by_cases hlt : i < L.length
    · have hi1 : (i : Int) < (L.length : Int) := by omega
      obtain ⟨bl, ol, Ay, cy, rfl, -, d⟩ := (hL.out.below hb).at_ hlt
      obtain ⟨d0, d1, -, -, -, -, -, -⟩ := d
      have hnt1 := hide (hnt.out i hlt)
      have c0 := k1.cell 0
      have c1 := k1.cell 1
      simp only [List.getElem?_toArray, List.getElem?_cons_zero, List.getElem?_cons_succ] at c0 c1
      generalize L[i].c = lc at *
      obtain ⟨lk, la, lb⟩ := lc
      dsimp only at d0 d1 hnt1
      by_cases q1 : lk = key
      · have g1 : (lk != key) = false := by simp [q1]
        by_cases q2 : la = a0
        · have g2 : (la != a0) = false := by simp [q2]
          clear q1 q2 hnt1
          go_upto_region 4 with fail
          go_quiet (fail)
          go_wp2_with fail
          go_loopw [40] (fun s40 wr => ∃ j : Nat, j ≤ L.length ∧ s40 = .int .i64 (j : Int) ∧ Hid (∀ b, b < j → holdsB H level L (joinC ⟨key, a0, b0⟩ (i, b)) = false) ∧ Blk wr w.heap.size 24 #[.slice A H.length c] ∧ Blk wr (w.heap.size + 1) 49 #[.int .i64 key, .int .i64 a0, .int .i64 b0] ∧ Blk wr (w.heap.size + 1 + 1) 51 #[.int .i64 0, .int .i64 0, .int .i64 0, .int .i64 0, .int .i64 0, .int .i64 0, .slice none 0 0] ∧ Below w.heap.size w wr) (fun s40 _ => L.length - (intOf s40).toNat)
          case atStart => exact ⟨0, by omega, by go_num, hide fun b hb => absurd hb (by omega), k0, k1, kr, hb.trans ⟨rfl, rfl, rfl, Nat.le_refl _, fun _ _ => rfl⟩⟩
          case round =>
            clear k0 k1 kr hb c0 c1 d0 d1
            obtain ⟨Wp, rfl⟩ : ∃ Wp, Wp = wr := ⟨_, rfl⟩
            obtain ⟨j, hj, rfl, hno2, k0, k1, kr, hb⟩ := hrel
            have hj0 : (0 : Int) ≤ (j : Int) := Int.natCast_nonneg _
            by_cases hjl : j < L.length
            · have hj1 : (j : Int) < (L.length : Int) := by omega
              have hh1 := hide (hhit.out i j hlt hjl hno.out hno2.out)
              have hstp : Hid (holdsB H level L (joinC ⟨key, a0, b0⟩ (i, j)) = false → ∀ b, b < j + 1 → holdsB H level L (joinC ⟨key, a0, b0⟩ (i, b)) = false) := fun g b hb => by
                by_cases e : b = j
                · subst e; exact g
                · exact hno2.out b (by omega)
              have hs2 : Below Wp.heap.size Wp (Wp.alloc (.cells #[.int .i64 key, .int .i64 a0, .int .i64 b0, .int .i64 2, .int .i64 (i : Int), .int .i64 (j : Int), .slice none 0 0] 51)) := (Below.refl _ _).alloc (Nat.le_refl _) _
              have hA := hb.trans (hs2.mono hb.size)
              have hcl := hho.out i j _ hA
              have n0 := k0.below hs2 k0.lt
              have n1 := k1.below hs2 k1.lt
              have nr := kr.below hs2 kr.lt
              generalize holdsB H level L (joinC ⟨key, a0, b0⟩ (i, j)) = q at *
              dsimp only [joinC, List.length_nil] at hcl
              replace hcl := hide hcl
              replace n0 := hide n0
              replace n1 := hide n1
              replace nr := hide nr
              replace hA := hide hA
              have v0 := k1.cell 0
              have v1 := k1.cell 1
              have v2 := k1.cell 2
              simp only [List.getElem?_toArray, List.getElem?_cons_zero, List.getElem?_cons_succ] at v0 v1 v2
              clear k0 k1 kr hs2 hno2 hb
              go_upto_region 9 with fail
              generalize hWa : Wp.alloc (.cells #[.int .i64 key, .int .i64 a0, .int .i64 b0, .int .i64 2, .int .i64 (i : Int), .int .i64 (j : Int), .slice none 0 0] 51) = Wa at *
              have nn := Blk.newEq hWa
              replace n0 := n0.out
              replace n1 := n1.out
              replace nr := nr.out
              replace hA := hA.out
              have u0 := n0.cell 0
              simp only [List.getElem?_toArray, List.getElem?_cons_zero, List.getElem?_cons_succ] at u0
              have m0 := nn.cell 0
              have m1 := nn.cell 1
              have m2 := nn.cell 2
              have m3 := nn.cell 3
              have m4 := nn.cell 4
              have m5 := nn.cell 5
              have m6 := nn.cell 6
              simp only [List.getElem?_toArray, List.getElem?_cons_zero, List.getElem?_cons_succ] at m0 m1 m2 m3 m4 m5 m6
              clear hWa v0 v1 v2
              go_wp2_with fail
              refine hcl.out.mono ?_
              rintro e w1 ⟨rfl, hb1⟩
              have hb2 := hA.trans (hb1.mono hA.size)
              replace n0 := n0.below hb1 n0.lt
              replace n1 := n1.below hb1 n1.lt
              replace nr := nr.below hb1 nr.lt
              replace nn := nn.below hb1 nn.lt
              clear hcl u0 m0 m1 m2 m3 m4 m5 m6 hb1 hA
              cases q with
              | true =>
                obtain rfl := hh1.out rfl
                have m0 := nn.cell 0
                have m1 := nn.cell 1
                have m2 := nn.cell 2
                have m3 := nn.cell 3
                have m4 := nn.cell 4
                have m5 := nn.cell 5
                have m6 := nn.cell 6
                simp only [List.getElem?_toArray, List.getElem?_cons_zero, List.getElem?_cons_succ] at m0 m1 m2 m3 m4 m5 m6
                have z0 := nr.cell 0
                have z1 := nr.cell 1
                have z2 := nr.cell 2
                have z3 := nr.cell 3
                have z4 := nr.cell 4
                have z5 := nr.cell 5
                have z6 := nr.cell 6
                simp only [List.getElem?_toArray, List.getElem?_cons_zero, List.getElem?_cons_succ] at z0 z1 z2 z3 z4 z5 z6
                have f0 := nr.frozen 0
                have f1 := nr.frozen 1
                have f2 := nr.frozen 2
                have f3 := nr.frozen 3
                have f4 := nr.frozen 4
                have f5 := nr.frozen 5
                have f6 := nr.frozen 6
                have hBo := hide (setF_below (a := .int .i64 key) (b := .int .i64 a0) (c := .int .i64 b0) (d := .int .i64 2) (e := .int .i64 (i : Int)) (f := .int .i64 (j : Int)) (h := .slice none 0 0) hb2 (show w.heap.size ≤ w.heap.size + 1 + 1 by omega))
                have kz := setF_blk (a := .int .i64 key) (b := .int .i64 a0) (c := .int .i64 b0) (d := .int .i64 2) (e := .int .i64 (i : Int)) (f := .int .i64 (j : Int)) (h := .slice none 0 0) nr
                have y0 := kz.cell 0
                have y1 := kz.cell 1
                have y2 := kz.cell 2
                have y3 := kz.cell 3
                have y4 := kz.cell 4
                have y5 := kz.cell 5
                have y6 := kz.cell 6
                unfold setF at y0 y1 y2 y3 y4 y5 y6
                simp only [List.getElem?_toArray, List.getElem?_cons_zero, List.getElem?_cons_succ] at y0 y1 y2 y3 y4 y5 y6
                clear hh1 hstp hno hhit hmis hnt hho n0 n1 nr nn kz hb2
                go_wp2_with fail
                exact bodyPost_ret (v := .tuple #[.agg #[.int .i64 key, .int .i64 a0, .int .i64 b0, .int .i64 2, .int .i64 (i : Int), .int .i64 (j : Int), .slice none 0 0], .bool true]) (by simp [results, Tryz.results157, go_sem, y0, y1, y2, y3, y4, y5, y6]) rfl ⟨rfl, hBo.out⟩
              | false =>
                have hs1 := hide (hstp.out rfl)
                clear hh1 hstp
                go_wp2
                go_roundw
                case rel => exact ⟨j + 1, by omega, by go_num, hs1, n0, n1, nr, hb2⟩
                case measure => simp [intOf]; omega
            · obtain rfl : j = L.length := by omega
              have hn1 := hide (show ∀ a, a < i + 1 → ∀ b, b < L.length → holdsB H level L (joinC ⟨key, a0, b0⟩ (a, b)) = false from fun a ha b hb => by
                by_cases e : a = i
                · subst e; exact hno2.out b hb
                · exact hno.out a (by omega) b hb)
              clear hno hno2 hhit hmis
              go_wp2
              go_roundw
              case rel => exact ⟨i + 1, by omega, by go_num, hn1, k0, k1, kr, hb⟩
              case measure => simp [intOf]; omega
        · have g2 : (la != a0) = true := by simpa using q2
          have hnot := hide (fun b => hnt1.out (.inr q2) b)
          clear q1 q2 hnt1
          have hn1 := hide (show ∀ a, a < i + 1 → ∀ b, b < L.length → holdsB H level L (joinC ⟨key, a0, b0⟩ (a, b)) = false from fun a ha b hb => by
            by_cases e : a = i
            · subst e; exact hnot.out b
            · exact hno.out a (by omega) b hb)
          clear hnot hno hhit hmis
          go_upto_region 4 with fail
          go_quiet (fail)
          go_wp2
          go_roundw
          case rel => exact ⟨i + 1, by omega, by go_num, hn1, k0, k1, kr, hb.trans ⟨rfl, rfl, rfl, Nat.le_refl _, fun _ _ => rfl⟩⟩
          case measure => simp [intOf]; omega
      · have g1 : (lk != key) = true := by simpa using q1
        have hnot := hide (fun b => hnt1.out (.inl q1) b)
        clear q1 hnt1
        have hn1 := hide (show ∀ a, a < i + 1 → ∀ b, b < L.length → holdsB H level L (joinC ⟨key, a0, b0⟩ (a, b)) = false from fun a ha b hb => by
          by_cases e : a = i
          · subst e; exact hnot.out b
          · exact hno.out a (by omega) b hb)
        clear hnot hno hhit hmis
        go_upto_region 4 with fail
        go_quiet (fail)
        go_wp2
        go_roundw
        case rel => exact ⟨i + 1, by omega, by go_num, hn1, k0, k1, kr, hb.trans ⟨rfl, rfl, rfl, Nat.le_refl _, fun _ _ => rfl⟩⟩
        case measure => simp [intOf]; omega
    · obtain rfl : i = L.length := by omega
      obtain rfl := hmis.out hno.out
      have z0 := kr.cell 0
      have z1 := kr.cell 1
      have z2 := kr.cell 2
      have z3 := kr.cell 3
      have z4 := kr.cell 4
      have z5 := kr.cell 5
      have z6 := kr.cell 6
      simp only [List.getElem?_toArray, List.getElem?_cons_zero, List.getElem?_cons_succ] at z0 z1 z2 z3 z4 z5 z6
      have f0 := kr.frozen 0
      have f1 := kr.frozen 1
      have f2 := kr.frozen 2
      have f3 := kr.frozen 3
      have f4 := kr.frozen 4
      have f5 := kr.frozen 5
      have f6 := kr.frozen 6
      have hBo := hide (setF_below (a := .int .i64 0) (b := .int .i64 0) (c := .int .i64 0) (d := .int .i64 0) (e := .int .i64 0) (f := .int .i64 0) (h := .slice none 0 0) hb (show w.heap.size ≤ w.heap.size + 1 + 1 by omega))
      have kz := setF_blk (a := .int .i64 0) (b := .int .i64 0) (c := .int .i64 0) (d := .int .i64 0) (e := .int .i64 0) (f := .int .i64 0) (h := .slice none 0 0) kr
      have y0 := kz.cell 0
      have y1 := kz.cell 1
      have y2 := kz.cell 2
      have y3 := kz.cell 3
      have y4 := kz.cell 4
      have y5 := kz.cell 5
      have y6 := kz.cell 6
      unfold setF at y0 y1 y2 y3 y4 y5 y6
      simp only [List.getElem?_toArray, List.getElem?_cons_zero, List.getElem?_cons_succ] at y0 y1 y2 y3 y4 y5 y6
      clear hno hhit hmis hnt hho k0 k1 kr kz hb
      go_wp2_with fail
      exact bodyPost_ret (v := .tuple #[.agg #[.int .i64 0, .int .i64 0, .int .i64 0, .int .i64 0, .int .i64 0, .int .i64 0, .slice none 0 0], .bool false]) (by simp [results, Tryz.results157, go_sem, y0, y1, y2, y3, y4, y5, y6]) rfl ⟨rfl, hBo.out⟩
end Go.Proofs.YtjomijnbnbideaaGreatDoor
