/-
  Walks: layer 22: whether a choice is one; the kinds of reasons.
-/
import Derived.Test.YtjomijnbnbideaaGreatDoorM13
set_option linter.unusedVariables false
set_option linter.unusedSimpArgs false
namespace Go.Proofs.YtjomijnbnbideaaGreatDoor
open Go.RowKit Go.Inq
set_option maxHeartbeats 8000000
attribute [local go_sem ↓] Go.wp_at_zero Go.wp_at_succ

set_option maxRecDepth 100000 in
theorem choice22_any (A : Option Addr) (c : Nat) (H : List Txn) (key a b : Int) (w : World) (h : TxnS w (Old w) (.slice A H.length c) H) (hn : SmallH H) :
    Calls Tryz.prog 76 #[.agg #[.slice A H.length c], .agg #[.int .i64 key, .int .i64 a, .int .i64 b]] w fun e w' => e = .returned (.bool (oneB H ⟨key, a, b⟩)) ∧ Below w.heap.size w w' := by
  obtain ⟨W0, hW0⟩ : ∃ W0, (w.alloc (.cells #[.slice A H.length c] 24)).alloc (.cells #[.int .i64 key, .int .i64 a, .int .i64 b] 49) = W0 := ⟨_, rfl⟩
  have hB := below_two hW0
  have k0 := Blk.two1 hW0
  have k1 := Blk.two2 hW0
  have hT := hide (h.below hB)
  have hcl := hide (fun (t : Int) W (hW : Below W0.heap.size W0 W) => cc22_any A c H t key w.heap.size (w.heap.size + 1) W (hT.out.below hW) hn (by have := (k0.below hW k0.lt).cell 0; simpa using this) (by have := (k1.below hW k1.lt).cell 0; simpa using this))
  have c0 := Blk.n0 k1
  have c1 := Blk.n1 k1
  have c2 := Blk.n2 k1
  have hone : Hid (oneB H ⟨key, a, b⟩ = (decide (a ≠ b) && wrB H a key && wrB H b key)) := hide rfl
  obtain ⟨r, hr⟩ : ∃ r, oneB H ⟨key, a, b⟩ = r := ⟨_, rfl⟩
  rw [hr] at hone
  rw [hr]
  clear h hr
  by_cases hab : a = b
  · have g1 : (a != b) = false := by simp [hab]
    have hre : r = false := by rw [hone.out]; simp [hab]
    subst hre
    clear hab hone hcl
    go_enter Tryz.func76, Tryz.ntmps76
    go_wp2
    go_ret
    exact ⟨rfl, hB⟩
  · have g1 : (a != b) = true := by simpa using hab
    have hone2 := hide (show r = (wrB H a key && wrB H b key) by rw [hone.out]; simp [hab])
    have h1 := hide (hcl.out a W0 (Below.refl _ _))
    have h2 := hide (fun W hW => hcl.out b W hW)
    generalize wrB H a key = q1 at *
    generalize wrB H b key = q2 at *
    clear hab hone hcl
    go_enter Tryz.func76, Tryz.ntmps76
    go_wp2_with fail
    refine h1.out.mono ?_
    rintro e w1 ⟨rfl, hb1⟩
    have d2 := (hb1.cell (p := ⟨w.heap.size + 1, 2, none⟩) k1.lt).trans c2
    have hb2 := hB.trans (hb1.mono hB.size)
    have h3 := hide (h2.out w1 hb1)
    clear hW0 h1 h2 c0 c1 c2
    cases q1 with
    | false =>
      have hre : r = false := by rw [hone2.out]; rfl
      subst hre
      clear h3 hone2
      go_wp2
      go_ret
      exact ⟨rfl, hb2⟩
    | true =>
      have hre : r = q2 := by rw [hone2.out]; rfl
      subst hre
      clear hone2
      go_wp2_with fail
      refine h3.out.mono ?_
      rintro e w2 ⟨rfl, hb3⟩
      go_wp2
      go_ret
      exact ⟨rfl, hb2.trans (hb3.mono hb2.size)⟩
theorem reasons22_any (w : World) :
    Calls Tryz.prog 77 #[] w fun e w' => e = .returned (.slice (some ⟨w.heap.size, 0, none⟩) 4 4) ∧ Blk w' w.heap.size 136 #[.int .i64 1, .func (.func 134) #[] #[], .int .i64 2, .func (.func 135) #[] #[], .int .i64 3, .func (.func 136) #[] #[], .int .i64 4, .func (.func 137) #[] #[]] ∧ Below w.heap.size w w' := by
  go_enter Tryz.func77, Tryz.ntmps77
  go_wp2
  go_ret
  exact ⟨rfl, Blk.new _ _ _, (Below.refl _ _).alloc (Nat.le_refl _) _⟩
set_option maxRecDepth 100000 in
theorem ax22_any (A : Option Addr) (c : Nat) (H : List Txn) (level : Int) (vl : Value) (f : Fct) (vc : Value) (w : World) (h : TxnS w (Old w) (.slice A H.length c) H) (hn : SmallH H) :
    Calls Tryz.prog 134 #[.agg #[.slice A H.length c, .int .i64 level, vl, .int .i64 f.c.key, .int .i64 f.c.a, .int .i64 f.c.b, .int .i64 f.kind, .int .i64 f.i, .int .i64 f.j, vc]] w fun e w' => e = .returned (.bool (axB H f)) ∧ Below w.heap.size w w' := by
  obtain ⟨⟨key, a, b⟩, kind, i, j, cyc⟩ := f
  dsimp only
  obtain ⟨W0, hW0⟩ : ∃ W0, w.alloc (.cells #[.slice A H.length c, .int .i64 level, vl, .int .i64 key, .int .i64 a, .int .i64 b, .int .i64 kind, .int .i64 i, .int .i64 j, vc] 138) = W0 := ⟨_, rfl⟩
  have hB := below_allocEq (Below.refl w.heap.size w) hW0 (Nat.le_refl _)
  have k0 := Blk.newEq hW0
  have hdi := hide (direct19_any A c H none 0 [] a b W0 (h.below hB) hn (ChoS.nil _ _ _ _) (by simp))
  have hre : Hid (axB H ⟨⟨key, a, b⟩, kind, i, j, cyc⟩ = (decide (i = 0) && decide (j = 0) && directB H [] a b)) := hide rfl
  obtain ⟨r, hr⟩ : ∃ r, axB H ⟨⟨key, a, b⟩, kind, i, j, cyc⟩ = r := ⟨_, rfl⟩
  rw [hr] at hre
  rw [hr]
  generalize directB H [] a b = q at *
  have c0 := Blk.n0 k0
  have c4 := Blk.n4 k0
  have c5 := Blk.n5 k0
  have c7 := Blk.n7 k0
  have c8 := Blk.n8 k0
  clear h hr
  by_cases h1 : i = 0
  · by_cases h2 : j = 0
    · have hrq : r = q := by rw [hre.out]; simp [h1, h2]
      have g1 : (i == 0) = true := by simp [h1]
      have g2 : (j == 0) = true := by simp [h2]
      subst hrq
      clear h1 h2 hre
      go_enter Tryz.func134, Tryz.ntmps134
      go_wp2_with fail
      refine hdi.out.mono ?_
      rintro e w1 ⟨rfl, hb1⟩
      go_wp2
      go_ret
      exact ⟨rfl, hB.trans (hb1.mono hB.size)⟩
    · have hrq : r = false := by rw [hre.out]; simp [h2]
      have g1 : (i == 0) = true := by simp [h1]
      have g2 : (j == 0) = false := by simpa using h2
      subst hrq
      clear h1 h2 hre hdi
      go_enter Tryz.func134, Tryz.ntmps134
      go_wp2
      go_ret
      exact ⟨rfl, hB⟩
  · have hrq : r = false := by rw [hre.out]; simp [h1]
    have g1 : (i == 0) = false := by simpa using h1
    subst hrq
    clear h1 hre hdi
    go_enter Tryz.func134, Tryz.ntmps134
    go_wp2
    go_ret
    exact ⟨rfl, hB⟩
end Go.Proofs.YtjomijnbnbideaaGreatDoor
