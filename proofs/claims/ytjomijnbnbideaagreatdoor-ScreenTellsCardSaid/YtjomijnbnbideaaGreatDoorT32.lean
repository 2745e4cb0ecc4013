/-
  Walks: layer 28's reference: the fact that makes a choice plain.
-/
import Derived.Test.YtjomijnbnbideaaGreatDoorT31
import Derived.Test.YtjomijnbnbideaaGreatDoorT26
set_option linter.unusedVariables false
set_option linter.unusedSimpArgs false
namespace Go.Proofs.YtjomijnbnbideaaGreatDoor
open Go.RowKit Go.Inq
set_option maxHeartbeats 4000000
attribute [local go_sem ↓] Go.wp_at_zero Go.wp_at_succ

/-- What plain tells: the fact, and whether there is one. -/
def plV (c : Cho) : Option (Option Nat) → Value
  | some x => .tuple #[.agg #[.int .i64 c.key, .int .i64 c.a, .int .i64 c.b, .int .i64 (mkF c x).kind, .int .i64 (mkF c x).i, .int .i64 0, .slice none 0 0], .bool true]
  | none => .tuple #[.agg #[.int .i64 0, .int .i64 0, .int .i64 0, .int .i64 0, .int .i64 0, .int .i64 0, .slice none 0 0], .bool false]
theorem rholds_mk (A : Option Addr) (c : Nat) (H : List Txn) (level : Int) (ck ca cb kd i : Int) (x : Option Nat) (w : World) (h : TxnS w (Old w) (.slice A H.length c) H) (hn : SmallH H) (hk : kd = (mkF ⟨ck, ca, cb⟩ x).kind) (hi : i = (mkF ⟨ck, ca, cb⟩ x).i) :
    Calls Tryz.prog 132 #[.agg #[.slice A H.length c], .int .i64 level, .slice none 0 0, .agg #[.int .i64 ck, .int .i64 ca, .int .i64 cb, .int .i64 kd, .int .i64 i, .int .i64 0, .slice none 0 0]] w fun e w' => e = .returned (.bool (holdsB H level [] (mkF ⟨ck, ca, cb⟩ x))) ∧ Below w.heap.size w w' := by
  subst hk hi
  have := rholds22_plain A c H level none 0 0 [] (mkF ⟨ck, ca, cb⟩ x) none 0 w h hn (mkF_kind _ _)
  simpa only [mkF_c, mkF_j, mkF_cyc, List.length_nil] using this
set_option maxRecDepth 100000 in
theorem rplain28_any (A : Option Addr) (c : Nat) (H : List Txn) (level : Int) (d : Cho) (w : World) (h : TxnS w (Old w) (.slice A H.length c) H) (hn : SmallH H) :
    Calls Tryz.prog 73 #[.agg #[.slice A H.length c], .int .i64 level, .agg #[.int .i64 d.key, .int .i64 d.a, .int .i64 d.b]] w fun e w' => e = .returned (plV d (perF H level d)) ∧ Below w.heap.size w w' := by
  obtain ⟨ck, ca, cb⟩ := d
  dsimp only
  obtain ⟨W0, hW0⟩ : ∃ W0, ((w.alloc (.cells #[.slice A H.length c] 24)).alloc (.cells #[.int .i64 ck, .int .i64 ca, .int .i64 cb] 49)).alloc (.cells #[.int .i64 0, .int .i64 0, .int .i64 0, .int .i64 0, .int .i64 0, .int .i64 0, .slice none 0 0] 119) = W0 := ⟨_, rfl⟩
  have hs0 := hide (show W0.heap.size = w.heap.size + 3 by rw [← hW0]; simp)
  have hB : Below w.heap.size w W0 := by rw [← hW0]; exact (((Below.refl _ w).alloc (Nat.le_refl _) _).alloc (by simp) _).alloc (by simp; omega) _
  have k0 : Blk W0 w.heap.size 24 #[.slice A H.length c] := by rw [← hW0]; exact ((Blk.new _ _ _).alloc _).alloc _
  have k1 : Blk W0 (w.heap.size + 1) 49 #[.int .i64 ck, .int .i64 ca, .int .i64 cb] := by
    rw [← hW0]
    have := (Blk.new (w.alloc (.cells #[.slice A H.length c] 24)) 49 #[.int .i64 ck, .int .i64 ca, .int .i64 cb]).alloc (.cells #[.int .i64 0, .int .i64 0, .int .i64 0, .int .i64 0, .int .i64 0, .int .i64 0, .slice none 0 0] 119)
    simpa using this
  have k2 : Blk W0 (w.heap.size + 1 + 1) 119 #[.int .i64 0, .int .i64 0, .int .i64 0, .int .i64 0, .int .i64 0, .int .i64 0, .slice none 0 0] := by
    rw [← hW0]
    have := Blk.new ((w.alloc (.cells #[.slice A H.length c] 24)).alloc (.cells #[.int .i64 ck, .int .i64 ca, .int .i64 cb] 49)) 119 #[.int .i64 0, .int .i64 0, .int .i64 0, .int .i64 0, .int .i64 0, .int .i64 0, .slice none 0 0]
    simpa using this
  have hh := hide (fun W hb => h.below (w' := W) hb)
  have hpr := hide (show ∀ v, v = plV ⟨ck, ca, cb⟩ (perF H level ⟨ck, ca, cb⟩) → plV ⟨ck, ca, cb⟩ (perF H level ⟨ck, ca, cb⟩) = v from fun v h => h.symm)
  have hfound := hide (fun pre x (h1 : pre ++ [x] <+: perTo H.length) h2 h3 => find_pre (p := fun x => holdsB H level [] (mkF ⟨ck, ca, cb⟩ x)) h1 h2 h3)
  have hmiss := hide (fun h1 => find_none (l := perTo H.length) (p := fun x => holdsB H level [] (mkF ⟨ck, ca, cb⟩ x)) h1)
  have hpf : perF H level ⟨ck, ca, cb⟩ = (perTo H.length).find? fun x => holdsB H level [] (mkF ⟨ck, ca, cb⟩ x) := rfl
  obtain ⟨P, hP⟩ : ∃ P, perF H level ⟨ck, ca, cb⟩ = P := ⟨_, rfl⟩
  rw [hP]
  rw [hP] at hpf
  replace hpf := hide hpf
  have hHl : H.length ≤ 1000000 := by have := hn.1; omega
  replace hn := hide hn
  have c0 := k0.cell 0
  have c1 := k1.cell 0
  have c2 := k1.cell 1
  have c3 := k1.cell 2
  simp only [List.getElem?_toArray, List.getElem?_cons_zero, List.getElem?_cons_succ] at c0 c1 c2 c3
  clear h hP hpr
  go_enter Tryz.func73, Tryz.ntmps73
  go_upto_region 1 with fail
  try rw [hW0]
  clear hW0
  go_upto_region 2 with fail
  obtain ⟨W1, hW1⟩ : ∃ W1, W0.alloc (.cells #[.int .i64 ck, .int .i64 ca, .int .i64 cb, .int .i64 1, .int .i64 0, .int .i64 0, .slice none 0 0] 119) = W1 := ⟨_, rfl⟩
  have k3 := Blk.newEq hW1
  have hb1 := below_allocEq (Below.refl W0.heap.size W0) hW1 (Nat.le_refl _)
  have hB1 := hB.trans (hb1.mono hB.size)
  replace k0 := k0.below hb1 k0.lt
  replace k2 := k2.below hb1 k2.lt
  have hho := hide (rholds_mk A c H level ck ca cb 1 0 none W1 (hh.out W1 hB1) hn.out rfl rfl)
  have x0 := k3.cell 0
  have x1 := k3.cell 1
  have x2 := k3.cell 2
  have x3 := k3.cell 3
  have x4 := k3.cell 4
  have x5 := k3.cell 5
  have x6 := k3.cell 6
  simp only [List.getElem?_toArray, List.getElem?_cons_zero, List.getElem?_cons_succ] at x0 x1 x2 x3 x4 x5 x6
  try rw [hW1]
  clear hW1 c1 c2 c3 k1
  have c0 := k0.cell 0
  simp only [List.getElem?_toArray, List.getElem?_cons_zero] at c0
  obtain ⟨q, hq⟩ : ∃ q, holdsB H level [] (mkF ⟨ck, ca, cb⟩ none) = q := ⟨_, rfl⟩
  rw [hq] at hho
  replace hq := hide hq
  have hg8 : w.heap.size + 1 + 1 < W0.heap.size := by have := hs0.out; omega
  go_wp2_with fail
  refine Calls.mono hho.out ?_
  rintro e w2 ⟨rfl, hb2⟩
  have hB2 := hB1.trans (hb2.mono hB1.size)
  replace k0 := k0.below hb2 k0.lt
  replace k2 := k2.below hb2 k2.lt
  replace k3 := k3.below hb2 k3.lt
  clear hho c0 x0 x1 x2 x3 x4 x5 x6 hb2 hB1 hb1
  generalize W0.heap.size = g8 at *
  have y0 := k2.cell 0
  have y1 := k2.cell 1
  have y2 := k2.cell 2
  have y3 := k2.cell 3
  have y4 := k2.cell 4
  have y5 := k2.cell 5
  have y6 := k2.cell 6
  have z0 := k2.frozen 0
  have z1 := k2.frozen 1
  have z2 := k2.frozen 2
  have z3 := k2.frozen 3
  have z4 := k2.frozen 4
  have z5 := k2.frozen 5
  have z6 := k2.frozen 6
  have x0 := k3.cell 0
  have x1 := k3.cell 1
  have x2 := k3.cell 2
  have x3 := k3.cell 3
  have x4 := k3.cell 4
  have x5 := k3.cell 5
  have x6 := k3.cell 6
  have v1 := k3.frozen 3
  have v2 := k3.frozen 4
  simp only [List.getElem?_toArray, List.getElem?_cons_zero, List.getElem?_cons_succ] at x0 x1 x2 x3 x4 x5 x6 y0 y1 y2 y3 y4 y5 y6
  cases q with
  | true =>
    have hPx : P = some none := hpf.out.trans (hfound.out [] none (perTo_pre (k := 0) (Nat.zero_le _)) (by simp) hq.out)
    have kf : Blk _ (w.heap.size + 1 + 1) 119 #[.int .i64 ck, .int .i64 ca, .int .i64 cb, .int .i64 1, .int .i64 0, .int .i64 0, .slice none 0 0] := ((((((k2.set_ 0 (.int .i64 ck)).set_ 1 (.int .i64 ca)).set_ 2 (.int .i64 cb)).set_ 3 (.int .i64 1)).set_ 4 (.int .i64 0)).set_ 5 (.int .i64 0)).set_ 6 (.slice none 0 0)
    have hBf := ((((((hB2.setCell (p := ⟨w.heap.size + 1 + 1, 0, none⟩) (by simp; omega) (.int .i64 ck)).setCell (p := ⟨w.heap.size + 1 + 1, 1, none⟩) (by simp; omega) (.int .i64 ca)).setCell (p := ⟨w.heap.size + 1 + 1, 2, none⟩) (by simp; omega) (.int .i64 cb)).setCell (p := ⟨w.heap.size + 1 + 1, 3, none⟩) (by simp; omega) (.int .i64 1)).setCell (p := ⟨w.heap.size + 1 + 1, 4, none⟩) (by simp; omega) (.int .i64 0)).setCell (p := ⟨w.heap.size + 1 + 1, 5, none⟩) (by simp; omega) (.int .i64 0)).setCell (p := ⟨w.heap.size + 1 + 1, 6, none⟩) (by simp; omega) (.slice none 0 0)
    subst hPx
    have r0 := kf.cell 0
    have r1 := kf.cell 1
    have r2 := kf.cell 2
    have r3 := kf.cell 3
    have r4 := kf.cell 4
    have r5 := kf.cell 5
    have r6 := kf.cell 6
    simp only [List.getElem?_toArray, List.getElem?_cons_zero, List.getElem?_cons_succ] at r0 r1 r2 r3 r4 r5 r6
    replace r0 := hide r0
    replace r1 := hide r1
    replace r2 := hide r2
    replace r3 := hide r3
    replace r4 := hide r4
    replace r5 := hide r5
    replace r6 := hide r6
    replace hBf := hide hBf
    clear hfound hmiss hpf hq kf
    go_wp2
    exact bodyPost_ret (v := .tuple #[.agg #[.int .i64 ck, .int .i64 ca, .int .i64 cb, .int .i64 1, .int .i64 0, .int .i64 0, .slice none 0 0], .bool true]) (by simp [results, Tryz.results73, go_sem, r0.out, r1.out, r2.out, r3.out, r4.out, r5.out, r6.out]) rfl ⟨rfl, hBf.out⟩
  | false =>
    have k4 : Blk _ g8 119 #[.int .i64 ck, .int .i64 ca, .int .i64 cb, .int .i64 3, .int .i64 0, .int .i64 0, .slice none 0 0] := k3.set_ 3 (.int .i64 3)
    have k5 := k2.far (p := ⟨g8, 3, none⟩) (show w.heap.size + 1 + 1 ≠ g8 by omega) (.int .i64 3)
    have k6 := k0.far (p := ⟨g8, 3, none⟩) (show w.heap.size ≠ g8 by omega) (.int .i64 3)
    have hB4 := hB2.setCell (p := ⟨g8, 3, none⟩) (show w.heap.size ≤ g8 by omega) (.int .i64 3)
    have hall : Hid (∀ y ∈ perTo 0, holdsB H level [] (mkF ⟨ck, ca, cb⟩ y) = false) := hide (fun y hy => by
      obtain rfl : y = none := by simpa [perTo] using hy
      exact hq.out)
    clear hq k3 k2 k0 hB2 y0 y1 y2 y3 y4 y5 y6 z0 z1 z2 z3 z4 z5 z6
    go_upto_region 7 with fail
    go_loopw [10] (fun s10 wr => ∃ (i : Nat) (vi : Int), i ≤ H.length ∧ s10 = .int .i64 i ∧ Hid (∀ y ∈ perTo i, holdsB H level [] (mkF ⟨ck, ca, cb⟩ y) = false) ∧ Blk wr w.heap.size 24 #[.slice A H.length c] ∧ Blk wr (w.heap.size + 1 + 1) 119 #[.int .i64 0, .int .i64 0, .int .i64 0, .int .i64 0, .int .i64 0, .int .i64 0, .slice none 0 0] ∧ Blk wr g8 119 #[.int .i64 ck, .int .i64 ca, .int .i64 cb, .int .i64 3, .int .i64 vi, .int .i64 0, .slice none 0 0] ∧ Below w.heap.size w wr) (fun s10 _ => H.length - (intOf s10).toNat)
    case atStart => exact ⟨0, 0, Nat.zero_le _, by go_num, hall, k6, k5, k4, hB4⟩
    case round =>
      clear hall k6 k5 k4 hB4 x0 x1 x2 x3 x4 x5 x6 v1 v2
      obtain ⟨i, vi, hi, rfl, hall, k0, k2, k3, hB2⟩ := hrel
      obtain ⟨Wr, rfl⟩ : ∃ Wr, Wr = wr := ⟨_, rfl⟩
      have hi0 : (0 : Int) ≤ (i : Int) := Int.natCast_nonneg _
      have c0 := k0.cell 0
      have x4 := k3.cell 4
      have v2 := k3.frozen 4
      simp only [List.getElem?_toArray, List.getElem?_cons_zero, List.getElem?_cons_succ] at c0 x4
      by_cases hlt : i < H.length
      · have hi1 : (i : Int) < (H.length : Int) := by omega
        obtain ⟨W5, hW5⟩ : ∃ W5, Wr.setCell ⟨g8, 4, none⟩ (.int .i64 (i : Int)) = W5 := ⟨_, rfl⟩
        have k3' : Blk W5 g8 119 #[.int .i64 ck, .int .i64 ca, .int .i64 cb, .int .i64 3, .int .i64 (i : Int), .int .i64 0, .slice none 0 0] := by rw [← hW5]; exact k3.set_ 4 (.int .i64 (i : Int))
        have k2' : Blk W5 (w.heap.size + 1 + 1) 119 #[.int .i64 0, .int .i64 0, .int .i64 0, .int .i64 0, .int .i64 0, .int .i64 0, .slice none 0 0] := by rw [← hW5]; exact k2.far (p := ⟨g8, 4, none⟩) (show w.heap.size + 1 + 1 ≠ g8 by omega) _
        have k0' : Blk W5 w.heap.size 24 #[.slice A H.length c] := by rw [← hW5]; exact k0.far (p := ⟨g8, 4, none⟩) (show w.heap.size ≠ g8 by omega) _
        have hB5 : Below w.heap.size w W5 := by rw [← hW5]; exact hB2.setCell (p := ⟨g8, 4, none⟩) (show w.heap.size ≤ g8 by omega) _
        have hho := hide (rholds_mk A c H level ck ca cb 3 (i : Int) (some i) W5 (hh.out W5 hB5) hn.out rfl rfl)
        obtain ⟨q, hq⟩ : ∃ q, holdsB H level [] (mkF ⟨ck, ca, cb⟩ (some i)) = q := ⟨_, rfl⟩
        rw [hq] at hho
        have hst := hide (perTo_step i)
        have hpre := hide (show perTo (i + 1) <+: perTo H.length from perTo_pre (by omega))
        replace hq := hide hq
        clear k0 k2 k3 hB2
        go_upto_region 10 with fail
        try rw [hW5]
        clear hW5 c0 x4 v2
        have c0 := k0'.cell 0
        have x0 := k3'.cell 0
        have x1 := k3'.cell 1
        have x2 := k3'.cell 2
        have x3 := k3'.cell 3
        have x4 := k3'.cell 4
        have x5 := k3'.cell 5
        have x6 := k3'.cell 6
        simp only [List.getElem?_toArray, List.getElem?_cons_zero, List.getElem?_cons_succ] at c0 x0 x1 x2 x3 x4 x5 x6
        go_wp2_with fail
        refine Calls.mono hho.out ?_
        rintro e w6 ⟨rfl, hb6⟩
        have hB6 := hB5.trans (hb6.mono hB5.size)
        have k0 := k0'.below hb6 k0'.lt
        have k2 := k2'.below hb6 k2'.lt
        have k3 := k3'.below hb6 k3'.lt
        clear hho c0 x0 x1 x2 x3 x4 x5 x6 hb6 hB5 k0' k2' k3'
        cases q with
        | true =>
          have hPx : P = some (some i) := hpf.out.trans (hfound.out (perTo i) (some i) (by rw [← hst.out]; exact hpre.out) hall.out hq.out)
          have y0 := k2.cell 0
          have y1 := k2.cell 1
          have y2 := k2.cell 2
          have y3 := k2.cell 3
          have y4 := k2.cell 4
          have y5 := k2.cell 5
          have y6 := k2.cell 6
          have z0 := k2.frozen 0
          have z1 := k2.frozen 1
          have z2 := k2.frozen 2
          have z3 := k2.frozen 3
          have z4 := k2.frozen 4
          have z5 := k2.frozen 5
          have z6 := k2.frozen 6
          have x0 := k3.cell 0
          have x1 := k3.cell 1
          have x2 := k3.cell 2
          have x3 := k3.cell 3
          have x4 := k3.cell 4
          have x5 := k3.cell 5
          have x6 := k3.cell 6
          simp only [List.getElem?_toArray, List.getElem?_cons_zero, List.getElem?_cons_succ] at x0 x1 x2 x3 x4 x5 x6 y0 y1 y2 y3 y4 y5 y6
          clear hst hpre hall
          have kf : Blk _ (w.heap.size + 1 + 1) 119 #[.int .i64 ck, .int .i64 ca, .int .i64 cb, .int .i64 3, .int .i64 (i : Int), .int .i64 0, .slice none 0 0] := ((((((k2.set_ 0 (.int .i64 ck)).set_ 1 (.int .i64 ca)).set_ 2 (.int .i64 cb)).set_ 3 (.int .i64 3)).set_ 4 (.int .i64 (i : Int))).set_ 5 (.int .i64 0)).set_ 6 (.slice none 0 0)
          have hBf := ((((((hB6.setCell (p := ⟨w.heap.size + 1 + 1, 0, none⟩) (by simp; omega) (.int .i64 ck)).setCell (p := ⟨w.heap.size + 1 + 1, 1, none⟩) (by simp; omega) (.int .i64 ca)).setCell (p := ⟨w.heap.size + 1 + 1, 2, none⟩) (by simp; omega) (.int .i64 cb)).setCell (p := ⟨w.heap.size + 1 + 1, 3, none⟩) (by simp; omega) (.int .i64 3)).setCell (p := ⟨w.heap.size + 1 + 1, 4, none⟩) (by simp; omega) (.int .i64 (i : Int))).setCell (p := ⟨w.heap.size + 1 + 1, 5, none⟩) (by simp; omega) (.int .i64 0)).setCell (p := ⟨w.heap.size + 1 + 1, 6, none⟩) (by simp; omega) (.slice none 0 0)
          subst hPx
          have r0 := kf.cell 0
          have r1 := kf.cell 1
          have r2 := kf.cell 2
          have r3 := kf.cell 3
          have r4 := kf.cell 4
          have r5 := kf.cell 5
          have r6 := kf.cell 6
          simp only [List.getElem?_toArray, List.getElem?_cons_zero, List.getElem?_cons_succ] at r0 r1 r2 r3 r4 r5 r6
          replace r0 := hide r0
          replace r1 := hide r1
          replace r2 := hide r2
          replace r3 := hide r3
          replace r4 := hide r4
          replace r5 := hide r5
          replace r6 := hide r6
          replace hBf := hide hBf
          clear hfound hmiss hpf hq kf
          go_wp2
          exact bodyPost_ret (v := .tuple #[.agg #[.int .i64 ck, .int .i64 ca, .int .i64 cb, .int .i64 3, .int .i64 (i : Int), .int .i64 0, .slice none 0 0], .bool true]) (by simp [results, Tryz.results73, go_sem, r0.out, r1.out, r2.out, r3.out, r4.out, r5.out, r6.out]) rfl ⟨rfl, hBf.out⟩
        | false =>
          have hall2 : Hid (∀ y ∈ perTo (i + 1), holdsB H level [] (mkF ⟨ck, ca, cb⟩ y) = false) := hide (fun y hy => by
            rw [hst.out] at hy
            rcases List.mem_append.1 hy with hy | hy
            · exact hall.out y hy
            · rw [List.mem_singleton.1 hy]; exact hq.out)
          clear hq hall hst hpre
          go_wp2
          go_roundw
          case rel => exact ⟨i + 1, (i : Int), by omega, by go_num, hall2, k0, k2, k3, hB6⟩
          case measure => simp [intOf] <;> omega
      · obtain rfl : i = H.length := by omega
        have hPx : P = none := hpf.out.trans (hmiss.out hall.out)
        subst hPx
        have y0 := k2.cell 0
        have y1 := k2.cell 1
        have y2 := k2.cell 2
        have y3 := k2.cell 3
        have y4 := k2.cell 4
        have y5 := k2.cell 5
        have y6 := k2.cell 6
        have z0 := k2.frozen 0
        have z1 := k2.frozen 1
        have z2 := k2.frozen 2
        have z3 := k2.frozen 3
        have z4 := k2.frozen 4
        have z5 := k2.frozen 5
        have z6 := k2.frozen 6
        simp only [List.getElem?_toArray, List.getElem?_cons_zero, List.getElem?_cons_succ] at y0 y1 y2 y3 y4 y5 y6
        have kf : Blk _ (w.heap.size + 1 + 1) 119 #[.int .i64 0, .int .i64 0, .int .i64 0, .int .i64 0, .int .i64 0, .int .i64 0, .slice none 0 0] := ((((((k2.set_ 0 (.int .i64 0)).set_ 1 (.int .i64 0)).set_ 2 (.int .i64 0)).set_ 3 (.int .i64 0)).set_ 4 (.int .i64 0)).set_ 5 (.int .i64 0)).set_ 6 (.slice none 0 0)
        have hBf := ((((((hB2.setCell (p := ⟨w.heap.size + 1 + 1, 0, none⟩) (by simp; omega) (.int .i64 0)).setCell (p := ⟨w.heap.size + 1 + 1, 1, none⟩) (by simp; omega) (.int .i64 0)).setCell (p := ⟨w.heap.size + 1 + 1, 2, none⟩) (by simp; omega) (.int .i64 0)).setCell (p := ⟨w.heap.size + 1 + 1, 3, none⟩) (by simp; omega) (.int .i64 0)).setCell (p := ⟨w.heap.size + 1 + 1, 4, none⟩) (by simp; omega) (.int .i64 0)).setCell (p := ⟨w.heap.size + 1 + 1, 5, none⟩) (by simp; omega) (.int .i64 0)).setCell (p := ⟨w.heap.size + 1 + 1, 6, none⟩) (by simp; omega) (.slice none 0 0)
        have r0 := hide (kf.cell 0)
        have r1 := hide (kf.cell 1)
        have r2 := hide (kf.cell 2)
        have r3 := hide (kf.cell 3)
        have r4 := hide (kf.cell 4)
        have r5 := hide (kf.cell 5)
        have r6 := hide (kf.cell 6)
        simp only [List.getElem?_toArray, List.getElem?_cons_zero, List.getElem?_cons_succ] at r0 r1 r2 r3 r4 r5 r6
        replace hBf := hide hBf
        clear hfound hmiss hpf hall kf x4 v2
        go_wp2
        exact bodyPost_ret (v := .tuple #[.agg #[.int .i64 0, .int .i64 0, .int .i64 0, .int .i64 0, .int .i64 0, .int .i64 0, .slice none 0 0], .bool false]) (by simp [results, Tryz.results73, go_sem, r0.out, r1.out, r2.out, r3.out, r4.out, r5.out, r6.out]) rfl ⟨rfl, hBf.out⟩
end Go.Proofs.YtjomijnbnbideaaGreatDoor
