/-
  Walks: layer 17's reference: who reads what was there at first, and who wrote over it.
-/
import Derived.Test.YtfhnamomiaekdaaGreatT19
import Derived.Test.YtfhnamomiaekdaaGreatT20
set_option linter.unusedVariables false
set_option linter.unusedSimpArgs false
namespace Go.Proofs.YtfhnamomiaekdaaGreat
open Go.RowKit Go.Inq
set_option maxHeartbeats 8000000
attribute [local go_sem ↓] Go.wp_at_zero Go.wp_at_succ

/-- Row t's edges to the first w nodes, where P holds. -/
def rowE (t w : Nat) (P : Nat → Bool) : Edges := fun a b => decide (a = t) && (decide (b < w) && P b)
theorem rowE_zero (E : Edges) (t : Nat) (P : Nat → Bool) : orE E (rowE t 0 P) = E := by
  funext a b; simp [orE, rowE]
theorem rowE_step {E : Edges} {t w : Nat} {P : Nat → Bool} (h : P w = true) : orE E (rowE t (w + 1) P) = orE (orE E (rowE t w P)) (oneE t w) := by
  funext a b
  unfold orE rowE oneE
  by_cases e : b = w
  · subst e; simp [h]
  · have : decide (b < w + 1) = decide (b < w) := by simp; omega
    simp [e, this]
theorem rowE_skip {E : Edges} {t w : Nat} {P : Nat → Bool} (h : P w = false) : orE E (rowE t (w + 1) P) = orE E (rowE t w P) := by
  funext a b
  unfold orE rowE
  by_cases e : b = w
  · subst e; simp [h]
  · have : decide (b < w + 1) = decide (b < w) := by simp; omega
    simp [this]
/-- Does a read see what was there at first, that b writes over? -/
def inP (H : List Txn) (t : Nat) (r : It) (b : Nat) : Bool := decide (t ≠ b) && (decide (r.b = -1) && (txnAt H b).writes.contains r.a)
/-- Who reads what was there at first, of the readers ahead of t, and the first i reads of t. -/
def inTo (H : List Txn) (t i : Nat) : Edges := fun a b => (decide (a < t) && (txnAt H a).reads.any fun r => inP H a r b) || (decide (a = t) && ((txnAt H a).reads.take i).any fun r => inP H a r b)
theorem inTo_zero (H : List Txn) : inTo H 0 0 = noE := by
  funext a b
  simp [inTo, noE]
theorem inTo_step {H : List Txn} {t i : Nat} {R : List It} (hR : (txnAt H t).reads = R) (hi : i < R.length) {n a b : Nat} (hb : b < n) : orE (inTo H t i) (rowE t n (inP H t R[i])) a b = inTo H t (i + 1) a b := by
  subst hR
  unfold orE inTo rowE
  by_cases e : a = t
  · subst e
    rw [List.take_succ_eq_append_getElem hi, List.any_append]
    simp [hb]
  · simp [e]
theorem inTo_row {H : List Txn} {t : Nat} {R : List It} (hR : (txnAt H t).reads = R) : inTo H t R.length = inTo H (t + 1) 0 := by
  subst hR
  funext a b
  unfold inTo
  by_cases e : a = t
  · subst e
    rw [List.take_length]
    simp
  · have : decide (a < t + 1) = decide (a < t) := by simp; omega
    simp [e, this]
theorem inTo_all {H : List Txn} {a b : Nat} (ha : a < H.length) : inTo H H.length 0 a b = initE H a b := by
  unfold inTo initE inP
  simp only [ha, decide_true, Bool.true_and, List.take_zero, List.any_nil, Bool.and_false, Bool.or_false]
  rw [Bool.eq_iff_iff]
  simp only [List.any_eq_true, Bool.and_eq_true]
  constructor
  · rintro ⟨r, h1, h2, h3⟩; exact ⟨h2, r, h1, h3⟩
  · rintro ⟨h2, r, h1, h3⟩; exact ⟨r, h1, h2, h3⟩
set_option maxRecDepth 100000 in
theorem rinit17_any (A : Option Addr) (c : Nat) (H : List Txn) (w : World) (h : TxnS w (Old w) (.slice A H.length c) H) (hr : rightH H = true) (hn : SmallH H) :
    Calls Tryz.prog 223 #[.agg #[.slice A H.length c]] w (OutR w H.length (initE H)) := by
  have hn64 : H.length ≤ 64 := by have := ((rightH_iff H).1 hr).1; omega
  clear hr
  go_enter Tryz.func223, Tryz.ntmps223
  go_upto_region 1 with fail
  obtain ⟨W0, hW0⟩ : ∃ W0, (w.alloc (.cells #[.slice A H.length c] 24)).alloc (.cells #[.int .i64 0, .slice none 0 0] 174) = W0 := ⟨_, rfl⟩
  rw [hW0]
  have hb := below_two hW0
  have k1 := Blk.two1 hW0
  have k3 := Blk.two2 hW0
  have s0 := size_two hW0
  have hT := hide (h.below hb)
  clear hW0 h
  have c0 := k1.cell 0
  simp only [List.getElem?_toArray, List.getElem?_cons_zero, List.getElem?_cons_succ] at c0
  replace s0 := hide s0
  go_wp2_with fail
  refine (rnew12_any H.length hn64 W0).mono ?_
  rintro e w1 ⟨v, rfl, hR, hb1⟩
  clear c0
  obtain ⟨Av, cv, rfl, -⟩ := hR.gr hn64 (K := fun _ => True) (fun _ _ _ => trivial)
  go_upto_region 2 with fail
  obtain ⟨W5, hW5⟩ : ∃ W5, w1.alloc (.cells #[.int .i64 (H.length : Int), .slice Av H.length cv] 174) = W5 := ⟨_, rfl⟩
  rw [hW5]
  have hP := RGP.start hR hn64 hW5
  have hs1 := hb1.size
  have hb5 := below_allocEq hb1 hW5 hs1
  clear hW5 hR hb1
  go_wp2_with fail
  go_loopw [4] (fun s4 wr => ∃ x : Nat, x ≤ H.length ∧ s4 = .int .i64 x ∧ RGP wr W0.heap.size w1.heap.size H.length (inTo H x 0) Av cv ∧ Below W0.heap.size W0 wr) (fun s4 _ => H.length - (intOf s4).toNat)
  case atStart => exact ⟨0, Nat.zero_le _, by go_num, by rw [inTo_zero]; exact hP, hb5⟩
  case round =>
    obtain ⟨x, hx, rfl, hPr, hbr⟩ := hrel
    have hx1 : (0 : Int) ≤ (x : Int) := Int.natCast_nonneg _
    have c0 := hPr.c0
    have c1 := hPr.c1
    by_cases hlt : x < H.length
    · have hx2 : (x : Int) < (H.length : Int) := by omega
      obtain ⟨bt, ot, Aw, cw, Ar, cr, hA, hKb, -, -, d2, -, hrs⟩ := hT.out.at_ hlt
      subst hA
      replace d2 := (hbr.cell (p := ⟨bt, ot + x * 3 + 2, none⟩) hKb).trans d2
      have k1q := k1.below hbr k1.lt
      have a0 := k1q.cell 0
      simp only [List.getElem?_toArray, List.getElem?_cons_zero, List.getElem?_cons_succ] at a0
      obtain ⟨R, hR⟩ : ∃ R, H[x].reads = R := ⟨_, rfl⟩
      have hRt : (txnAt H x).reads = R := by rw [txnAt_of hlt]; exact hR
      have hR9 : R.length ≤ 1000000 := by rw [← hR]; exact (hn.2 _ (List.getElem_mem hlt)).2
      rw [hR] at hrs d2
      clear hR
      replace hRt := hide hRt
      replace hrs := hide hrs
      go_wp2_with fail
      clear c0 c1 a0 d2 k1q
      go_loopw [6] (fun s6 wq => ∃ i : Nat, i ≤ R.length ∧ s6 = .int .i64 i ∧ RGP wq W0.heap.size w1.heap.size H.length (inTo H x i) Av cv ∧ Below W0.heap.size W0 wq) (fun s6 _ => R.length - (intOf s6).toNat)
      case atStart => exact ⟨0, Nat.zero_le _, by go_num, hPr, hbr⟩
      case round =>
        obtain ⟨i, hi, rfl, hPi, hbi⟩ := hrel
        have hi1 : (0 : Int) ≤ (i : Int) := Int.natCast_nonneg _
        by_cases hlq : i < R.length
        · have hi2 : (i : Int) < (R.length : Int) := by omega
          clear hPr
          have hend := hide (fun a b (hb : b < H.length) => inTo_step (a := a) hRt.out hlq hb)
          have hRi : Hid (∀ wq, Below W0.heap.size W0 wq → ∃ b off, Ar = some ⟨b, off, none⟩ ∧ wq.cell? ⟨b, off + i * 2, none⟩ = some (.int .i64 R[i].a) ∧ wq.cell? ⟨b, off + i * 2 + 1, none⟩ = some (.int .i64 R[i].b)) := hide fun wq hq => by
            obtain ⟨b, off, g1, -, g2, g3⟩ := (hrs.out.below hq).at_ hlq
            exact ⟨b, off, g1, g2, g3⟩
          generalize R[i] = r at *
          go_wp2_with fail
          go_loopw [7] (fun s7 wq => ∃ y : Nat, y ≤ H.length ∧ s7 = .int .i64 y ∧ RGP wq W0.heap.size w1.heap.size H.length (orE (inTo H x i) (rowE x y (inP H x r))) Av cv ∧ Below W0.heap.size W0 wq) (fun s7 _ => H.length - (intOf s7).toNat)
          case atStart => exact ⟨0, Nat.zero_le _, by go_num, by rw [rowE_zero]; exact hPi, hbi⟩
          case round =>
            obtain ⟨y, hy, rfl, hPy, hby⟩ := hrel
            have hy1 : (0 : Int) ≤ (y : Int) := Int.natCast_nonneg _
            have c0 := hPy.c0
            by_cases hly : y < H.length
            · have hy2 : (y : Int) < (H.length : Int) := by omega
              obtain ⟨br, orr, rfl, z0, -⟩ := hRi.out _ hby
              obtain ⟨bt', ot', Aw', cw', Ar', cr', e', hKb', d0, d1, d2, hws, -⟩ := (hT.out.below hby).at_ hly
              injection e' with e'
              injection e' with e1 e2
              subst e1 e2
              have k1y := k1.below hby k1.lt
              have a0 := k1y.cell 0
              simp only [List.getElem?_toArray, List.getElem?_cons_zero, List.getElem?_cons_succ] at a0
              have hwl : H[y].writes.length ≤ maxLen := by have := (hn.2 _ (List.getElem_mem hly)).1; unfold maxLen; omega
              have hst := hide (rowE_step (E := inTo H x i) (t := x) (w := y) (P := inP H x r))
              have hsk := hide (rowE_skip (E := inTo H x i) (t := x) (w := y) (P := inP H x r))
              have hinP : Hid (inP H x r y = (decide (x ≠ y) && (decide (r.b = -1) && H[y].writes.contains r.a))) := hide (by unfold inP; rw [txnAt_of hly])
              have hcw := hide (writes08_any H[y].sess Aw' cw' H[y].writes (.slice Ar' H[y].reads.length cr') r.a (Old wr) wr.drew (hws.keep (Agree.drew _ _) (fun b h => h)) (fun b h => h) hwl)
              generalize H[y].writes = L at *
              generalize H[y].sess = sy at *
              generalize H[y].reads = Ry at *
              generalize L.contains r.a = cb at *
              go_wp2_with fail
              refine wp_region_still_tail 10 (by kernel_rfl) (by kernel_rfl) ?_
              simp only [List.take_succ_cons, List.take_zero, List.drop_succ_cons, List.drop_zero]
              repeat still_step
              refine wpStill_nil ?_
              go_wp2_with fail
              refine hcw.out.mono ?_
              rintro e w3 ⟨rfl, hb3⟩
              have hb4 := (below_drew hby).trans (hb3.mono hby.size)
              have hP4 := hPy.drew.below hb3 (Nat.le_refl _)
              obtain ⟨br', or', e', -, z1⟩ := hRi.out _ hb4
              injection e' with e'
              injection e' with e1 e2
              subst e1 e2
              clear hcw hPy hPi hbi hby hb3 a0 d0 d1 d2 hws c0 k1y z0
              cases cb with
              | false =>
                have hE2 := hide (hsk.out (by rw [hinP.out]; simp))
                clear hst hsk hinP
                go_wp2
                go_roundw
                case rel => exact ⟨y + 1, by omega, by go_num, by rw [hE2.out]; exact hP4, hb4⟩
                case measure => simp [intOf]; omega
              | true =>
                by_cases hm1 : r.b = -1
                · have hmb : (r.b == (-1)) = true := by simpa using hm1
                  by_cases hxy : x = y
                  · have hxb : ((y : Int) != (x : Int)) = false := by subst hxy; simp
                    have hE2 := hide (hsk.out (by rw [hinP.out]; simp [hxy]))
                    clear hst hsk hinP hm1 hxy
                    go_wp2
                    go_roundw
                    case rel => exact ⟨y + 1, by omega, by go_num, by rw [hE2.out]; exact hP4, hb4⟩
                    case measure => simp [intOf]; omega
                  · have hxb : ((y : Int) != (x : Int)) = true := by simp; omega
                    have hE2 := hide (hst.out (by rw [hinP.out]; simp [hxy, hm1]))
                    go_wp2_with fail
                    clear z1 hmb hxb hm1 hxy
                    obtain ⟨g, rfl, hX⟩ := hP4.at_ hlt
                    have hP5 := hide (hX.add (y := y) hlt hly).drew
                    have hb5 := hide (below_drew (hb4.setCell (p := ⟨g, x, none⟩) hX.B (.int .u64 (withB (setB ((orE (inTo H x i) (rowE x y (inP H x r))) x) H.length) (y : Int) : Nat))))
                    obtain ⟨-, c0, c1, d0, df, gp, gl, -, h64⟩ := hX
                    clear hst hsk hinP hP4 hb4
                    generalize setB ((orE (inTo H x i) (rowE x y (inP H x r))) x) H.length = s at *
                    go_upto_region 14 with fail
                    refine wp_region_still_tail 11 (by kernel_rfl) (by kernel_rfl) ?_
                    simp only [List.take_succ_cons, List.take_zero, List.drop_succ_cons, List.drop_zero]
                    repeat still_step
                    still_call ((rwith10_any _ h64 _ _).mono fun _ _ h => ⟨h.1, h.2.symm⟩)
                    repeat still_step
                    refine wpStill_nil ?_
                    change wpList _ _ _ _ _ (w3).drew
                    go_wp2
                    go_roundw
                    case rel => exact ⟨y + 1, by omega, by go_num, by rw [hE2.out]; exact hP5.out, hb5.out⟩
                    case measure => simp [intOf]; omega
                · have hmb : (r.b == (-1)) = false := by simpa using hm1
                  have hE2 := hide (hsk.out (by rw [hinP.out]; simp [hm1]))
                  clear hst hsk hinP hm1
                  go_wp2
                  go_roundw
                  case rel => exact ⟨y + 1, by omega, by go_num, by rw [hE2.out]; exact hP4, hb4⟩
                  case measure => simp [intOf]; omega
            · obtain rfl : y = H.length := by omega
              have hP4 := hide (hPy.congr (F := inTo H x (i + 1)) fun a b _ hb => hend.out a b hb)
              clear hPy hPi
              go_wp2
              go_roundw
              case rel => exact ⟨i + 1, by omega, by go_num, hP4.out, hby⟩
              case measure => simp [intOf]; omega
        · obtain rfl : i = R.length := by omega
          rw [inTo_row hRt.out] at hPi
          clear hPr
          go_wp2
          go_roundw
          case rel => exact ⟨x + 1, by omega, by go_num, hPi, hbi⟩
          case measure => simp [intOf]; omega
    · obtain rfl : x = H.length := by omega
      have hP4 := hPr.congr (F := initE H) fun a b ha _ => inTo_all ha
      have k3r := k3.below hbr k3.lt
      have f0 := k3r.frozen 0
      have f1 := k3r.frozen 1
      have e0 := k3r.cell 0
      have e1 := k3r.cell 1
      have hs0 := s0.out
      have hs3 : w.heap.size + 1 < W0.heap.size := k3.lt
      have hR := hide (((hP4.rg.far (p := ⟨w.heap.size + 1, 0, none⟩) hs3 (.int .i64 H.length)).far (p := ⟨w.heap.size + 1, 1, none⟩) hs3 (.slice Av H.length cv)).base (B' := w.heap.size) (by omega))
      have hz := hide (((hb.trans (hbr.mono hb.size)).setCell (p := ⟨w.heap.size + 1, 0, none⟩) (by simp; try omega) (.int .i64 H.length)).setCell (p := ⟨w.heap.size + 1, 1, none⟩) (by simp; try omega) (.slice Av H.length cv))
      have hq := (k3r.set_ 0 (.int .i64 H.length)).set_ 1 (.slice Av H.length cv)
      simp only [List.setIfInBounds_toArray, List.set_cons_zero, List.set_cons_succ] at hq
      have y0 := hq.cell 0
      have y1 := hq.cell 1
      simp only [List.getElem?_toArray, List.getElem?_cons_zero, List.getElem?_cons_succ] at y0 y1 e0 e1
      clear hq hs0 hs3
      go_wp2_with fail
      exact bodyPost_ret (v := .agg #[.int .i64 H.length, .slice Av H.length cv]) (by simp [results, Tryz.results223, go_sem, y0, y1]) rfl ⟨_, rfl, hR.out, hz.out⟩
end Go.Proofs.YtfhnamomiaekdaaGreat
