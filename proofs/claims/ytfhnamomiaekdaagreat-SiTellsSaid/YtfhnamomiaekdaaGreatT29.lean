/-
  Walks: layer 18's reference: who reads ahead of whose write.
-/
import Derived.Test.YtfhnamomiaekdaaGreatT27
import Derived.Test.YtfhnamomiaekdaaGreatT22
import Derived.Test.YtfhnamomiaekdaaGreatT28
set_option linter.unusedVariables false
set_option linter.unusedSimpArgs false
namespace Go.Proofs.YtfhnamomiaekdaaGreat
open Go.RowKit Go.Inq
set_option maxHeartbeats 8000000
attribute [local go_sem ↓] Go.wp_at_zero Go.wp_at_succ

/-- What the first readers of a choice make. -/
def rdE (D : List Nat) (b : Nat) : Edges := fun x y => decide (y = b) && decide (x ≠ y) && D.contains x
theorem rdE_nil (E : Edges) (b : Nat) : orE E (rdE [] b) = E := by funext x y; simp [orE, rdE]
theorem rdE_yes {E : Edges} {D : List Nat} {b t : Nat} (h : t ≠ b) : orE E (rdE (D ++ [t]) b) = orE (orE E (rdE D b)) (oneE t b) := by
  funext x y
  unfold orE rdE oneE
  rw [Bool.or_assoc]
  congr 1
  by_cases e1 : y = b
  · subst e1
    by_cases e2 : x = t
    · subst e2; simp [h]
    · simp [e2]
  · simp [e1]
theorem rdE_no {E : Edges} {D : List Nat} {b t : Nat} (h : t = b) : orE E (rdE (D ++ [t]) b) = orE E (rdE D b) := by
  funext x y
  unfold orE rdE
  congr 1
  by_cases e1 : y = b
  · subst e1
    by_cases e2 : x = t
    · subst e2; simp [h]
    · simp [e2]
  · simp [e1]
theorem rdE_end {H : List Txn} (hr : rightH H = true) {l : List Cho} {k : Nat} (hk : k < l.length) {b : Nat} (hb : l[k].b = (b : Int)) {x y : Nat} (hx : x < H.length) :
    orE (rwE H (l.take k)) (rdE (rdrL H l[k].key l[k].a) b) x y = rwE H (l.take (k + 1)) x y := by
  rw [← rwMid_end H hk hx]
  unfold orE rwMid seesB rdE
  rw [decide_eq_true hx, Bool.true_and, hb]
  congr 1
  rw [Bool.eq_iff_iff]
  simp only [Bool.and_eq_true, decide_eq_true_eq, List.contains_iff_mem, rdrL_mem hr, List.any_eq_true]
  constructor
  · rintro ⟨⟨h1, h2⟩, _, r, h3, h4, h5⟩
    exact ⟨⟨by omega, h2⟩, r, h3, h4, h5⟩
  · rintro ⟨⟨h1, h2⟩, r, h3, h4, h5⟩
    exact ⟨⟨by omega, h2⟩, hx, r, h3, h4, h5⟩
set_option maxRecDepth 100000 in
theorem rrw18_any (A : Option Addr) (c : Nat) (H : List Txn) (Al : Option Addr) (cl : Nat) (l : List Cho) (w : World) (h : TxnS w (Old w) (.slice A H.length c) H) (hl : ChoS w (Old w) (.slice Al l.length cl) l) (hr : rightC H l = true) (hn : SmallH H) :
    Calls Tryz.prog 168 #[.agg #[.slice A H.length c], .slice Al l.length cl] w (OutR w H.length (rwE H l)) := by
  have hrh := rightC_hist hr
  have hn64 : H.length ≤ 64 := by have := ((rightH_iff H).1 hrh).1; omega
  have hll := rightC_len hr
  have hcn := hide (fun x hx => choice_nat hr (x := x) hx)
  replace hrh := hide hrh
  clear hr
  go_enter Tryz.func168, Tryz.ntmps168
  go_upto_region 1 with fail
  obtain ⟨W0, hW0⟩ : ∃ W0, (w.alloc (.cells #[.slice A H.length c] 24)).alloc (.cells #[.int .i64 0, .slice none 0 0] 174) = W0 := ⟨_, rfl⟩
  rw [hW0]
  have hb := below_two hW0
  have k1 := Blk.two1 hW0
  have k3 := Blk.two2 hW0
  have s0 := size_two hW0
  have hT := hide (h.below hb)
  have hl0 := hide (hl.below hb)
  clear hW0 h hl
  have c0 := k1.cell 0
  simp only [List.getElem?_toArray, List.getElem?_cons_zero, List.getElem?_cons_succ] at c0
  replace s0 := hide s0
  go_wp2_with fail
  refine (rinit17_any A c H W0 hT.out hrh.out hn).mono ?_
  rintro e w1 ⟨v, rfl, hR, hb1⟩
  clear c0
  obtain ⟨Av, cv, rfl, -⟩ := hR.gr hn64 (K := fun _ => True) (fun _ _ _ => trivial)
  go_upto_region 2 with fail
  obtain ⟨W5, hW5⟩ : ∃ W5, w1.alloc (.cells #[.int .i64 (H.length : Int), .slice Av H.length cv] 174) = W5 := ⟨_, rfl⟩
  rw [hW5]
  have hP := RGP.start hR hn64 hW5
  have hs1 := hb1.size
  have hb5 := below_allocEq hb1 hW5 hs1
  clear hW5 hR hb1
  go_wp2_with fail
  go_loopw [6] (fun s6 wr => ∃ k : Nat, k ≤ l.length ∧ s6 = .int .i64 k ∧ RGP wr W0.heap.size w1.heap.size H.length (rwE H (l.take k)) Av cv ∧ Below W0.heap.size W0 wr) (fun s6 _ => l.length - (intOf s6).toNat)
  case atStart => exact ⟨0, Nat.zero_le _, by go_num, hP.congr fun a b _ _ => rwE_nil H a b, hb5⟩
  case round =>
    obtain ⟨k, hk, rfl, hPk, hbk⟩ := hrel
    have hk1 : (0 : Int) ≤ (k : Int) := Int.natCast_nonneg _
    by_cases hlt : k < l.length
    · have hk2 : (k : Int) < (l.length : Int) := by omega
      obtain ⟨b, off, rfl, _, y0, y1, y2⟩ := (hl0.out.below hbk).at_ hlt
      obtain ⟨xa, xb, ha, hb', ha2, hb2⟩ := hcn.out _ (List.getElem_mem hlt)
      have hend := hide (fun x y (hx : x < H.length) => rdE_end hrh.out hlt hb' (y := y) hx)
      have hD32 : Hid (∀ x ∈ rdrL H l[k].key l[k].a, x < H.length) := hide (fun x hx => ((rdrL_mem hrh.out).1 hx).1)
      rw [ha] at hend hD32 y1
      rw [hb'] at y2
      have k1k := k1.below hbk k1.lt
      have c0 := k1k.cell 0
      simp only [List.getElem?_toArray, List.getElem?_cons_zero, List.getElem?_cons_succ] at c0
      have hcall := hide (rreaders09_any A c H l[k].key (xa : Int) wr.drew ((hT.out.below hbk).keep (Agree.drew _ _) (fun _ h => h)) hrh.out hn)
      have hDl := rdrTo_len H l[k].key (xa : Int) H.length
      have hly : Hid (∀ wq, Below W0.heap.size W0 wq → wq.cell? ⟨b, off + k * 3 + 2, none⟩ = some (.int .i64 (xb : Int))) := hide fun wq hq => by
        obtain ⟨b', off', e, -, -, -, e2⟩ := (hl0.out.below hq).at_ hlt
        injection e with e
        injection e with e3 e4
        subst e3 e4
        rw [hb'] at e2
        exact e2
      clear ha hb'
      generalize l[k].key = key at *
      change (rdrL H key xa).length ≤ _ at hDl
      generalize rdrL H key xa = D at *
      go_wp2_with fail
      refine wp_region_still_tail 11 (by kernel_rfl) (by kernel_rfl) ?_
      simp only [List.take_succ_cons, List.take_zero, List.drop_succ_cons, List.drop_zero]
      repeat still_step
      refine wpStill_nil ?_
      go_wp2_with fail
      refine hcall.out.mono ?_
      rintro e w3 ⟨v, rfl, hown, hb3⟩
      have hb4 := (below_drew hbk).trans (hb3.mono hbk.size)
      have hP4 := hPk.drew.below hb3 (Nat.le_refl _)
      have hsz3 : W0.heap.size ≤ wr.heap.size := hbk.size
      have hsl := hown.sl (K := fun g => wr.heap.size ≤ g ∧ g < w3.heap.size) (fun g h1 h2 => ⟨h1, h2⟩)
      obtain ⟨Ad, cd, rfl⟩ := hown.form
      have hpw : w1.heap.size < wr.heap.size := hPk.plt
      have hq1 := hide (intsN_len D)
      have hat := hide (fun j (hj : j < D.length) => intsN_at (l := D) hj)
      clear hcall hown hb3 hPk hbk c0 k1k y0 y1 y2
      rw [hq1.out] at hsl ⊢
      have hst := hide (fun j (hj : j < D.length) (h : D[j] ≠ xb) => by have := rdE_yes (E := rwE H (l.take k)) (D := D.take j) h; rwa [← take_snoc' hj] at this)
      have hsk := hide (fun j (hj : j < D.length) (h : D[j] = xb) => by have := rdE_no (E := rwE H (l.take k)) (D := D.take j) h; rwa [← take_snoc' hj] at this)
      go_wp2_with fail
      go_loopw [8] (fun s8 wq => ∃ j : Nat, j ≤ D.length ∧ s8 = .int .i64 j ∧ RGP wq W0.heap.size w1.heap.size H.length (orE (rwE H (l.take k)) (rdE (D.take j) xb)) Av cv ∧ Below W0.heap.size W0 wq ∧ IntS wq (fun g => wr.heap.size ≤ g ∧ g < w3.heap.size) (.slice Ad D.length cd) (intsN D)) (fun s8 _ => D.length - (intOf s8).toNat)
      case atStart => exact ⟨0, Nat.zero_le _, by go_num, by rw [List.take_zero, rdE_nil]; exact hP4, hb4, hsl⟩
      case round =>
        clear hP4 hb4 hsl
        obtain ⟨Wo, rfl⟩ : ∃ Wo, Wo = wr := ⟨_, rfl⟩
        obtain ⟨j, hj, rfl, hP4, hb4, hsl⟩ := hrel
        have hj1 : (0 : Int) ≤ (j : Int) := Int.natCast_nonneg _
        by_cases hlj : j < D.length
        · have hj2 : (j : Int) < (D.length : Int) := by omega
          obtain ⟨bd, od, rfl, hbd, z0⟩ := hsl.at_ (i := j) (by rw [hq1.out]; exact hlj)
          rw [hat.out j hlj] at z0
          have y2 := hly.out _ hb4
          have hst1 := hide (hst.out j hlj)
          have hsk1 := hide (hsk.out j hlj)
          have htn := hD32.out _ (List.getElem_mem hlj)
          have ht1 : (0 : Int) ≤ (D[j] : Int) := Int.natCast_nonneg _
          have ht2 : ((D[j] : Nat) : Int) < (H.length : Int) := by omega
          generalize D[j] = t at *
          by_cases htx : t = xb
          · have hnb : ((t : Int) != (xb : Int)) = false := by rw [htx]; simp
            have hE2 := hide (hsk1.out htx)
            clear hst1 hsk1 htx
            go_wp2_with fail
            go_region
            go_wp2
            go_roundw
            case rel => exact ⟨j + 1, by omega, by go_num, by rw [hE2.out]; exact hP4.drew, below_drew hb4, hsl.keep (Agree.drew _ _) (fun _ h => h)⟩
            case measure => simp [intOf]; omega
          · have hnb : ((t : Int) != (xb : Int)) = true := by simp; omega
            have hE2 := hide (hst1.out htx)
            clear hst1 hsk1 htx
            go_wp2_with fail
            go_region
            replace hP4 := hP4.drew
            replace hb4 := below_drew hb4
            replace hsl := hide (hsl.keep (Agree.drew _ _) (fun _ h => h))
            have z0' : Wo.drew.cell? ⟨bd, od + j, none⟩ = some (.int .i64 (t : Int)) := z0
            have y2' : Wo.drew.cell? ⟨b, off + k * 3 + 2, none⟩ = some (.int .i64 (xb : Int)) := y2
            clear z0 y2
            generalize Wo.drew = w9 at *
            obtain ⟨g, rfl, hX⟩ := hP4.at_ htn
            have hP5 := hide (hX.add (y := xb) htn hb2).drew
            have hb5 := hide (below_drew (hb4.setCell (p := ⟨g, t, none⟩) hX.B (.int .u64 (withB (setB ((orE (rwE H (l.take k)) (rdE (D.take j) xb)) t) H.length) (xb : Int) : Nat))))
            obtain ⟨-, c0, c1, d0, df, gp, gl, -, h64⟩ := hX
            clear hnb hP4 hb4
            generalize setB ((orE (rwE H (l.take k)) (rdE (D.take j) xb)) t) H.length = s at *
            go_upto_region 10 with fail
            refine wp_region_still_tail 21 (by kernel_rfl) (by kernel_rfl) ?_
            simp only [List.take_succ_cons, List.take_zero, List.drop_succ_cons, List.drop_zero]
            repeat still_step
            still_call ((rwith10_any _ h64 _ _).mono fun _ _ h => ⟨h.1, h.2.symm⟩)
            repeat still_step
            refine wpStill_nil ?_
            change wpList _ _ _ _ _ (w9).drew
            go_wp2
            go_roundw
            case rel => exact ⟨j + 1, by omega, by go_num, by rw [hE2.out]; exact hP5.out, hb5.out, hsl.out.keep ((Agree.setCell ⟨g, t, none⟩ (fun h => by have h1 := h.1; dsimp only at h1; omega) _).trans (Agree.drew _ _)) (fun _ h => h)⟩
            case measure => simp [intOf]; omega
        · obtain rfl : j = D.length := by omega
          rw [List.take_length] at hP4
          have hP5 := hide (hP4.congr (F := rwE H (l.take (k + 1))) fun x y hx _ => hend.out x y hx)
          go_wp2
          go_roundw
          case rel => exact ⟨k + 1, by omega, by go_num, hP5.out, hb4⟩
          case measure => simp [intOf]; omega
    · obtain rfl : k = l.length := by omega
      rw [List.take_length] at hPk
      have hP4 := hPk
      have hbr := hbk
      have c0 := hP4.c0
      have c1 := hP4.c1
      have k3r := k3.below hbr k3.lt
      have f0 := k3r.frozen 0
      have f1 := k3r.frozen 1
      have e0 := k3r.cell 0
      have e1 := k3r.cell 1
      have hs0 := s0.out
      have hs3 : w.heap.size + 1 < W0.heap.size := k3.lt
      have hR := hide (((hP4.rg.far (p := ⟨w.heap.size + 1, 0, none⟩) hs3 (.int .i64 H.length)).far (p := ⟨w.heap.size + 1, 1, none⟩) hs3 (.slice Av H.length cv)).base (B' := w.heap.size) (by omega))
      have hz := hide (((hb.trans (hbr.mono hb.size)).setCell (p := ⟨w.heap.size + 1, 0, none⟩) (by simp; try omega) (.int .i64 H.length)).setCell (p := ⟨w.heap.size + 1, 1, none⟩) (by simp; try omega) (.slice Av H.length cv))
      have hq := (k3r.set_ 0 (.int .i64 H.length)).set_ 1 (.slice Av H.length cv)
      simp only [List.setIfInBounds_toArray, List.set_cons_zero, List.set_cons_succ] at hq
      have y0 := hq.cell 0
      have y1 := hq.cell 1
      simp only [List.getElem?_toArray, List.getElem?_cons_zero, List.getElem?_cons_succ] at y0 y1 e0 e1
      clear hq hs0 hs3
      go_wp2_with fail
      exact bodyPost_ret (v := .agg #[.int .i64 H.length, .slice Av H.length cv]) (by simp [results, Tryz.results168, go_sem, y0, y1]) rfl ⟨_, rfl, hR.out, hz.out⟩
end Go.Proofs.YtfhnamomiaekdaaGreat
