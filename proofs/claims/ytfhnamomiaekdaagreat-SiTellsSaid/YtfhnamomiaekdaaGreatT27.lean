/-
  Walks: layer 17: edges laid into a graph.
-/
import Derived.Test.YtfhnamomiaekdaaGreatT26
import Derived.Test.YtfhnamomiaekdaaGreatT05
import Derived.Test.YtfhnamomiaekdaaGreatT25
import Derived.Test.YtfhnamomiaekdaaGreatT06
import Derived.Test.YtfhnamomiaekdaaGreatT07
set_option linter.unusedVariables false
set_option linter.unusedSimpArgs false
namespace Go.Proofs.YtfhnamomiaekdaaGreat
open Go.RowKit Go.Inq
set_option maxHeartbeats 4000000
attribute [local go_sem ↓] Go.wp_at_zero Go.wp_at_succ

/-- A graph with one edge more, if it is one. -/
def addE (E : Edges) (a b : Int) : Edges := if 0 ≤ a ∧ a ≠ b then orE E (oneE a.toNat b.toNat) else E
/-- What tells a graph alone. -/
def OutG1 (w : World) (n : Nat) (E : Edges) (e : Ending) (w' : World) : Prop :=
  ∃ g, w.heap.size ≤ g ∧ e = .returned (.agg #[.int .i64 n, .slice (some ⟨g, 0, none⟩) n n]) ∧ Blk w' g 246 (rowsB n E) ∧ Below w.heap.size w w'
theorem OutG1.congr {w w' : World} {n : Nat} {E F : Edges} {e : Ending} (h : OutG1 w n E e w') (hE : ∀ a b, a < n → b < n → E a b = F a b) : OutG1 w n F e w' := by
  unfold OutG1 at h ⊢
  rw [← rowsB_congr hE]; exact h
end Go.Proofs.YtfhnamomiaekdaaGreat

namespace Go.Proofs.YtfhnamomiaekdaaGreat
open Go.RowKit Go.Inq
set_option maxHeartbeats 4000000
attribute [local go_sem ↓] Go.wp_at_zero Go.wp_at_succ

end Go.Proofs.YtfhnamomiaekdaaGreat

namespace Go.Proofs.YtfhnamomiaekdaaGreat
open Go.RowKit Go.Inq
set_option maxHeartbeats 4000000
attribute [local go_sem ↓] Go.wp_at_zero Go.wp_at_succ

theorem wwE_step {l : List Cho} {k : Nat} (hk : k < l.length) {a b : Nat} (ha : l[k].a = a) (hb : l[k].b = b) : orE (wwE (l.take k)) (oneE a b) = wwE (l.take (k + 1)) := by
  funext x y
  unfold orE wwE oneE
  rw [take_snoc' hk, List.any_append]
  simp only [List.any_cons, List.any_nil, Bool.or_false, ha, hb]
  congr 1
  rw [Bool.eq_iff_iff]
  simp
  omega
theorem wwE_nil : wwE [] = noE := by funext x y; simp [wwE, noE]
/-- What of a choice may be. -/
theorem choice_nat {H : List Txn} {l : List Cho} (h : rightC H l = true) {x : Cho} (hx : x ∈ l) : ∃ a b : Nat, x.a = a ∧ x.b = b ∧ a < H.length ∧ b < H.length := by
  unfold rightC at h
  rw [Bool.and_eq_true, List.all_eq_true] at h
  obtain ⟨a, b, h1, h2, _, h3, h4, _⟩ := oneB_iff.1 (h.2 x hx)
  exact ⟨a, b, h1, h2, h3, h4⟩
theorem rightC_hist {H : List Txn} {l : List Cho} (h : rightC H l = true) : rightH H = true := by
  unfold rightC at h
  rw [Bool.and_eq_true, Bool.and_eq_true] at h
  exact h.1.1
theorem rightC_len {H : List Txn} {l : List Cho} (h : rightC H l = true) : l.length ≤ 20000 := by
  unfold rightC at h
  rw [Bool.and_eq_true, Bool.and_eq_true] at h
  exact of_decide_eq_true h.1.2
end Go.Proofs.YtfhnamomiaekdaaGreat

namespace Go.Proofs.YtfhnamomiaekdaaGreat
open Go.RowKit Go.Inq
set_option maxHeartbeats 8000000
attribute [local go_sem ↓] Go.wp_at_zero Go.wp_at_succ

set_option maxRecDepth 100000 in
theorem rww18_any (A : Option Addr) (c : Nat) (H : List Txn) (Al : Option Addr) (cl : Nat) (l : List Cho) (w : World) (h : TxnS w (Old w) (.slice A H.length c) H) (hl : ChoS w (Old w) (.slice Al l.length cl) l) (hr : rightC H l = true) :
    Calls Tryz.prog 167 #[.agg #[.slice A H.length c], .slice Al l.length cl] w (OutR w H.length (wwE l)) := by
  have hn64 : H.length ≤ 64 := by have := ((rightH_iff H).1 (rightC_hist hr)).1; omega
  have hll := rightC_len hr
  have hcn := hide (fun x hx => choice_nat hr (x := x) hx)
  clear hr
  go_enter Tryz.func167, Tryz.ntmps167
  go_upto_region 1 with fail
  obtain ⟨W0, hW0⟩ : ∃ W0, (w.alloc (.cells #[.slice A H.length c] 24)).alloc (.cells #[.int .i64 0, .slice none 0 0] 174) = W0 := ⟨_, rfl⟩
  rw [hW0]
  have hb := below_two hW0
  have k1 := Blk.two1 hW0
  have k3 := Blk.two2 hW0
  have s0 := size_two hW0
  have hT := hide (h.below hb)
  clear hW0 h
  have c0 := k1.cell 0
  simp only [List.getElem?_toArray, List.getElem?_cons_zero, List.getElem?_cons_succ] at c0
  replace s0 := hide s0
  go_wp2_with fail
  refine (rnew12_any H.length hn64 W0).mono ?_
  rintro e w1 ⟨v, rfl, hR, hb1⟩
  clear c0
  obtain ⟨Av, cv, rfl, -⟩ := hR.gr hn64 (K := fun _ => True) (fun _ _ _ => trivial)
  go_upto_region 2 with fail
  obtain ⟨W5, hW5⟩ : ∃ W5, w1.alloc (.cells #[.int .i64 (H.length : Int), .slice Av H.length cv] 174) = W5 := ⟨_, rfl⟩
  rw [hW5]
  have hP := RGP.start hR hn64 hW5
  have hs1 := hb1.size
  have hb5 := below_allocEq hb1 hW5 hs1
  clear hW5 hR hb1
  go_wp2_with fail
  have hl0 := hide (hl.below hb)
  clear hl
  go_loopw [6] (fun s6 wr => ∃ k : Nat, k ≤ l.length ∧ s6 = .int .i64 k ∧ RGP wr W0.heap.size w1.heap.size H.length (wwE (l.take k)) Av cv ∧ Below W0.heap.size W0 wr) (fun s6 _ => l.length - (intOf s6).toNat)
  case atStart => exact ⟨0, Nat.zero_le _, by go_num, by rw [List.take_zero, wwE_nil]; exact hP, hb5⟩
  case round =>
    obtain ⟨k, hk, rfl, hP4, hb4⟩ := hrel
    have hk1 : (0 : Int) ≤ (k : Int) := Int.natCast_nonneg _
    by_cases hlt : k < l.length
    · have hk2 : (k : Int) < (l.length : Int) := by omega
      obtain ⟨b, off, rfl, _, -, y1, y2⟩ := (hl0.out.below hb4).at_ hlt
      obtain ⟨xa, xb, ha, hb', ha2, hb2⟩ := hcn.out _ (List.getElem_mem hlt)
      have hE2 := hide (wwE_step hlt ha hb')
      rw [ha] at y1
      rw [hb'] at y2
      have ha3 : (xa : Int) < (H.length : Int) := by omega
      have ha4 : (0 : Int) ≤ (xa : Int) := Int.natCast_nonneg _
      clear ha hb'
      go_wp2_with fail
      obtain ⟨g, rfl, hX⟩ := hP4.at_ ha2
      have hP5 := hide (hX.add (y := xb) ha2 hb2).drew
      have hb5 := hide (below_drew (hb4.setCell (p := ⟨g, xa, none⟩) hX.B (.int .u64 (withB (setB ((wwE (l.take k)) xa) H.length) (xb : Int) : Nat))))
      obtain ⟨-, c0, c1, d0, df, gp, gl, -, h64⟩ := hX
      clear hP hP4 hb4
      generalize setB ((wwE (l.take k)) xa) H.length = s at *
      go_upto_region 5 with fail
      refine wp_region_still_tail 23 (by kernel_rfl) (by kernel_rfl) ?_
      simp only [List.take_succ_cons, List.take_zero, List.drop_succ_cons, List.drop_zero]
      repeat still_step
      still_call ((rwith10_any _ h64 _ _).mono fun _ _ h => ⟨h.1, h.2.symm⟩)
      repeat still_step
      refine wpStill_nil ?_
      change wpList _ _ _ _ _ (wr).drew
      go_wp2
      go_roundw
      case rel => exact ⟨k + 1, by omega, by go_num, by rw [← hE2.out]; exact hP5.out, hb5.out⟩
      case measure => simp [intOf]; omega
    · obtain rfl : k = l.length := by omega
      rw [List.take_length] at hP4
      have hbr := hb4
      have c0 := hP4.c0
      have c1 := hP4.c1
      have k3r := k3.below hbr k3.lt
      have f0 := k3r.frozen 0
      have f1 := k3r.frozen 1
      have e0 := k3r.cell 0
      have e1 := k3r.cell 1
      have hs0 := s0.out
      have hs3 : w.heap.size + 1 < W0.heap.size := k3.lt
      have hR := hide (((hP4.rg.far (p := ⟨w.heap.size + 1, 0, none⟩) hs3 (.int .i64 H.length)).far (p := ⟨w.heap.size + 1, 1, none⟩) hs3 (.slice Av H.length cv)).base (B' := w.heap.size) (by omega))
      have hz := hide (((hb.trans (hbr.mono hb.size)).setCell (p := ⟨w.heap.size + 1, 0, none⟩) (by simp; try omega) (.int .i64 H.length)).setCell (p := ⟨w.heap.size + 1, 1, none⟩) (by simp; try omega) (.slice Av H.length cv))
      have hq := (k3r.set_ 0 (.int .i64 H.length)).set_ 1 (.slice Av H.length cv)
      simp only [List.setIfInBounds_toArray, List.set_cons_zero, List.set_cons_succ] at hq
      have y0 := hq.cell 0
      have y1 := hq.cell 1
      simp only [List.getElem?_toArray, List.getElem?_cons_zero, List.getElem?_cons_succ] at y0 y1 e0 e1
      clear hq hs0 hs3
      go_wp2_with fail
      exact bodyPost_ret (v := .agg #[.int .i64 H.length, .slice Av H.length cv]) (by simp [results, Tryz.results167, go_sem, y0, y1]) rfl ⟨_, rfl, hR.out, hz.out⟩
end Go.Proofs.YtfhnamomiaekdaaGreat

namespace Go.Proofs.YtfhnamomiaekdaaGreat
open Go.RowKit Go.Inq
set_option maxHeartbeats 4000000
attribute [local go_sem ↓] Go.wp_at_zero Go.wp_at_succ

/-- As far as it is laid. -/
def soMid (H : List Txn) (b a : Nat) : Edges := fun x y => soE H x y && (decide (y < b) || (decide (y = b) && decide (x < a)))
theorem soMid_start (H : List Txn) (x y : Nat) : noE x y = soMid H 0 0 x y := by simp [noE, soMid]
theorem soMid_next (H : List Txn) (b x y : Nat) : soMid H b b x y = soMid H (b + 1) 0 x y := by
  unfold soMid soE
  rw [Bool.eq_iff_iff]
  simp
  omega
theorem soMid_all {H : List Txn} {n x y : Nat} (hy : y < n) : soMid H n 0 x y = soE H x y := by simp [soMid, hy]
theorem soMid_yes {H : List Txn} {b a : Nat} (hab : a < b) (hs : (txnAt H a).sess = (txnAt H b).sess) (x y : Nat) : addE (soMid H b a) (a : Int) (b : Int) x y = soMid H b (a + 1) x y := by
  unfold addE
  rw [if_pos ⟨by omega, by omega⟩]
  simp only [Int.toNat_natCast, orE, oneE, soMid]
  by_cases e1 : y = b
  · by_cases e2 : x = a
    · subst e1 e2; simp [soE, hab, hs]
    · have : decide (x < a + 1) = decide (x < a) := by simp; omega
      simp [e2, this]
  · simp [e1]
theorem soMid_no {H : List Txn} {b a : Nat} (hs : (txnAt H a).sess ≠ (txnAt H b).sess) (x y : Nat) : soMid H b a x y = soMid H b (a + 1) x y := by
  unfold soMid
  by_cases e1 : y = b
  · by_cases e2 : x = a
    · subst e1 e2; simp [soE, hs]
    · have : decide (x < a + 1) = decide (x < a) := by simp; omega
      simp [this]
  · simp [e1]
end Go.Proofs.YtfhnamomiaekdaaGreat

namespace Go.Proofs.YtfhnamomiaekdaaGreat
open Go.RowKit Go.Inq
set_option maxHeartbeats 4000000
attribute [local go_sem ↓] Go.wp_at_zero Go.wp_at_succ

/-- As far as it is laid. -/
def wrMid (H : List Txn) (b j : Nat) : Edges := fun x y => (decide (y < b) && wrE H x y) || (decide (y = b) && decide (x ≠ y) && ((txnAt H b).reads.take j).any fun r => decide (r.b = (x : Int)))
theorem wrMid_start (H : List Txn) (x y : Nat) : noE x y = wrMid H 0 0 x y := by simp [noE, wrMid]
theorem wrMid_next (H : List Txn) (b x y : Nat) : wrMid H b (txnAt H b).reads.length x y = wrMid H (b + 1) 0 x y := by
  unfold wrMid
  rw [List.take_length]
  by_cases e : y = b
  · subst e; simp [wrE]
  · have : decide (y < b + 1) = decide (y < b) := by simp; omega
    simp [e, this]
theorem wrMid_all {H : List Txn} {n x y : Nat} (hy : y < n) : wrMid H n 0 x y = wrE H x y := by simp [wrMid, hy]
theorem wrMid_step {H : List Txn} {b j : Nat} (hj : j < (txnAt H b).reads.length) (x y : Nat) : addE (wrMid H b j) (txnAt H b).reads[j].b (b : Int) x y = wrMid H b (j + 1) x y := by
  have ht : (txnAt H b).reads.take (j + 1) = (txnAt H b).reads.take j ++ [(txnAt H b).reads[j]] := take_snoc' hj
  unfold wrMid
  rw [ht]
  generalize (txnAt H b).reads[j] = r
  generalize (txnAt H b).reads.take j = l
  rw [List.any_append]
  simp only [List.any_cons, List.any_nil, Bool.or_false]
  unfold addE
  split
  · rename_i h
    simp only [orE, oneE, Int.toNat_natCast]
    by_cases e1 : y = b
    · subst e1
      by_cases e2 : x = r.b.toNat
      · have e3 : r.b = (x : Int) := by omega
        have e4 : x ≠ y := by omega
        rw [decide_eq_true e2, decide_eq_true e3, decide_eq_true e4]; simp
      · have e3 : ¬ r.b = (x : Int) := by omega
        simp [e2, e3]
    · simp [e1]
  · rename_i h
    by_cases e1 : y = b
    · subst e1
      by_cases e2 : x = y
      · simp [e2]
      · have e3 : ¬ r.b = (x : Int) := fun e => h ⟨by omega, by omega⟩
        simp [e2, e3]
    · simp [e1]
theorem reads_from {H : List Txn} (hr : rightH H = true) {b : Nat} (hb : b < H.length) : ∀ r ∈ (txnAt H b).reads, r.b < (H.length : Int) := by
  rw [txnAt_of hb]
  intro r h
  rcases (thereB_iff _ _ _).1 ((((rightH_iff H).1 hr).2 b hb).there r h) with e | ⟨k, hk, e, _, _⟩ <;> omega
end Go.Proofs.YtfhnamomiaekdaaGreat

namespace Go.Proofs.YtfhnamomiaekdaaGreat
open Go.RowKit Go.Inq
set_option maxHeartbeats 4000000
attribute [local go_sem ↓] Go.wp_at_zero Go.wp_at_succ

/-- Some edges, but none that leads from a node to itself. -/
def neL (l : List (Nat × Nat)) : Edges := fun x y => decide (x ≠ y) && l.contains (x, y)
theorem neL_nil (x y : Nat) : noE x y = neL [] x y := by simp [noE, neL]
theorem neL_step (l : List (Nat × Nat)) (a b x y : Nat) : addE (neL l) (a : Int) (b : Int) x y = neL (l ++ [(a, b)]) x y := by
  unfold addE
  have hc : (l ++ [(a, b)]).contains (x, y) = (l.contains (x, y) || (decide (x = a) && decide (y = b))) := by
    rw [Bool.eq_iff_iff]; simp
  split
  · rename_i h
    simp only [orE, oneE, neL, Int.toNat_natCast, hc]
    by_cases e1 : x = a
    · by_cases e2 : y = b
      · have : x ≠ y := by omega
        simp [e1, e2, this]
        omega
      · simp [e2]
    · simp [e1]
  · rename_i h
    simp only [neL, hc]
    have hab : a = b := by omega
    by_cases e1 : x = a
    · by_cases e2 : y = b
      · have : x = y := by omega
        simp [this]
      · simp [e2]
    · simp [e1]
def iniR (wr : List Nat) (rd : List Nat) : List (Nat × Nat) := (rd.map fun a => wr.map fun b => (a, b)).flatten
def iniK (H : List Txn) (key : Int) : List (Nat × Nat) := iniR (wrsL H key) (rdsL H key (-1))
def iniTo (H : List Txn) (k : Nat) : List (Nat × Nat) := (((keysL H).take k).map (iniK H)).flatten
theorem iniTo_step {H : List Txn} {k : Nat} (h : k < (keysL H).length) : iniTo H (k + 1) = iniTo H k ++ iniK H (keysL H)[k] := by
  unfold iniTo
  rw [List.take_succ_eq_append_getElem h, List.map_append, List.flatten_append]; simp
theorem iniR_step (wr : List Nat) {rd : List Nat} {i : Nat} (h : i < rd.length) : iniR wr (rd.take (i + 1)) = iniR wr (rd.take i) ++ wr.map fun b => (rd[i], b) := by
  unfold iniR
  rw [List.take_succ_eq_append_getElem h, List.map_append, List.flatten_append]; simp
theorem iniR_mem {wr rd : List Nat} {a b : Nat} : (a, b) ∈ iniR wr rd ↔ a ∈ rd ∧ b ∈ wr := by
  unfold iniR
  rw [List.mem_flatten]
  constructor
  · rintro ⟨l, hl, h⟩
    obtain ⟨x, hx, rfl⟩ := List.mem_map.1 hl
    obtain ⟨y, hy, e⟩ := List.mem_map.1 h
    injection e with e1 e2
    subst e1 e2
    exact ⟨hx, hy⟩
  · rintro ⟨ha, hb⟩
    exact ⟨_, List.mem_map.2 ⟨a, ha, rfl⟩, List.mem_map.2 ⟨b, hb, rfl⟩⟩
theorem iniTo_all {H : List Txn} {x y : Nat} (hx : x < H.length) (hy : y < H.length) : neL (iniTo H (keysL H).length) x y = initE H x y := by
  unfold neL iniTo
  rw [List.take_length, Bool.eq_iff_iff, initE_iff hx hy, Bool.and_eq_true, decide_eq_true_iff, List.contains_iff_mem, List.mem_flatten]
  constructor
  · rintro ⟨h1, l, hl, h⟩
    obtain ⟨k, hk, rfl⟩ := List.mem_map.1 hl
    obtain ⟨h2, h3⟩ := iniR_mem.1 h
    exact ⟨h1, k, hk, h2, h3⟩
  · rintro ⟨h1, k, hk, h2, h3⟩
    exact ⟨h1, _, List.mem_map.2 ⟨k, hk, rfl⟩, iniR_mem.2 ⟨h2, h3⟩⟩
theorem rdsL_len {H : List Txn} (hn : SmallH H) (hr : rightH H = true) (key src : Int) : (rdsL H key src).length ≤ 32000000 := by
  rw [← selR_all]
  unfold selR
  rw [List.length_map]
  exact Nat.le_trans (List.length_filter_le _ _) (readsL_len hn hr)
end Go.Proofs.YtfhnamomiaekdaaGreat
