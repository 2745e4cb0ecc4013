/-
  Walks: layer 12's reference: graphs.
-/
import Derived.Test.YtfodlklpfffaaaaGreatDoorC03
import Derived.Test.YtfodlklpfffaaaaGreatDoorC02
import Derived.Test.YtfodlklpfffaaaaGreatDoorC10
set_option linter.unusedVariables false
set_option linter.unusedSimpArgs false
namespace Go.Proofs.YtfodlklpfffaaaaGreatDoor
open Go.RowKit Go.Inq
set_option maxHeartbeats 4000000
attribute [local go_sem ↓] Go.wp_at_zero Go.wp_at_succ

/-- A row of sets that grows. -/
def OwnU (w : World) (base : Nat) (v : Value) (l : List Nat) : Prop := w.ownsRow base 101 1 v l.length (l.map encU).flatten
theorem encU_one12 (x : Nat) : ∀ u ∈ encU x, u.oneCell' = true := by intro u hu; simp [encU] at hu; subst hu; rfl
theorem OwnU.form {w : World} {base : Nat} {v : Value} {l : List Nat} (h : OwnU w base v l) : ∃ A c, v = .slice A l.length c := own_slice h
/-- A reference's graph: rows of the call's own, with room perhaps. -/
def RG (W : World) (base n : Nat) (E : Edges) (v : Value) : Prop :=
  (n = 0 ∧ v = .slice none 0 0) ∨ ∃ g cap cur, v = .slice (some ⟨g, 0, none⟩) n cap ∧ base ≤ g ∧ Blk W g 101 cur ∧ n ≤ cap ∧ cap ≤ maxLen ∧ cur.size = cap ∧ ∀ i, i < n → cur[i]? = some (.int .u64 (setB (E i) n : Nat))
theorem RG.of_own {W : World} {base n : Nat} {E : Edges} {v : Value} (h : OwnU W base v (rowsG n E)) : RG W base n E v := by
  obtain ⟨h1, h2⟩ := h
  rw [rowsG_length] at h2
  rcases h2 with ⟨h3, h4⟩ | ⟨g, cap, cur, h3, h4, h5, h6, h7, h8, h9⟩
  · exact .inl ⟨h4, h3⟩
  · refine .inr ⟨g, cap, cur, h3, h4, h5, h6, h7, by rw [h8]; simp, fun i hi => ?_⟩
    have h10 : (cur.toList.take (n * 1))[i]? = some (.int .u64 (setB (E i) n : Nat)) := by
      rw [h9]
      have : ∀ l : List Nat, (l.map encU).flatten = l.map fun x : Nat => Value.int .u64 x := fun l => by
        induction l with
        | nil => rfl
        | cons a l ih => simp [encU] at ih ⊢; exact ih
      rw [this, List.getElem?_map, List.getElem?_eq_getElem (by rw [rowsG_length]; exact hi), rowsG_at hi]
      rfl
    rw [List.getElem?_take] at h10
    split at h10
    · simpa using h10
    · cases h10
theorem rowsG_no (n : Nat) : rowsG n noE = List.replicate n 0 := by
  unfold rowsG
  rw [List.eq_replicate_iff]
  refine ⟨by simp, fun x hx => ?_⟩
  obtain ⟨a, _, rfl⟩ := List.mem_map.1 hx
  refine Nat.eq_of_testBit_eq fun j => ?_
  rw [testBit_setB]
  simp [noE]
/-- What New tells: a graph with no edge, in memory of its own. -/
def OutR (w : World) (n : Nat) (E : Edges) (e : Ending) (w' : World) : Prop := ∃ v, e = .returned (.agg #[.int .i64 n, v]) ∧ RG w' w.heap.size n E v ∧ Below w.heap.size w w'
set_option maxRecDepth 100000 in
theorem rnew12_any (n : Nat) (hn : n ≤ 64) (w : World) : Calls Tryz.prog 98 #[.int .i64 (n : Int)] w (OutR w n noE) := by
  obtain ⟨iu, hiu, hi1, hi2, hi3⟩ := info_parts infoU12
  go_enter Tryz.func98, Tryz.ntmps98
  go_upto_region 2 with fail
  obtain ⟨W0, hW0⟩ : ∃ W0, (w.alloc (.cells #[.int .i64 0, .slice none 0 0] 74)).alloc (.cells #[.int .i64 n, .slice none 0 0] 74) = W0 := ⟨_, rfl⟩
  have hb := below_two hW0
  have k1 := Blk.two1 hW0
  have k2 := Blk.two2 hW0
  have s0 := size_two hW0
  rw [hW0]
  clear hW0
  replace s0 := hide s0
  go_wp2_with fail
  go_loopw [4] (fun s4 wr => ∃ k : Nat, k ≤ n ∧ s4 = .int .i64 k ∧ ∃ v, Blk wr w.heap.size 74 #[.int .i64 0, .slice none 0 0] ∧ Blk wr (w.heap.size + 1) 74 #[.int .i64 n, v] ∧ OwnU wr (w.heap.size + 2) v (List.replicate k 0) ∧ Below w.heap.size w wr) (fun s4 _ => n - (intOf s4).toNat)
  case atStart => exact ⟨0, Nat.zero_le _, by go_num, _, k1, k2, World.ownsRow_nil _ _ _ _, hb⟩
  case round =>
    obtain ⟨k, hk, rfl, v, m1, m2, hown, hbr⟩ := hrel
    obtain ⟨Wr, rfl⟩ : ∃ Wr, Wr = wr := ⟨_, rfl⟩
    have hk1 : (0 : Int) ≤ (k : Int) := Int.natCast_nonneg _
    obtain ⟨A, c, rfl⟩ := OwnU.form hown
    have c0 := m2.cell 0
    have c1 := m2.cell 1
    have f1 := m2.frozen 1
    have m2l := m2.lt
    simp only [List.getElem?_toArray, List.getElem?_cons_zero, List.getElem?_cons_succ] at c0 c1
    by_cases hlt : k < n
    · have hki : (k : Int) < (n : Int) := by omega
      have hll : (List.replicate k 0).length = k := List.length_replicate
      have hkD : (List.replicate k (0 : Nat)).length + 1 ≤ maxLen := by unfold maxLen; simp; omega
      have hkb : ((List.replicate k (0 : Nat)).length + 1) * 8 ≤ 140737488355328 := by simp; omega
      have hsn : Hid (List.replicate k (0 : Nat) ++ [0] = List.replicate (k + 1) 0) := hide (by rw [List.replicate_succ'])
      clear hll
      generalize List.replicate k (0 : Nat) = D at *
      have hsz : w.heap.size + 2 ≤ Wr.heap.size := by omega
      have hfar : ∀ g, (Value.slice A D.length c).ownBlock = some g → w.heap.size + 2 ≤ g := fun g hg => (hown.lt g hg).1
      replace hown := hide hown
      replace hfar := hide hfar
      go_upto_region 5 with fail
      go_wp2_with (at_builtin; go_loud (refine wpList_push (enc := encU) rfl (.tmp 13) (.tmp 14) 61 rfl (w.heap.size + 2) 101 iu _ 1 8 Tryz.underlying61 hiu hi1 hi2 hi3 rfl (by decide) (.slice A D.length c) D rfl hown.out (fun _ => rfl) 0 _ rfl rfl encU_one12 hkD hkb hsz w w.heap.size (by omega) hbr ?_); intro v1 w6 hown1 hg1 hb1 hat1; have j1 := (m1.alloc (.cells #[.int .u64 0] 101)).grown hg1 (fun e => by have := hfar.out _ e.symm; omega); have j2 := (m2.alloc (.cells #[.int .u64 0] 101)).grown hg1 (fun e => by have := hfar.out _ e.symm; omega); have d1 := j2.cell 1; have g1 := j2.frozen 1; simp only [List.getElem?_toArray, List.getElem?_cons_zero, List.getElem?_cons_succ] at d1; obtain ⟨A6, c6, rfl⟩ := OwnU.form hown1)
      go_roundw
      case rel =>
        refine ⟨k + 1, by omega, by go_num, .slice A6 (D ++ [0]).length c6, j1.far (p := ⟨w.heap.size + 1, 1, none⟩) (show w.heap.size ≠ w.heap.size + 1 by omega) _, ?_, ?_, hb1.setCell (p := ⟨w.heap.size + 1, 1, none⟩) (by simp) _⟩
        · have := j2.set_ 1 (.slice A6 (D ++ [0]).length c6)
          simpa using this
        · rw [← hsn.out]
          exact own_setCell hown1 (p := ⟨w.heap.size + 1, 1, none⟩) (fun e => by have h := (World.ownsRow.lt hown1 (w.heap.size + 1) e).1; omega) _
      case measure => simp [intOf]; omega
    · obtain rfl : k = n := by omega
      have d0 := m1.cell 0
      have d1 := m1.cell 1
      have g0 := m1.frozen 0
      have g1 := m1.frozen 1
      simp only [List.getElem?_toArray, List.getElem?_cons_zero, List.getElem?_cons_succ] at d0 d1
      rw [List.length_replicate] at hown
      have hlr : (List.replicate k (0 : Nat)).length = k := List.length_replicate
      have hq := (m1.set_ 0 (.int .i64 k)).set_ 1 (.slice A k c)
      simp only [List.setIfInBounds_toArray, List.set_cons_zero, List.set_cons_succ] at hq
      have y0 := hq.cell 0
      have y1 := hq.cell 1
      simp only [List.getElem?_toArray, List.getElem?_cons_zero, List.getElem?_cons_succ] at y0 y1
      have hO : Hid (OwnU Wr (w.heap.size + 2) (.slice A k c) (rowsG k noE)) := hide (by rw [rowsG_no]; exact hown)
      replace hlr := hide hlr
      go_wp2_with fail
      refine bodyPost_ret (v := .agg #[.int .i64 k, .slice A k c]) (by simp [results, Tryz.results98, go_sem, y0, y1]) rfl ⟨_, rfl, RG.of_own ?_, (hbr.setCell (p := ⟨w.heap.size, 0, none⟩) (by simp) _).setCell (p := ⟨w.heap.size, 1, none⟩) (by simp) _⟩
      have h1 := own_setCell (own_setCell hO.out (p := ⟨w.heap.size, 0, none⟩) (fun e => by have h := (hO.out.lt _ e).1; dsimp only at h; omega) (.int .i64 k)) (p := ⟨w.heap.size, 1, none⟩) (fun e => by have h := (hO.out.lt _ e).1; dsimp only at h; omega) (.slice A k c)
      exact own_base' h1 (by omega)
theorem hasB_setB {p : Nat → Bool} {n b : Nat} (hb : b < n) : hasB (setB p n) (b : Int) = p b := by
  rw [hasB_nat, testBit_setB]; simp [hb]
theorem RG.gr {W : World} {base n : Nat} {E : Edges} {v : Value} (h : RG W base n E v) (hn : n ≤ 64) {K : Nat → Prop} (hK : ∀ g, base ≤ g → g < W.heap.size → K g) : ∃ A c, v = .slice A n c ∧ GrS W K n A c E := by
  rcases h with ⟨h1, rfl⟩ | ⟨g, cap, cur, rfl, h2, h3, h4, h5, h6, h7⟩
  · subst h1
    exact ⟨none, 0, rfl, GrS.zero _ _ _ _ _⟩
  · refine ⟨_, cap, rfl, ⟨?_, hn⟩⟩
    refine ⟨some ⟨g, 0, none⟩, cap, (rowsG n E).map encU, by rw [rowsG_length], by rw [rowsG_length]; exact h4, by simp, fun i cs x g1 g2 => ?_, fun _ => ⟨g, 0, rfl, hK g h2 h3.lt, fun i j cs u g1 g2 => ?_⟩⟩
    · rw [List.getElem?_map, g2] at g1
      injection g1 with g1
      exact ⟨by rw [← g1]; rfl, g1.symm⟩
    · rw [List.getElem?_map] at g1
      cases hx : (rowsG n E)[i]? with
      | none => rw [hx] at g1; cases g1
      | some x =>
        rw [hx] at g1
        injection g1 with g1
        subst g1
        obtain ⟨hi, he⟩ := List.getElem?_eq_some_iff.1 hx
        have hi' : i < n := by rw [rowsG_length] at hi; exact hi
        rw [rowsG_at hi'] at he
        cases j with
        | succ j => simp [encU] at g2
        | zero =>
          simp [encU] at g2
          subst g2
          have := (h3.cell i).trans (h7 i hi')
          rw [he] at this
          simpa using this
/-- One more edge, by a store. -/
theorem RG.add {W : World} {base n : Nat} {E : Edges} {g cap : Nat} (h : RG W base n E (.slice (some ⟨g, 0, none⟩) n cap)) {x y : Nat} (hx : x < n) (hy : y < n) (hn : n ≤ 64) :
    RG (W.setCell ⟨g, x, none⟩ (.int .u64 (withB (setB (E x) n) (y : Int) : Nat))) base n (orE E (oneE x y)) (.slice (some ⟨g, 0, none⟩) n cap) := by
  rcases h with ⟨h1, h2⟩ | ⟨g', cap', cur, h1, h2, h3, h4, h5, h6, h7⟩
  · cases h2
  · simp only [Value.slice.injEq, Option.some.injEq, Addr.mk.injEq, and_true, true_and] at h1
    obtain ⟨rfl, rfl⟩ := h1
    refine .inr ⟨g, cap, _, rfl, h2, h3.set_ x _, h4, h5, by simp [h6], fun i hi => ?_⟩
    rw [setB_with hy hn]
    by_cases e : i = x
    · subst e
      rw [Array.getElem?_setIfInBounds_self_of_lt (by omega)]
      congr 3
      refine setB_congr fun b hb => ?_
      simp [orE, oneE]
    · rw [Array.getElem?_setIfInBounds_ne (by omega), h7 i hi]
      congr 3
      refine setB_congr fun b hb => ?_
      simp [orE, oneE, e]
set_option maxRecDepth 100000 in
theorem rhas12_any (n : Nat) (A : Option Addr) (c : Nat) (E : Edges) (a b : Nat) (K : Nat → Prop) (w : World) (h : GrS w K n A c E) (hK : ∀ b, K b → b < w.heap.size) (ha : a < n) (hb : b < n) :
    Calls Tryz.prog 59 #[.agg #[.int .i64 n, .slice A n c], .int .i64 (a : Int), .int .i64 (b : Int)] w fun e w' => e = .returned (.bool (E a b)) ∧ Below w.heap.size w w' := by
  have hn64 := h.n64
  obtain ⟨g, off, rfl, hg, hc⟩ := h.at_ ha
  have hgl := hK _ hg
  have hB : Below w.heap.size w (w.alloc (.cells #[.int .i64 n, .slice (some ⟨g, off, none⟩) n c] 74)) := (Below.refl _ _).alloc (Nat.le_refl _) _
  have hc2 := (hB.cell (p := ⟨g, off + a, none⟩) hgl).trans hc
  have hai : (a : Int) < (n : Int) := by omega
  have ha0 : (0 : Int) ≤ (a : Int) := Int.natCast_nonneg _
  have hr := hide (hasB_setB (p := E a) hb)
  have hs := setB_64 (p := E a) hn64
  generalize setB (E a) n = x at *
  clear h
  replace hB := hide hB
  go_enter Tryz.func59, Tryz.ntmps59
  go_wp2_with fail
  refine (rhas10_any x hs (b : Int) _).mono ?_
  rw [hr.out]
  rintro e w1 ⟨rfl, rfl⟩
  go_wp2
  go_ret
  exact ⟨rfl, hB.out⟩
end Go.Proofs.YtfodlklpfffaaaaGreatDoor

namespace Go.Proofs.YtfodlklpfffaaaaGreatDoor
open Go.RowKit Go.Inq
set_option maxHeartbeats 4000000
attribute [local go_sem ↓] Go.wp_at_zero Go.wp_at_succ

theorem hasB_beyond {p : Nat → Bool} {n b : Nat} (hb : n ≤ b) : hasB (setB p n) (b : Int) = false := by
  rw [hasB_nat, testBit_setB]; simp; omega
set_option maxRecDepth 100000 in
theorem rright12_any (n : Nat) (A : Option Addr) (c : Nat) (E : Edges) (K : Nat → Prop) (w : World) (h : GrS w K n A c E) (hK : ∀ b, K b → b < w.heap.size) :
    Calls Tryz.prog 63 #[.agg #[.int .i64 n, .slice A n c]] w fun e w' => e = .returned (.bool true) ∧ Below w.heap.size w w' := by
  have hn64 := h.n64
  have hB : Below w.heap.size w (w.alloc (.cells #[.int .i64 n, .slice A n c] 74)) := (Below.refl _ _).alloc (Nat.le_refl _) _
  have kG := Blk.new w 74 #[.int .i64 n, .slice A n c]
  have hg := hide (h.keep (Agree.below hB hK) (fun b hb => hb))
  have h0 : decide ((n : Int) < 0) = false := by simp
  have h1 : decide ((n : Int) > 64) = false := by simp; omega
  clear h
  go_enter Tryz.func63, Tryz.ntmps63
  go_upto_region 1 with fail
  generalize w.alloc (.cells #[.int .i64 n, .slice A n c] 74) = W at *
  have c0 := kG.cell 0
  have c1 := kG.cell 1
  simp only [List.getElem?_toArray, List.getElem?_cons_zero, List.getElem?_cons_succ] at c0 c1
  replace hB := hide hB
  clear kG
  go_wp2_with fail
  go_loop [3] (fun s3 => ∃ i : Nat, i ≤ n ∧ s3 = .int .i64 i) (fun s3 => n - (intOf s3).toNat)
  case atStart => exact ⟨0, Nat.zero_le _, by go_num⟩
  case round =>
    obtain ⟨i, hi, rfl⟩ := hrel
    have hi1 : (0 : Int) ≤ (i : Int) := Int.natCast_nonneg _
    by_cases hlt : i < n
    · have hi2 : (i : Int) < (n : Int) := by omega
      obtain ⟨g, off, rfl, hgk, hc⟩ := hg.out.at_ hlt
      have hs := setB_64 (p := E i) hn64
      have hbe := hide (fun b hb => hasB_beyond (p := E i) (n := n) (b := b) hb)
      generalize setB (E i) n = x at *
      go_wp2_with fail
      go_loop [4] (fun s4 => ∃ k : Nat, n ≤ k ∧ k ≤ 64 ∧ s4 = .int .i64 k) (fun s4 => 64 - (intOf s4).toNat)
      case atStart => exact ⟨n, Nat.le_refl _, hn64, rfl⟩
      case round =>
        obtain ⟨k, hk, hk64, rfl⟩ := hrel
        have hk1 : (0 : Int) ≤ (k : Int) := Int.natCast_nonneg _
        by_cases hkl : k < 64
        · have hk2 : decide ((k : Int) < 64) = true := by simp; omega
          have hf := hide (hbe.out k hk)
          go_wp2_with fail
          refine (rhas10_any x hs (k : Int) _).mono ?_
          rw [hf.out]
          rintro e w1 ⟨rfl, rfl⟩
          go_wp2
          go_round
          case rel => exact ⟨k + 1, by omega, by omega, by go_num⟩
          case measure => simp [intOf]; omega
        · have hk2 : decide ((k : Int) < 64) = false := by simp; omega
          go_wp2
          go_round
          case rel => exact ⟨i + 1, by omega, by go_num⟩
          case measure => simp [intOf]; omega
    · obtain rfl : i = n := by omega
      go_wp2
      go_ret
      exact ⟨rfl, hB.out⟩
end Go.Proofs.YtfodlklpfffaaaaGreatDoor

namespace Go.Proofs.YtfodlklpfffaaaaGreatDoor
open Go.RowKit Go.Inq

theorem below_drew {B : Nat} {w w1 : World} (h : Below B w w1) : Below B w w1.drew := h.trans ⟨rfl, rfl, rfl, Nat.le_refl _, fun _ _ => rfl⟩
theorem RG.keep {W W' : World} {B n : Nat} {E : Edges} {v : Value} (h : RG W B n E v) (hk : ∀ g, B ≤ g → g < W.heap.size → W'.heap[g]? = W.heap[g]?) : RG W' B n E v := by
  rcases h with h | ⟨g, cap, cur, h1, h2, h3, r⟩
  · exact .inl h
  · exact .inr ⟨g, cap, cur, h1, h2, (hk g h2 h3.lt).trans h3, r⟩
theorem RG.below {W W' : World} {B B' n : Nat} {E : Edges} {v : Value} (h : RG W B n E v) (hb : Below B' W W') (hB : W.heap.size ≤ B') : RG W' B n E v := h.keep fun g _ hg => hb.block g (by omega)
theorem RG.alloc {W : World} {B n : Nat} {E : Edges} {v : Value} (h : RG W B n E v) (o : Obj) : RG (W.alloc o) B n E v := h.keep fun g _ hg => Below.heap_alloc W o g hg
theorem RG.far {W : World} {B n : Nat} {E : Edges} {v : Value} (h : RG W B n E v) {p : Addr} (hp : p.block < B) (u : Value) : RG (W.setCell p u) B n E v := h.keep fun g hg _ => Below.heap_setCell W p u g (by omega)
theorem RG.drew {W : World} {B n : Nat} {E : Edges} {v : Value} (h : RG W B n E v) : RG W.drew B n E v := h.keep fun _ _ _ => rfl
theorem RG.base {W : World} {B B' n : Nat} {E : Edges} {v : Value} (h : RG W B n E v) (hB : B' ≤ B) : RG W B' n E v := by
  rcases h with h | ⟨g, cap, cur, h1, h2, r⟩
  · exact .inl h
  · exact .inr ⟨g, cap, cur, h1, by omega, r⟩
theorem RG.congr {W : World} {base n : Nat} {E F : Edges} {v : Value} (h : RG W base n E v) (hE : ∀ a b, a < n → b < n → E a b = F a b) : RG W base n F v := by
  rcases h with h | ⟨g, cap, cur, h1, h2, h3, h4, h5, h6, h7⟩
  · exact .inl h
  · exact .inr ⟨g, cap, cur, h1, h2, h3, h4, h5, h6, fun i hi => by rw [h7 i hi]; congr 3; exact setB_congr fun b hb => hE i b hi hb⟩

/-- A variable p that holds a graph: its rows are the call's own, from B on, and made ahead of p. -/
structure RGP (W : World) (B p n : Nat) (E : Edges) (A : Option Addr) (c : Nat) : Prop where
  box : Blk W p 74 #[.int .i64 n, .slice A n c]
  rg : RG W B n E (.slice A n c)
  lt : ∀ g, A = some g → g.block < p
  n64 : n ≤ 64
section
variable {W W' : World} {B p n : Nat} {E F : Edges} {A : Option Addr} {c : Nat}
theorem RGP.plt (h : RGP W B p n E A c) : p < W.heap.size := h.box.lt
theorem RGP.c0 (h : RGP W B p n E A c) : W.cell? ⟨p, 0, none⟩ = some (.int .i64 n) := by simpa using h.box.cell 0
theorem RGP.c1 (h : RGP W B p n E A c) : W.cell? ⟨p, 1, none⟩ = some (.slice A n c) := by simpa using h.box.cell 1
theorem RGP.below (h : RGP W B p n E A c) {B' : Nat} (hb : Below B' W W') (hB : W.heap.size ≤ B') : RGP W' B p n E A c :=
  ⟨h.box.below hb (Nat.lt_of_lt_of_le h.plt hB), h.rg.below hb hB, h.lt, h.n64⟩
theorem RGP.alloc (h : RGP W B p n E A c) (o : Obj) : RGP (W.alloc o) B p n E A c := ⟨h.box.alloc o, h.rg.alloc o, h.lt, h.n64⟩
theorem RGP.drew (h : RGP W B p n E A c) : RGP W.drew B p n E A c := ⟨h.box.drew, h.rg.drew, h.lt, h.n64⟩
theorem RGP.drewN (h : RGP W B p n E A c) (k : Nat) : RGP (W.drewN k) B p n E A c := ⟨h.box.drewN k, h.rg.keep fun _ _ _ => rfl, h.lt, h.n64⟩
theorem RGP.congr (h : RGP W B p n E A c) (hE : ∀ a b, a < n → b < n → E a b = F a b) : RGP W B p n F A c := ⟨h.box, h.rg.congr hE, h.lt, h.n64⟩
/-- Rows, of a graph with nodes. -/
structure RGX (W : World) (B p n x : Nat) (E : Edges) (g c : Nat) : Prop where
  box : RGP W B p n E (some ⟨g, 0, none⟩) c
  c0 : W.cell? ⟨p, 0, none⟩ = some (.int .i64 n)
  c1 : W.cell? ⟨p, 1, none⟩ = some (.slice (some ⟨g, 0, none⟩) n c)
  at_ : W.cell? ⟨g, x, none⟩ = some (.int .u64 (setB (E x) n : Nat))
  fr : W.frozen? ⟨g, x, none⟩ = false
  gp : g < p
  gl : g < W.heap.size
  B : B ≤ g
  h64 : setB (E x) n < 18446744073709551616
theorem RGP.at_ (h : RGP W B p n E A c) {x : Nat} (hx : x < n) : ∃ g, A = some ⟨g, 0, none⟩ ∧ RGX W B p n x E g c := by
  rcases h.rg with ⟨h1, _⟩ | ⟨g, cap, cur, h1, h2, h3, h4, h5, h6, h7⟩
  · omega
  · simp only [Value.slice.injEq, true_and] at h1
    obtain ⟨rfl, rfl⟩ := h1
    exact ⟨g, rfl, h, h.c0, h.c1, (h3.cell x).trans (h7 x hx), h3.frozen x, h.lt _ rfl, h3.lt, h2, setB_64 h.n64⟩
theorem RGX.add {x : Nat} {g : Nat} (h : RGX W B p n x E g c) {y : Nat} (hx : x < n) (hy : y < n) :
    RGP (W.setCell ⟨g, x, none⟩ (.int .u64 (withB (setB (E x) n) (y : Int) : Nat))) B p n (orE E (oneE x y)) (some ⟨g, 0, none⟩) c :=
  ⟨h.box.box.far (p := ⟨g, x, none⟩) (Nat.ne_of_gt h.gp) _, h.box.rg.add hx hy h.box.n64, h.box.lt, h.box.n64⟩
end
/-- The edges of rows ahead of x, and of row x ahead of y. -/
def uptoE (E : Edges) (x y : Nat) : Edges := fun a b => E a b && (decide (a < x) || (decide (a = x) && decide (b < y)))
theorem uptoE_zero (E : Edges) : uptoE E 0 0 = noE := by
  funext a b; simp [uptoE, noE]
theorem uptoE_step {E : Edges} {x y : Nat} (h : E x y = true) : uptoE E x (y + 1) = orE (uptoE E x y) (oneE x y) := by
  funext a b
  unfold uptoE orE oneE
  rw [Bool.eq_iff_iff]
  simp
  constructor
  · rintro ⟨h1, h2 | ⟨h2, h3⟩⟩
    · exact .inl ⟨h1, .inl h2⟩
    · rcases Nat.lt_or_ge b y with g | g
      · exact .inl ⟨h1, .inr ⟨h2, g⟩⟩
      · exact .inr ⟨h2, by omega⟩
  · rintro (⟨h1, h2 | ⟨h2, h3⟩⟩ | ⟨rfl, rfl⟩)
    · exact ⟨h1, .inl h2⟩
    · exact ⟨h1, .inr ⟨h2, by omega⟩⟩
    · exact ⟨h, .inr ⟨rfl, by omega⟩⟩
theorem uptoE_skip {E : Edges} {x y : Nat} (h : E x y = false) : uptoE E x (y + 1) = uptoE E x y := by
  funext a b
  unfold uptoE
  rw [Bool.eq_iff_iff]
  simp
  intro h1
  constructor
  · rintro (h2 | ⟨rfl, h3⟩)
    · exact .inl h2
    · rcases Nat.lt_or_ge b y with g | g
      · exact .inr ⟨rfl, g⟩
      · obtain rfl : b = y := by omega
        rw [h] at h1; cases h1
  · rintro (h2 | ⟨rfl, h3⟩)
    · exact .inl h2
    · exact .inr ⟨rfl, by omega⟩
theorem uptoE_row {E : Edges} {x n a b : Nat} (hb : b < n) : uptoE E x n a b = uptoE E (x + 1) 0 a b := by
  unfold uptoE
  rw [Bool.eq_iff_iff]
  simp
  intro _
  omega
theorem uptoE_all {E : Edges} {n a b : Nat} (ha : a < n) : uptoE E n 0 a b = E a b := by
  unfold uptoE; simp [ha]
end Go.Proofs.YtfodlklpfffaaaaGreatDoor

namespace Go.Proofs.YtfodlklpfffaaaaGreatDoor
open Go.RowKit Go.Inq
set_option maxHeartbeats 4000000
attribute [local go_sem ↓] Go.wp_at_zero Go.wp_at_succ

theorem right_no {H : List Txn} {n : Nat} (h : n < H.length) (hb : (txF H n).all id = false) : rightH H = false := by
  rw [← Bool.not_eq_true, rightH_iff]
  rintro ⟨_, g⟩
  rw [(txF_iff h).2 (g n h)] at hb
  cases hb
theorem right_many {H : List Txn} (h : 32 < H.length) : rightH H = false := by
  rw [← Bool.not_eq_true, rightH_iff]
  rintro ⟨g, _⟩
  omega
theorem right_yes {H : List Txn} (h : ¬ 32 < H.length) (hall : ∀ n, n < H.length → (txF H n).all id = true) : rightH H = true :=
  (rightH_iff H).2 ⟨by omega, fun j hj => (txF_iff hj).1 (hall j hj)⟩
set_option maxRecDepth 100000 in
theorem right08_any (A : Option Addr) (c : Nat) (H : List Txn) (w : World) (h : TxnS w (Old w) (.slice A H.length c) H) (hs : SmallH H) :
    Calls Tryz.prog 38 #[.agg #[.slice A H.length c]] w fun e w' => e = .returned (.bool (rightH H)) ∧ Below w.heap.size w w' := by
  have hH := hs.1
  have hA : Below w.heap.size w (w.alloc (.cells #[.slice A H.length c] 24)) := (Below.refl _ _).alloc (Nat.le_refl _) _
  have kH : Blk (w.alloc (.cells #[.slice A H.length c] 24)) w.heap.size 24 #[.slice A H.length c] := Blk.new _ _ _
  have y0 := kH.cell 0
  simp only [List.getElem?_toArray, List.getElem?_cons_zero] at y0
  by_cases h32 : 32 < H.length
  · have hb : decide ((H.length : Int) > 32) = true := by simp; omega
    have hr := hide (right_many h32)
    clear h32
    go_enter Tryz.func38, Tryz.ntmps38
    go_wp2
    go_ret
    exact ⟨by rw [hr.out]; rfl, hA⟩
  · have hb : decide ((H.length : Int) > 32) = false := by simp; omega
    have hno := hide (fun n hn g => right_no (H := H) (n := n) hn g)
    have hyes := hide (right_yes h32)
    clear h32
    go_enter Tryz.func38, Tryz.ntmps38
    go_wp2_with fail
    clear y0
    generalize w.alloc (.cells #[.slice A H.length c] 24) = W0 at *
    go_loopw [3, 4] (fun s3 _ wr => ∃ n : Nat, n ≤ H.length ∧ s3 = .int .i64 n ∧ Hid (∀ j, j < n → (txF H j).all id = true) ∧ Below w.heap.size w wr ∧ Blk wr w.heap.size 24 #[.slice A H.length c]) (fun s3 _ _ => H.length - (intOf s3).toNat)
    case atStart => exact ⟨0, Nat.zero_le _, by go_num, fun j h => absurd h (by omega), hA, kH⟩
    case round =>
      clear hA kH
      obtain ⟨n, hn, rfl, hall, hB, kH⟩ := hrel
      have hn1 : (0 : Int) ≤ (n : Int) := Int.natCast_nonneg _
      have y0 := kH.cell 0
      simp only [List.getElem?_toArray, List.getElem?_cons_zero] at y0
      by_cases hlt : n < H.length
      · have hn2 : (n : Int) < (H.length : Int) := by omega
        have hc := one08_any A c H n wr (TxnS.keep h (Agree.below hB fun b h => h) (fun b h => Nat.lt_of_lt_of_le h hB.size)) hlt hs
        have hno2 := hide (hno.out n hlt)
        have hst : Hid ((txF H n).all id = true → ∀ j, j < n + 1 → (txF H j).all id = true) := fun g j hj => by
          by_cases e : j = n
          · subst e; exact g
          · exact hall.out j (by omega)
        generalize (txF H n).all id = tb at *
        go_wp2_with fail
        refine hc.mono ?_
        clear hc
        rintro e w1 ⟨rfl, hb1⟩
        have kH1 := kH.below hb1 kH.lt
        have hB1 := hB.trans (hb1.mono hB.size)
        cases tb with
        | false =>
          have hr := hide (hno2.out rfl)
          go_wp2
          go_ret
          exact ⟨by rw [hr.out]; rfl, hB1⟩
        | true =>
          have hst2 := hide (hst.out rfl)
          go_wp2
          go_roundw
          case rel => exact ⟨n + 1, by omega, by go_num, hst2, hB1, kH1⟩
          case measure => simp [intOf]; omega
      · have hr := hide (hyes.out fun j hj => hall.out j (by omega))
        go_wp2
        go_ret
        exact ⟨by rw [hr.out]; rfl, hB⟩
end Go.Proofs.YtfodlklpfffaaaaGreatDoor
