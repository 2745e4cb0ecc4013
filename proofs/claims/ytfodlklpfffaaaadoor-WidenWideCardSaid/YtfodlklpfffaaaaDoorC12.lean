/-
  Plain words of come, in its own order; no program in sight.
-/
import Derived.Deep.OwnRows
import Derived.StillTailTactics
import Derived.Maps.OwnIn
import Derived.Test.YtfodlklpfffaaaaDoorC07
import Derived.Test.YtfodlklpfffaaaaDoorC05
import Derived.Test.YtfodlklpfffaaaaDoorC10
set_option linter.unusedVariables false
set_option linter.unusedSimpArgs false
namespace Go.Inq

/-- May t come, as far as the nodes below j say? -/
def freeTo (H : List Txn) (path : List Int) (t j : Nat) : Bool := !path.contains (t : Int) && (List.range j).all fun (x : Nat) => !pastE H x t || path.contains (x : Int)
def comeTo (H : List Txn) (path : List Int) (k : Nat) : List Int := ((List.range k).filter fun (t : Nat) => freeTo H path t H.length).map fun (t : Nat) => (t : Int)
theorem freeTo_zero (H : List Txn) (path : List Int) (t : Nat) : freeTo H path t 0 = !path.contains (t : Int) := by simp [freeTo]
theorem freeTo_step (H : List Txn) (path : List Int) (t j : Nat) : freeTo H path t (j + 1) = (freeTo H path t j && (!pastE H j t || path.contains (j : Int))) := by
  unfold freeTo
  rw [List.range_succ, List.all_append, ← Bool.and_assoc]
  simp
theorem comeTo_all (H : List Txn) (path : List Int) : comeTo H path H.length = comeW H path := rfl
theorem comeTo_step (H : List Txn) (path : List Int) (k : Nat) : comeTo H path (k + 1) = comeTo H path k ++ (if freeTo H path k H.length then [(k : Int)] else []) := by
  unfold comeTo
  rw [List.range_succ, List.filter_append, List.map_append]
  congr 1
  cases h : freeTo H path k H.length <;> simp [List.filter_cons, h]
theorem comeTo_len (H : List Txn) (path : List Int) (k : Nat) : (comeTo H path k).length ≤ k := by
  unfold comeTo
  rw [List.length_map]
  exact Nat.le_trans (List.length_filter_le _ _) (by simp)
end Go.Inq

namespace Go.Proofs.YtfodlklpfffaaaaDoor
open Go.RowKit Go.Inq
set_option maxHeartbeats 2000000
attribute [local go_sem ↓] Go.wp_at_zero Go.wp_at_succ

theorem infoU12 : (Tryd.prog.info? 75).map (fun i => (i.zero, i.size, i.bytes)) = some (some (.int .u64 0), 1, 8) := by kernel_rfl
/-- What makes a graph tells. -/
abbrev OutG := NewG 75
theorem new12_any (n : Nat) (hn : n ≤ 64) (w : World) : Calls Tryd.prog 38 #[.int .i64 n] w (OutG w n noE) := by
  have hmk : ∀ W : World, (Instr.makeSlice 49 (.int .i64 (n : Int)) (.int .i64 (n : Int))).run Tryd.prog W = .ok (.slice (some ⟨W.heap.size, 0, none⟩) n n) (W.alloc (.cells (madeCells #[.int .u64 0] n) 75)) :=
    fun W => run_make_row' (P := Tryd.prog) 49 75 (.int .u64 0) 8 Tryd.underlying49 infoU12 rfl .i64 .i64 n (by omega) (by omega) W
  have h1 : decide ((n : Int) < 0) = false := by simp
  have h2 : decide ((n : Int) > 64) = false := by simp; omega
  have hno := hide (rowsB_no n)
  go_enter Tryd.func38, Tryd.ntmps38
  go_wp2
  refine bodyPost_ret (v := .tuple #[.agg #[.int .i64 n, .slice (some ⟨w.heap.size + 1, 0, none⟩) n n], .int .i64 0]) (by simp [results, Tryd.results38, go_sem]) rfl ?_
  refine ⟨w.heap.size + 1, by omega, rfl, ?_, ?_⟩
  · rw [hno.out]
    have := Blk.new (w.alloc (.cells #[.int .i64 n, .slice (some ⟨w.heap.size + 1, 0, none⟩) n n] 51)) 75 (madeCells #[.int .u64 0] n)
    simpa using this
  · exact ((Below.refl _ _).alloc (Nat.le_refl _) _).alloc (by simp) _
theorem right12_any (n : Nat) (A : Option Addr) (c : Nat) (E : Edges) (K : Nat → Prop) (w : World) (h : GrS w K n A c E) (hK : ∀ b, K b → b < w.heap.size) :
    Calls Tryd.prog 37 #[.agg #[.int .i64 n, .slice A n c]] w fun e w' => e = .returned (.bool true) ∧ Below w.heap.size w w' := by
  have h1 : decide ((n : Int) ≥ 0) = true := by simp
  have h2 : decide ((n : Int) ≤ 64) = true := by have := h.n64; simp; omega
  have hB : Below w.heap.size w (w.alloc (.cells #[.int .i64 n, .slice A n c] 51)) := (Below.refl _ _).alloc (Nat.le_refl _) _
  have k0 : Blk (w.alloc (.cells #[.int .i64 n, .slice A n c] 51)) w.heap.size 51 #[.int .i64 n, .slice A n c] := Blk.new _ _ _
  have hs := h.sl.keep (Agree.below hB hK) (fun b hb => hb)
  have hx : ∀ x ∈ rowsG n E, x < 18446744073709551616 := fun x hx => Nat.lt_of_lt_of_le (rowsG_lt hx) (pow_le_64 h.n64)
  have hsub := hide (sub_nodes h.n64 (l := rowsG n E) fun x hx => rowsG_lt hx)
  have hjl := hide (joinL_lt (l := rowsG n E) (n := 64) hx)
  have hpl := hide (show 2 ^ n - 1 < 18446744073709551616 by have := pow_le_64 h.n64; have := Nat.two_pow_pos n; omega)
  have hnn := hide h.n64
  replace hx := hide hx
  replace hs := hide hs
  clear h hK
  go_enter Tryd.func37, Tryd.ntmps37
  go_wp2
  generalize w.alloc (.cells #[.int .i64 n, .slice A n c] 51) = W at *
  have c0 := k0.cell 0
  have c1 := k0.cell 1
  simp only [List.getElem?_toArray, List.getElem?_cons_zero, List.getElem?_cons_succ] at c0 c1
  go_quiet ((first | (go_at_call 51; exact Calls.quiet_of_same ((join10_any A n c (rowsG n E) K _ (rowsG_length n E) (hs.out.keep (Agree.drewN _ _ _) (fun _ h => h)) hx.out (by have := hnn.out; omega)).mono fun _ _ h => ⟨h.1, h.2.symm⟩)) | (go_at_call 57; exact Calls.quiet_of_same ((nodes12_any n hnn.out _).mono fun _ _ h => ⟨h.1, h.2.symm⟩)) | (go_at_call 32; exact Calls.quiet_of_same ((sub10_any _ _ hjl.out hpl.out _).mono fun _ _ h => ⟨h.1, h.2.symm⟩))))
  rw [hsub.out]
  go_wp2
  go_ret
  exact ⟨rfl, hB.trans ⟨rfl, rfl, rfl, Nat.le_refl _, fun _ _ => rfl⟩⟩

theorem hB_box {w : World} {o : Obj} : Below w.heap.size w (w.alloc o) := (Below.refl _ _).alloc (Nat.le_refl _) _
/-- Is there an edge, of whatever numbers? -/
def hasE (n : Nat) (E : Edges) (a b : Int) : Bool := decide (0 ≤ a) && decide (a < (n : Int)) && hasB (setB (E a.toNat) n) b
theorem hasE_nat {n : Nat} {E : Edges} {a b : Nat} (ha : a < n) (hb : b < n) : hasE n E (a : Int) (b : Int) = E a b := by
  unfold hasE
  rw [hasB_nat, Int.toNat_natCast, testBit_setB]
  simp [ha, hb]
theorem has12_any (n : Nat) (A : Option Addr) (c : Nat) (E : Edges) (a b : Int) (K : Nat → Prop) (w : World) (h : GrS w K n A c E) (hK : ∀ b, K b → b < w.heap.size) :
    Calls Tryd.prog 23 #[.agg #[.int .i64 n, .slice A n c], .int .i64 a, .int .i64 b] w fun e w' => e = .returned (.bool (hasE n E a b)) ∧ Below w.heap.size w w' := by
  have hB : Below w.heap.size w (w.alloc (.cells #[.int .i64 n, .slice A n c] 51)) := hB_box
  have k0 : Blk (w.alloc (.cells #[.int .i64 n, .slice A n c] 51)) w.heap.size 51 #[.int .i64 n, .slice A n c] := Blk.new _ _ _
  have hg := h.keep (Agree.below hB hK) (fun b hb => hb)
  have hK2 : ∀ b, K b → b < (w.alloc (.cells #[.int .i64 n, .slice A n c] 51)).heap.size := fun b hb => by have := hK b hb; simp; omega
  replace hK := hide hK
  replace hg := hide hg
  replace h := hide h
  by_cases h0 : 0 ≤ a
  · have h0b : decide (a ≥ 0) = true := by simpa using h0
    by_cases h1 : a < (n : Int)
    · obtain ⟨m, rfl⟩ : ∃ m : Nat, a = m := ⟨a.toNat, by omega⟩
      have h1b : decide ((m : Int) < (n : Int)) = true := by simpa using h1
      have hr : hasE n E (m : Int) b = hasB (setB (E m) n) b := by unfold hasE; simp; omega
      rw [hr]
      have hm : m < n := by omega
      obtain ⟨bb, off, rfl, hbK, hc⟩ := hg.out.at_ hm
      have h64 := hide (setB_64 (p := E m) h.out.n64)
      clear hr
      go_enter Tryd.func23, Tryd.ntmps23
      go_wp2_with fail
      refine (right12_any n _ c E K _ hg.out hK2).mono ?_
      rintro e w1 ⟨rfl, hb1⟩
      replace hc := (hb1.cell (p := ⟨bb, off + m, none⟩) (hK2 _ hbK)).trans hc
      replace k0 := k0.below hb1 k0.lt
      have hb2 := hB.trans (hb1.mono hB.size)
      have c0 := k0.cell 0
      have c1 := k0.cell 1
      simp only [List.getElem?_toArray, List.getElem?_cons_zero, List.getElem?_cons_succ] at c0 c1
      clear k0 hb1 hB hK2
      go_wp2_with (go_at_call 31; refine (has10_any _ h64.out _ _).mono ?_; rintro e w3 ⟨rfl, rfl⟩)
      go_ret
      exact ⟨rfl, hb2⟩
    · have h1b : decide (a < (n : Int)) = false := by simpa using h1
      have hr : hasE n E a b = false := by unfold hasE; rw [h1b]; simp
      rw [hr]
      clear hr
      go_enter Tryd.func23, Tryd.ntmps23
      go_wp2_with fail
      refine (right12_any n _ c E K _ hg.out hK2).mono ?_
      rintro e w1 ⟨rfl, hb1⟩
      replace k0 := k0.below hb1 k0.lt
      have hb2 := hB.trans (hb1.mono hB.size)
      have c0 := k0.cell 0
      have c1 := k0.cell 1
      simp only [List.getElem?_toArray, List.getElem?_cons_zero, List.getElem?_cons_succ] at c0 c1
      clear k0 hb1 hB hK2
      go_wp2
      go_ret
      exact ⟨rfl, hb2⟩
  · have h0b : decide (a ≥ 0) = false := by simpa using h0
    have hr : hasE n E a b = false := by unfold hasE; simp [h0]
    rw [hr]
    clear hr
    go_enter Tryd.func23, Tryd.ntmps23
    go_wp2_with fail
    refine (right12_any n _ c E K _ hg.out hK2).mono ?_
    rintro e w1 ⟨rfl, hb1⟩
    have hb2 := hB.trans (hb1.mono hB.size)
    clear k0 hb1 hB hK2
    go_wp2
    go_ret
    exact ⟨rfl, hb2⟩
theorem like12_any (n : Nat) (A A' : Option Addr) (c c' : Nat) (E E' : Edges) (K : Nat → Prop) (w : World) (h : GrS w K n A c E) (h' : GrS w K n A' c' E') (hK : ∀ b, K b → b < w.heap.size) :
    Calls Tryd.prog 49 #[.agg #[.int .i64 n, .slice A n c], .agg #[.int .i64 n, .slice A' n c']] w fun e w' => e = .returned (.bool true) ∧ Below w.heap.size w w' := by
  have hB : Below w.heap.size w ((w.alloc (.cells #[.int .i64 n, .slice A n c] 51)).alloc (.cells #[.int .i64 n, .slice A' n c'] 51)) := hB_box.alloc (by simp) _
  have k0 : Blk ((w.alloc (.cells #[.int .i64 n, .slice A n c] 51)).alloc (.cells #[.int .i64 n, .slice A' n c'] 51)) w.heap.size 51 #[.int .i64 n, .slice A n c] := (Blk.new _ _ _).alloc _
  have k1 : Blk ((w.alloc (.cells #[.int .i64 n, .slice A n c] 51)).alloc (.cells #[.int .i64 n, .slice A' n c'] 51)) (w.heap.size + 1) 51 #[.int .i64 n, .slice A' n c'] := by
    have := Blk.new (w.alloc (.cells #[.int .i64 n, .slice A n c] 51)) 51 #[.int .i64 n, .slice A' n c']
    simpa using this
  have hg := hide (h.keep (Agree.below hB hK) (fun b hb => hb))
  have hg' := hide (h'.keep (Agree.below hB hK) (fun b hb => hb))
  have hK2 : ∀ b, K b → b < ((w.alloc (.cells #[.int .i64 n, .slice A n c] 51)).alloc (.cells #[.int .i64 n, .slice A' n c'] 51)).heap.size := fun b hb => by have := hK b hb; simp; omega
  clear h h'
  replace hK := hide hK
  go_enter Tryd.func49, Tryd.ntmps49
  go_wp2_with fail
  refine (right12_any n _ c E K _ hg.out hK2).mono ?_
  rintro e w1 ⟨rfl, hb1⟩
  have hg2 := hide (hg'.out.keep (Agree.below hb1 hK2) (fun b hb => hb))
  have hK3 : ∀ b, K b → b < w1.heap.size := fun b hb => Nat.lt_of_lt_of_le (hK2 b hb) hb1.size
  replace k0 := k0.below hb1 k0.lt
  replace k1 := k1.below hb1 k1.lt
  have hb2 := hB.trans (hb1.mono hB.size)
  have c0 := k0.cell 0
  have c1 := k0.cell 1
  have d0 := k1.cell 0
  have d1 := k1.cell 1
  simp only [List.getElem?_toArray, List.getElem?_cons_zero, List.getElem?_cons_succ] at c0 c1 d0 d1
  clear hg hg' hb1 hB
  replace hK2 := hide hK2
  go_wp2_with fail
  refine (right12_any n _ c' E' K _ hg2.out hK3).mono ?_
  rintro e w3 ⟨rfl, hb3⟩
  replace k0 := k0.below hb3 k0.lt
  replace k1 := k1.below hb3 k1.lt
  have hb4 := hb2.trans (hb3.mono hb2.size)
  clear c0 c1 d0 d1
  have c0 := k0.cell 0
  have d0 := k1.cell 0
  simp only [List.getElem?_toArray, List.getElem?_cons_zero, List.getElem?_cons_succ] at c0 d0
  clear hb3 hb2
  replace hK3 := hide hK3
  go_wp2
  go_ret
  exact ⟨rfl, hb4⟩
end Go.Proofs.YtfodlklpfffaaaaDoor

namespace Go.Proofs.YtfodlklpfffaaaaDoor
open Go.RowKit Go.Inq
set_option maxHeartbeats 4000000
attribute [local go_sem ↓] Go.wp_at_zero Go.wp_at_succ

theorem sizeU12 : (Tryd.prog.info? 75).map (·.size) = some 1 := by kernel_rfl
set_option maxRecDepth 100000 in
theorem add12_any (n : Nat) (A : Option Addr) (c : Nat) (E : Edges) (a b : Nat) (ha : a < n) (hb : b < n) (K : Nat → Prop) (w : World) (h : GrS w K n A c E) (hK : ∀ b, K b → b < w.heap.size) :
    Calls Tryd.prog 46 #[.agg #[.int .i64 n, .slice A n c], .int .i64 a, .int .i64 b] w (OutG w n (orE E (oneE a b))) := by
  have hB : Below w.heap.size w ((w.alloc (.cells #[.int .i64 n, .slice A n c] 51)).alloc (.cells #[.int .i64 0, .slice none 0 0] 51)) := hB_box.alloc (by simp) _
  have k0 : Blk ((w.alloc (.cells #[.int .i64 n, .slice A n c] 51)).alloc (.cells #[.int .i64 0, .slice none 0 0] 51)) w.heap.size 51 #[.int .i64 n, .slice A n c] := (Blk.new _ _ _).alloc _
  have k1 : Blk ((w.alloc (.cells #[.int .i64 n, .slice A n c] 51)).alloc (.cells #[.int .i64 0, .slice none 0 0] 51)) (w.heap.size + 1) 51 #[.int .i64 0, .slice none 0 0] := by
    have := Blk.new (w.alloc (.cells #[.int .i64 n, .slice A n c] 51)) 51 #[.int .i64 0, .slice none 0 0]
    simpa using this
  have hg := hide (h.keep (Agree.below hB hK) (fun b hb => hb))
  have hK2 : ∀ b, K b → b < ((w.alloc (.cells #[.int .i64 n, .slice A n c] 51)).alloc (.cells #[.int .i64 0, .slice none 0 0] 51)).heap.size := fun b hb => by have := hK b hb; simp; omega
  have hn := h.n64
  have ha1 : decide ((a : Int) < 0) = false := by simp
  have hb1 : decide ((b : Int) < 0) = false := by simp
  have ha2 : decide ((n : Int) ≤ (a : Int)) = false := by simp; omega
  have hb2 : decide ((n : Int) ≤ (b : Int)) = false := by simp; omega
  have ha3 : decide (n ≤ a) = false := by simp; omega
  have hb3 : decide (n ≤ b) = false := by simp; omega
  clear h
  replace hK := hide hK
  go_enter Tryd.func46, Tryd.ntmps46
  go_wp2_with fail
  refine (right12_any n _ c E K _ hg.out hK2).mono ?_
  rintro e w1 ⟨rfl, hbb1⟩
  have hg1 := hide (hg.out.keep (Agree.below hbb1 hK2) (fun b hb => hb))
  have hK3 := hide (show ∀ b, K b → b < w1.heap.size from fun b hb => Nat.lt_of_lt_of_le (hK2 b hb) hbb1.size)
  have hs1 : w.heap.size + 2 ≤ w1.heap.size := by have := hbb1.size; simpa using this
  replace k0 := k0.below hbb1 k0.lt
  replace k1 := k1.below hbb1 k1.lt
  have hbb2 := hB.trans (hbb1.mono hB.size)
  clear hg hbb1 hB hK2
  have c0 := k0.cell 0
  have c1 := k0.cell 1
  simp only [List.getElem?_toArray, List.getElem?_cons_zero, List.getElem?_cons_succ] at c0 c1
  go_wp2_with fail
  refine (new12_any n hn _).mono ?_
  rintro e w2 ⟨g, hgs, rfl, kR, hbb3⟩
  clear c0 c1
  have hg2 := hide (hg1.out.keep (Agree.below hbb3 hK3.out) (fun b hb => hb))
  have k0' := k0.below hbb3 k0.lt
  have k1' := k1.below hbb3 k1.lt
  have hbb4 := hbb2.trans (hbb3.mono hbb2.size)
  have hs2 : w1.heap.size ≤ w2.heap.size := hbb3.size
  have hgl := kR.lt
  clear hbb3 hbb2 k0 k1 hg1
  have k2 : Blk (w2.alloc (.cells #[.int .i64 n, .slice (some ⟨g, 0, none⟩) n n] 51)) w2.heap.size 51 #[.int .i64 n, .slice (some ⟨g, 0, none⟩) n n] := Blk.new _ _ _
  have m0 := k0'.alloc (.cells #[.int .i64 n, .slice (some ⟨g, 0, none⟩) n n] 51)
  have m1 := k1'.alloc (.cells #[.int .i64 n, .slice (some ⟨g, 0, none⟩) n n] 51)
  have mR := kR.alloc (.cells #[.int .i64 n, .slice (some ⟨g, 0, none⟩) n n] 51)
  have hK4 := hide (show ∀ b, K b → b < w2.heap.size from fun b hb => Nat.lt_of_lt_of_le (hK3.out b hb) hs2)
  have hg3 := hide (hg2.out.keep (Agree.alloc hK4.out (.cells #[.int .i64 n, .slice (some ⟨g, 0, none⟩) n n] 51)) (fun b hb => hb))
  have hbb5 := hbb4.alloc (by omega) (.cells #[.int .i64 n, .slice (some ⟨g, 0, none⟩) n n] 51)
  have hs3 : (w2.alloc (.cells #[.int .i64 n, .slice (some ⟨g, 0, none⟩) n n] 51)).heap.size = w2.heap.size + 1 := by simp
  have c1 := m0.cell 1
  simp only [List.getElem?_toArray, List.getElem?_cons_zero, List.getElem?_cons_succ] at c1
  clear hbb4 kR k0' k1' hg2
  have hsrc := hide (fun i (hi : i < (rowsG n E).length) => (U64S.at_ hg3.out.sl hi))
  have hcur : (rowsB n noE).size = n := by simp [rowsB, rowsG_length]
  replace hcur := hide hcur
  go_wp2_with (refine wpList_copy_whole (fun x : Nat => Value.int .u64 x) rfl (.tmp 41) (.tmp 43) 49 49 rfl 75 Tryd.underlying49 sizeU12 g n n c A rfl rfl (rowsB n noE) 75 mR hcur.out (rowsG n E) (rowsG_length n E) (fun i hi => by obtain ⟨b, off, hA, _, hc⟩ := hsrc.out i hi; exact ⟨b, off, hA, hc⟩) (fun x _ => rfl) ?_; intro w4 kR4 hg4)
  have kR5 : Blk w4 g 75 (rowsB n E) := kR4
  have k24 := k2.grown hg4 (by simp; omega)
  have k14 := m1.grown hg4 (by simp; omega)
  have hb4 := below_grown hbb5 hg4 hbb5.size (by intro k hk; injection hk with hk; omega)
  have hs4 := hg4.size
  rw [hs3] at hs4
  have d1 := k24.cell 1
  have d0 := k24.cell 0
  have j0 := k14.cell 0
  have j1 := k14.cell 1
  have jf := k14.frozen 0
  have jf1 := k14.frozen 1
  have e0 := kR5.cell a
  rw [rowsB_at ha] at e0
  simp only [List.getElem?_toArray, List.getElem?_cons_zero, List.getElem?_cons_succ] at d1 d0 j0 j1
  have f0 := kR5.frozen a
  have h64 := hide (setB_64 (p := E a) hn)
  have hi1 : (0 : Int) ≤ (a : Int) := Int.natCast_nonneg _
  have hi2 : (a : Int) < (n : Int) := by omega
  have hadd := hide (rowsB_add (E := E) ha hb hn)
  clear kR4 mR k2 m0 m1 hbb5 hg4 hg3 hsrc c1 hcur
  refine wp_region_still_tail 11 (by kernel_rfl) (by kernel_rfl) ?_
  simp only [List.take_succ_cons, List.take_zero, List.drop_succ_cons, List.drop_zero]
  repeat still_step
  still_call ((with10_any _ h64.out b _).mono fun _ _ h => ⟨h.1, h.2.symm⟩)
  repeat still_step
  refine wpStill_nil ?_
  change wpList _ _ _ _ _ w4.drew
  go_wp2
  have n1 : g ≠ w.heap.size + 1 := by omega
  have n2 : w.heap.size + 1 ≠ g := by omega
  have kF0 := (((kR5.set_ a (.int .u64 (withB (setB (E a) n) (b : Int) : Nat))).far (p := ⟨w.heap.size + 1, 0, none⟩) n1 (.int .i64 n)).far (p := ⟨w.heap.size + 1, 1, none⟩) n1 (.slice (some ⟨g, 0, none⟩) n n)).drew
  rw [hadd.out] at kF0
  have hF := ((((hb4.setCell (p := ⟨g, a, none⟩) (by simp; omega) (.int .u64 (withB (setB (E a) n) (b : Int) : Nat))).setCell (p := ⟨w.heap.size + 1, 0, none⟩) (by simp) (.int .i64 n)).setCell (p := ⟨w.heap.size + 1, 1, none⟩) (by simp) (.slice (some ⟨g, 0, none⟩) n n))).drew
  exact bodyPost_ret (v := .tuple #[.agg #[.int .i64 n, .slice (some ⟨g, 0, none⟩) n n], .int .i64 0]) (by simp [results, Tryd.results46, go_sem, j0, j1, n1, n2]) rfl ⟨g, by omega, rfl, kF0, hF⟩
end Go.Proofs.YtfodlklpfffaaaaDoor

namespace Go.Proofs.YtfodlklpfffaaaaDoor
open Go.RowKit Go.Inq
set_option maxHeartbeats 4000000
attribute [local go_sem ↓] Go.wp_at_zero Go.wp_at_succ

/-- The edges of the first k nodes. -/
def partE (k : Nat) (E : Edges) : Edges := fun a b => decide (a < k) && E a b
theorem partE_zero (E : Edges) : partE 0 E = noE := by funext a b; simp [partE, noE]
theorem partE_all {n : Nat} {E : Edges} {a b : Nat} (ha : a < n) (_ : b < n) : partE n E a b = E a b := by simp [partE, ha]
theorem partE_step {n k : Nat} {E : Edges} {x : Nat} (hk : k < n) (hx : x = setB (E k) n) : (rowsB n (partE k E)).setIfInBounds k (.int .u64 (x : Nat)) = rowsB n (partE (k + 1) E) := by
  rw [rowsB_set hk hx]
  refine rowsB_congr fun a b ha hb => ?_
  by_cases e : a = k
  · subst e; simp [partE]
  · have : decide (a < k + 1) = decide (a < k) := by simp; omega
    simp [partE, e, this]
set_option maxRecDepth 100000 in
theorem union12_any (n : Nat) (A A' : Option Addr) (c c' : Nat) (E F : Edges) (K : Nat → Prop) (w : World) (h : GrS w K n A c E) (h' : GrS w K n A' c' F) (hK : ∀ b, K b → b < w.heap.size) :
    Calls Tryd.prog 40 #[.agg #[.int .i64 n, .slice A n c], .agg #[.int .i64 n, .slice A' n c']] w (OutG w n (orE E F)) := by
  obtain ⟨W0, hW0⟩ : ∃ W0, ((w.alloc (.cells #[.int .i64 n, .slice A n c] 51)).alloc (.cells #[.int .i64 n, .slice A' n c'] 51)).alloc (.cells #[.int .i64 0, .slice none 0 0] 51) = W0 := ⟨_, rfl⟩
  have hB : Below w.heap.size w W0 := by rw [← hW0]; exact (hB_box.alloc (by simp) _).alloc (by simp; omega) _
  have hs0 : W0.heap.size = w.heap.size + 3 := by rw [← hW0]; simp
  have k0 : Blk W0 w.heap.size 51 #[.int .i64 n, .slice A n c] := by rw [← hW0]; exact ((Blk.new _ _ _).alloc _).alloc _
  have k1 : Blk W0 (w.heap.size + 1) 51 #[.int .i64 n, .slice A' n c'] := by
    rw [← hW0]
    have := (Blk.new (w.alloc (.cells #[.int .i64 n, .slice A n c] 51)) 51 #[.int .i64 n, .slice A' n c']).alloc (.cells #[.int .i64 0, .slice none 0 0] 51)
    simpa using this
  have k2 : Blk W0 (w.heap.size + 1 + 1) 51 #[.int .i64 0, .slice none 0 0] := by
    rw [← hW0]
    have := Blk.new ((w.alloc (.cells #[.int .i64 n, .slice A n c] 51)).alloc (.cells #[.int .i64 n, .slice A' n c'] 51)) 51 #[.int .i64 0, .slice none 0 0]
    simpa using this
  have hg := hide (h.keep (Agree.below hB hK) (fun b hb => hb))
  have hg' := hide (h'.keep (Agree.below hB hK) (fun b hb => hb))
  have hn := h.n64
  replace hK := hide hK
  have hKW : Hid (∀ b, K b → b < W0.heap.size) := hide fun b hb => by have := hK.out b hb; omega
  clear h h'
  replace hs0 := hide hs0
  go_enter Tryd.func40, Tryd.ntmps40
  have c0 := k0.cell 0
  have c1 := k0.cell 1
  have e0 := k1.cell 0
  have e1 := k1.cell 1
  simp only [List.getElem?_toArray, List.getElem?_cons_zero, List.getElem?_cons_succ] at c0 c1 e0 e1
  go_wp2_with fail
  clear hW0 c0 c1 e0 e1
  refine (like12_any n A A' c c' E F K _ hg.out hg'.out hKW.out).mono ?_
  rintro e w1 ⟨rfl, hb1⟩
  have hs1 : w.heap.size + 3 ≤ w1.heap.size := by have := hb1.size; have := hs0.out; omega
  have hga := hide (hg.out.keep (Agree.below hb1 hKW.out) (fun b hb => hb))
  have hgb := hide (hg'.out.keep (Agree.below hb1 hKW.out) (fun b hb => hb))
  replace k0 := k0.below hb1 k0.lt
  replace k1 := k1.below hb1 k1.lt
  replace k2 := k2.below hb1 k2.lt
  have hb2 := hB.trans (hb1.mono hB.size)
  clear hg hg' hb1 hB hKW hs0
  have c0 := k0.cell 0
  simp only [List.getElem?_toArray, List.getElem?_cons_zero, List.getElem?_cons_succ] at c0
  go_wp2_with fail
  refine (new12_any n hn _).mono ?_
  rintro e w2 ⟨g, hgs, rfl, kR, hb3⟩
  have hK1 : ∀ b, K b → b < w1.heap.size := fun b hb => by have := hK.out b hb; omega
  replace hga := hide (hga.out.keep (Agree.below hb3 hK1) (fun b hb => hb))
  replace hgb := hide (hgb.out.keep (Agree.below hb3 hK1) (fun b hb => hb))
  replace k0 := k0.below hb3 k0.lt
  replace k1 := k1.below hb3 k1.lt
  replace k2 := k2.below hb3 k2.lt
  replace hb2 := hb2.trans (hb3.mono hb2.size)
  have hs2 : w1.heap.size ≤ w2.heap.size := hb3.size
  have hgl := kR.lt
  clear hb3 hK1 c0
  obtain ⟨W3, hW3⟩ : ∃ W3, w2.alloc (.cells #[.int .i64 n, .slice (some ⟨g, 0, none⟩) n n] 51) = W3 := ⟨_, rfl⟩
  have k3 := Blk.newEq hW3
  have hs3 := size_allocEq hW3
  replace k0 := k0.allocEq hW3
  replace k1 := k1.allocEq hW3
  replace k2 := k2.allocEq hW3
  replace kR := kR.allocEq hW3
  have hb5 := below_allocEq hb2 hW3 (by omega)
  have hKw : ∀ b, K b → b < w2.heap.size := fun b hb => by have := hK.out b hb; omega
  replace hga := hide (hga.out.keep (Agree.allocEq hW3 hKw) (fun b hb => hb))
  replace hgb := hide (hgb.out.keep (Agree.allocEq hW3 hKw) (fun b hb => hb))
  replace hs3 := hide hs3
  clear hb2 hKw
  have d1 := k3.cell 1
  simp only [List.getElem?_toArray, List.getElem?_cons_zero, List.getElem?_cons_succ] at d1
  go_wp2_with fail
  clear d1
  have hz := hide (partE_zero (orE E F))
  go_loopw [23] (fun s23 wr => ∃ k : Nat, k ≤ n ∧ s23 = .int .i64 k ∧ Blk wr g 75 (rowsB n (partE k (orE E F))) ∧ W3.grownBy wr (some g)) (fun s23 _ => n - (intOf s23).toNat)
  case atStart => exact ⟨0, Nat.zero_le _, by go_num, by rw [hz.out]; exact kR, World.grownBy.refl _ _⟩
  case round =>
    obtain ⟨k, hk, rfl, kRw, hgw⟩ := hrel
    have hi1 : (0 : Int) ≤ (k : Int) := Int.natCast_nonneg _
    have m0 := k0.grown hgw (by simp; omega)
    have m1 := k1.grown hgw (by simp; omega)
    have m3 := k3.grown hgw (by simp; omega)
    have hszw := hgw.size
    by_cases hlt : k < n
    · have hi2 : (k : Int) < (n : Int) := by omega
      have hKg : ∀ b, K b → b < g := fun b hb => by have := hK.out b hb; omega
      have hgL : g ≤ W3.heap.size := by have := hs3.out; omega
      obtain ⟨ab, ao, rfl, _, hca⟩ := (hga.out.keep (Agree.ofGrown hgw hKg hgL) (fun b hb => hb)).at_ hlt
      obtain ⟨bb, bo, rfl, _, hcb⟩ := (hgb.out.keep (Agree.ofGrown hgw hKg hgL) (fun b hb => hb)).at_ hlt
      have hstep := hide (partE_step (E := orE E F) hlt (setB_or (p := E k) (q := F k) (n := n)))
      have h64a := hide (setB_64 (p := E k) hn)
      have h64b := hide (setB_64 (p := F k) hn)
      have hj := hide (joinL_two (setB (E k) n) (setB (F k) n))
      have c1 := m0.cell 1
      have e1 := m1.cell 1
      have d1 := m3.cell 1
      simp only [List.getElem?_toArray, List.getElem?_cons_zero, List.getElem?_cons_succ] at c1 e1 d1
      have f0 := kRw.frozen k
      have r0 := kRw.cell k
      rw [rowsB_at hlt] at r0
      have hglw := kRw.lt
      generalize setB (E k) n = x at *
      generalize setB (F k) n = y at *
      have d1n := (m3.alloc (.cells #[.int .u64 (x : Nat), .int .u64 (y : Nat)] 75)).cell 1
      simp only [List.getElem?_toArray, List.getElem?_cons_zero, List.getElem?_cons_succ] at d1n
      clear k0 k1 k3 m0 m1 m3 hKg hgL hga hgb
      go_wp2_with fail
      refine wp_region_alts [0, 2, 3, 4, 5, 6, 7, 8, 9, 10, 11, 12] [1, 13, 14, 15, 16] [[1, 13, 14, 15, 16], [13, 1, 14, 15, 16], [13, 14, 1, 15, 16]] (by kernel_rfl) (by kernel_rfl) (fun _ _ d _ _ h => by cases d <;> exact h) ?_
      simp only [List.filterMap_cons, List.filterMap_nil, List.getElem?_cons_zero, List.getElem?_cons_succ]
      repeat still_step
      refine wpStill_nil ?_
      have kN := hide (U64S.of_blk (l := [x, y]) (K := fun _ => True) ((Blk.new wr 75 #[.int .u64 (x : Nat), .int .u64 (y : Nat)]).drew) trivial)
      have hxy := hide (show ∀ z ∈ [x, y], z < 18446744073709551616 from by intro z hz; simp at hz; rcases hz with rfl | rfl; exact h64a.out; exact h64b.out)
      clear h64a h64b
      intro i hi
      simp only [List.filterMap_cons, List.head?_cons, List.filterMap_nil, List.mem_cons, List.not_mem_nil, or_false, or_self] at hi
      obtain rfl | rfl : i = 1 ∨ i = 13 := by omega
      · refine wpOp_list rfl ?_
        simp only [tailsOf, List.filterMap_cons, List.filterMap_nil, if_true, if_false, reduceIte, Nat.reduceEqDiff, List.length_cons, List.length_nil, Nat.reduceAdd]
        go_wp2_with fail
        refine wpAlt_one _ _ _ _ rfl ?_
        simp only [List.filterMap_cons, List.filterMap_nil, List.getElem?_toArray, List.getElem?_cons_zero, List.getElem?_cons_succ]
        go_wp2_with fail
        refine (join10_any (some ⟨wr.heap.size, 0, none⟩) 2 2 [x, y] (fun _ => True) _ rfl kN.out hxy.out (by omega)).mono ?_
        rintro e w5 ⟨rfl, rfl⟩
        rw [hj.out]
        go_wp2_with fail
        go_wp2
        go_roundw
        case rel => exact ⟨k + 1, by omega, by go_num, by rw [← hstep.out]; exact (kRw.set_ k _).alloc _, grown_trans (grown_trans (grown_trans hgw (grown_set g k _)) (World.grownBy_alloc _ _ _)) grown_drew⟩
        case measure => simp [intOf]; omega
      · refine wpOp_list rfl ?_
        simp only [tailsOf, List.filterMap_cons, List.filterMap_nil, if_true, if_false, reduceIte, Nat.reduceEqDiff, List.length_cons, List.length_nil, Nat.reduceAdd]
        go_wp2_with fail
        intro i hi
        simp only [List.filterMap_cons, List.head?_cons, List.filterMap_nil, List.mem_cons, List.not_mem_nil, or_false, or_self] at hi
        obtain rfl | rfl : i = 1 ∨ i = 14 := by omega
        · refine wpOp_list rfl ?_
          simp only [tailsOf, List.filterMap_cons, List.filterMap_nil, if_true, if_false, reduceIte, Nat.reduceEqDiff, List.length_cons, List.length_nil, Nat.reduceAdd]
          go_wp2_with fail
          refine wpAlt_one _ _ _ _ rfl ?_
          simp only [List.filterMap_cons, List.filterMap_nil, List.getElem?_toArray, List.getElem?_cons_zero, List.getElem?_cons_succ]
          go_wp2_with fail
          refine (join10_any (some ⟨wr.heap.size, 0, none⟩) 2 2 [x, y] (fun _ => True) _ rfl kN.out hxy.out (by omega)).mono ?_
          rintro e w5 ⟨rfl, rfl⟩
          rw [hj.out]
          go_wp2_with fail
          go_wp2
          go_roundw
          case rel => exact ⟨k + 1, by omega, by go_num, by rw [← hstep.out]; exact (kRw.set_ k _).alloc _, grown_trans (grown_trans (grown_trans hgw (grown_set g k _)) (World.grownBy_alloc _ _ _)) grown_drew⟩
          case measure => simp [intOf]; omega
        · refine wpOp_list rfl ?_
          simp only [tailsOf, List.filterMap_cons, List.filterMap_nil, if_true, if_false, reduceIte, Nat.reduceEqDiff, List.length_cons, List.length_nil, Nat.reduceAdd]
          go_wp2_with fail
          refine (join10_any (some ⟨wr.heap.size, 0, none⟩) 2 2 [x, y] (fun _ => True) _ rfl kN.out hxy.out (by omega)).mono ?_
          rintro e w5 ⟨rfl, rfl⟩
          rw [hj.out]
          go_wp2_with fail
          refine wpAlt_one _ _ _ _ rfl ?_
          simp only [List.filterMap_cons, List.filterMap_nil, List.getElem?_toArray, List.getElem?_cons_zero, List.getElem?_cons_succ]
          go_wp2
          go_roundw
          case rel => exact ⟨k + 1, by omega, by go_num, by rw [← hstep.out]; exact (kRw.set_ k _).alloc _, grown_trans (grown_trans (grown_trans hgw (grown_set g k _)) (World.grownBy_alloc _ _ _)) grown_drew⟩
          case measure => simp [intOf]; omega
    · obtain rfl : k = n := by omega
      have hall := hide (rowsB_congr (n := k) (E := partE k (orE E F)) (F := orE E F) (fun a b ha hb => partE_all ha hb))
      have m2 := k2.grown hgw (by simp; omega)
      have m3 := k3.grown hgw (by simp; omega)
      have d0 := m3.cell 0
      have d1 := m3.cell 1
      have j0 := m2.cell 0
      have j1 := m2.cell 1
      simp only [List.getElem?_toArray, List.getElem?_cons_zero, List.getElem?_cons_succ] at d0 d1 j0 j1
      have jf := m2.frozen 0
      have jf1 := m2.frozen 1
      have hbF := below_grown hb5 hgw hb5.size (by intro k hk; injection hk with hk; omega)
      rw [hall.out] at kRw
      go_wp2
      have n1 : g ≠ w.heap.size + 1 + 1 := by omega
      have kF0 := ((kRw.far (p := ⟨w.heap.size + 1 + 1, 0, none⟩) n1 (.int .i64 k)).far (p := ⟨w.heap.size + 1 + 1, 1, none⟩) n1 (.slice (some ⟨g, 0, none⟩) k k))
      have hF := ((hbF.setCell (p := ⟨w.heap.size + 1 + 1, 0, none⟩) (by simp; omega) (.int .i64 k)).setCell (p := ⟨w.heap.size + 1 + 1, 1, none⟩) (by simp; omega) (.slice (some ⟨g, 0, none⟩) k k))
      exact bodyPost_ret (v := .tuple #[.agg #[.int .i64 k, .slice (some ⟨g, 0, none⟩) k k], .int .i64 0]) (by simp [results, Tryd.results40, go_sem, j0, j1]) rfl ⟨g, by omega, rfl, kF0, hF⟩
end Go.Proofs.YtfodlklpfffaaaaDoor

namespace Go.Proofs.YtfodlklpfffaaaaDoor
open Go.RowKit Go.Inq
set_option maxHeartbeats 4000000
attribute [local go_sem ↓] Go.wp_at_zero Go.wp_at_succ

def encP (p : Nat × Nat) : List Value := [.int .i64 (p.1 : Nat), .int .i64 (p.2 : Nat)]
theorem encP_one : ∀ (x : Nat × Nat), ∀ u ∈ encP x, u.oneCell' = true := by
  intro x u hu
  simp [encP] at hu
  rcases hu with rfl | rfl <;> rfl
/-- The edges that lead from the first k nodes. -/
def edgesTo (n : Nat) (E : Edges) (k : Nat) : List (Nat × Nat) := ((List.range k).map fun a => ((List.range n).filter (E a)).map fun b => (a, b)).flatten
theorem edgesTo_all (n : Nat) (E : Edges) : edgesTo n E n = edgesG n E := rfl
theorem edgesTo_step (n : Nat) (E : Edges) (k : Nat) : edgesTo n E (k + 1) = edgesTo n E k ++ ((List.range n).filter (E k)).map fun b => (k, b) := by
  unfold edgesTo
  rw [List.range_succ, List.map_append, List.flatten_append]; simp
theorem edgesTo_len (n : Nat) (E : Edges) : ∀ k, (edgesTo n E k).length ≤ k * n
  | 0 => by simp [edgesTo]
  | k + 1 => by
    have h := edgesTo_len n E k
    have h2 : ((List.range n).filter (E k)).length ≤ n := Nat.le_trans (List.length_filter_le _ _) (by simp)
    rw [edgesTo_step, List.length_append, List.length_map, Nat.add_mul]
    omega
theorem infoP12 : (Tryd.prog.info? 89).map (fun i => (i.zero, i.size, i.bytes)) = some (some (.agg #[.int .i64 0, .int .i64 0]), 2, 16) := by kernel_rfl
/-- A row of edges of the call's own. -/
def OwnP (w : World) (base : Nat) (v : Value) (l : List (Nat × Nat)) : Prop := w.ownsRow base 89 2 v l.length (l.map encP).flatten
def OutP (w : World) (l : List (Nat × Nat)) (e : Ending) (w' : World) : Prop := ∃ v, e = .returned v ∧ OwnP w' w.heap.size v l ∧ Below w.heap.size w w'
theorem OwnP.form {w : World} {base : Nat} {v : Value} {l : List (Nat × Nat)} (h : OwnP w base v l) : ∃ A c, v = .slice A l.length c := own_slice h
theorem OwnP.nil (w : World) (base : Nat) : OwnP w base (.slice none 0 0) [] := World.ownsRow_nil _ _ _ _
theorem OwnP.at_ {w : World} {base : Nat} {A : Option Addr} {m c : Nat} {l : List (Nat × Nat)} (h : OwnP w base (.slice A m c) l) {i : Nat} (hi : i < l.length) :
    ∃ b off, A = some ⟨b, off, none⟩ ∧ base ≤ b ∧ b < w.heap.size ∧ w.cell? ⟨b, off + i * 2, none⟩ = some (.int .i64 (l[i].1 : Nat)) ∧ w.cell? ⟨b, off + i * 2 + 1, none⟩ = some (.int .i64 (l[i].2 : Nat)) := by
  have hs : SlR 2 (Flat encP) w (fun b => base ≤ b ∧ b < w.heap.size) (.slice A m c) l := SlR.of_flat h rfl (fun _ => rfl) (fun g h1 h2 => ⟨h1, h2⟩)
  obtain ⟨b, off, cs, hA, hK, _, hR, hc⟩ := SlR.at_ hs hi
  unfold Flat at hR
  subst hR
  exact ⟨b, off, hA, hK.1, hK.2, hc 0 _ rfl, hc 1 _ rfl⟩
set_option maxRecDepth 100000 in
theorem edges12_any (n : Nat) (A : Option Addr) (c : Nat) (E : Edges) (K : Nat → Prop) (w : World) (h : GrS w K n A c E) (hK : ∀ b, K b → b < w.heap.size) (hT : TabB w) :
    Calls Tryd.prog 39 #[.agg #[.int .i64 n, .slice A n c]] w (OutP w (edgesG n E)) := by
  obtain ⟨ip, hip, hi1, hi2, hi3⟩ := info_parts infoP12
  obtain ⟨W0, hW0⟩ : ∃ W0, w.alloc (.cells #[.int .i64 n, .slice A n c] 51) = W0 := ⟨_, rfl⟩
  have hB := below_allocEq (Below.refl w.heap.size w) hW0 (Nat.le_refl _)
  have k0 := Blk.newEq hW0
  have hs0 := size_allocEq hW0
  have hg := hide (h.keep (Agree.below hB hK) (fun b hb => hb))
  have hKW : Hid (∀ b, K b → b < W0.heap.size) := hide fun b hb => by have := hK b hb; omega
  have hn := h.n64
  replace hK := hide hK
  replace h := hide h
  have c0 := k0.cell 0
  have c1 := k0.cell 1
  simp only [List.getElem?_toArray, List.getElem?_cons_zero, List.getElem?_cons_succ] at c0 c1
  replace hs0 := hide hs0
  go_enter Tryd.func39, Tryd.ntmps39
  go_wp2_with fail
  clear hW0 c0 c1
  refine (right12_any n A c E K _ hg.out hKW.out).mono ?_
  rintro e w1 ⟨rfl, hb1⟩
  replace hg := hide (hg.out.keep (Agree.below hb1 hKW.out) (fun b hb => hb))
  replace k0 := k0.below hb1 k0.lt
  have hbA := hB.trans (hb1.mono hB.size)
  have hz1 := hbA.size
  clear hb1 hB hKW hs0
  have c1 := k0.cell 1
  simp only [List.getElem?_toArray, List.getElem?_cons_zero, List.getElem?_cons_succ] at c1
  go_wp2_with fail
  clear c1
  go_loopw [3, 14] (fun s3 s14 wr => ∃ k : Nat, k ≤ n ∧ s14 = .int .i64 k ∧ OwnP wr w.heap.size s3 (edgesTo n E k) ∧ Below w.heap.size w wr) (fun _ s14 _ => n - (intOf s14).toNat)
  case atStart => exact ⟨0, Nat.zero_le _, by go_num, OwnP.nil _ _, hbA⟩
  case round =>
    obtain ⟨Wo, rfl⟩ : ∃ Wo, Wo = wr := ⟨_, rfl⟩
    obtain ⟨k, hk, rfl, hown, hb⟩ := hrel
    have hi1' : (0 : Int) ≤ (k : Int) := Int.natCast_nonneg _
    by_cases hlt : k < n
    · have hi2' : (k : Int) < (n : Int) := by omega
      obtain ⟨b, off, rfl, _, hc⟩ := (h.out.keep (Agree.below hb hK.out) (fun b h => h)).at_ hlt
      have hT2 := hT.below hb
      have h64 := hide (setB_64 (p := E k) hn)
      have hst := hide (edgesTo_step n E k)
      have hlm := hide (edgesTo_len n E k)
      have hkn := hide (show k * n ≤ 64 * 64 from Nat.mul_le_mul (by omega) hn)
      have hszr := hb.size
      go_wp2_with fail
      refine (list10_any _ h64.out _ hT2).mono ?_
      rintro e wl ⟨v, rfl, hl, hbl⟩
      rw [listB_setB hn] at hl
      have hLn : ((List.range n).filter (E k)).length ≤ n := Nat.le_trans (List.length_filter_le _ _) (by simp)
      generalize (List.range n).filter (E k) = L at *
      obtain ⟨Al, cl, hv⟩ := hl.form
      rw [intsN_len] at hv
      subst hv
      have hbl2 := hb.trans (hbl.mono hszr)
      have hszl := hbl.size
      have hLS := hide (hl.sl (K := fun b => Wo.heap.size ≤ b ∧ b < wl.heap.size) (fun g h1 h2 => ⟨h1, h2⟩))
      obtain ⟨As, cs, rfl⟩ := hown.form
      have hown2 : OwnP wl w.heap.size _ (edgesTo n E k) := own_below hown hbl (Nat.le_refl _)
      have hlt2 := hide (fun g (hg : (Value.slice As (edgesTo n E k).length cs).ownBlock = some g) => (hown.lt g hg).2)
      clear hl hbl hb hown hc hT2
      go_wp2_with fail
      go_loopw [3, 22] (fun s3 s22 wq => ∃ j : Nat, j ≤ L.length ∧ s22 = .int .i64 j ∧ OwnP wq w.heap.size s3 (edgesTo n E k ++ (L.take j).map fun b => (k, b)) ∧ Below w.heap.size w wq ∧ Agree (fun b => Wo.heap.size ≤ b ∧ b < wl.heap.size) wl wq ∧ wl.heap.size ≤ wq.heap.size ∧ Hid (∀ g, s3.ownBlock = some g → g < Wo.heap.size ∨ wl.heap.size ≤ g)) (fun _ s22 _ => L.length - (intOf s22).toNat)
      case atStart => exact ⟨0, Nat.zero_le _, by go_num, by simpa using hown2, hbl2, Agree.refl _ _, Nat.le_refl _, hide fun g hg => .inl (hlt2.out g hg)⟩
      case round =>
        clear hown2 hbl2 hlt2
        obtain ⟨j, hj, rfl, hown, hb, hag, hszq, hfar⟩ := hrel
        have hj1 : (0 : Int) ≤ (j : Int) := Int.natCast_nonneg _
        by_cases hjl : j < L.length
        · have hj2 : (j : Int) < (L.length : Int) := by omega
          obtain ⟨bl, ol, rfl, _, hcl⟩ := (hLS.out.keep hag (fun b h => h)).at_ (i := j) (by rw [intsN_len]; exact hjl)
          rw [intsN_at hjl] at hcl
          have htk := hide (take_snoc' hjl)
          have hsz2 := hb.size
          have hlen : ((edgesTo n E k ++ (L.take j).map fun b => (k, b))).length ≤ 5000 := by
            have h1 := hlm.out
            have h2 := hkn.out
            rw [List.length_append, List.length_map, List.length_take]
            omega
          obtain ⟨Av, cv, rfl⟩ := hown.form
          generalize hM : (edgesTo n E k ++ (L.take j).map fun b => (k, b)) = M at *
          have hM2 : Hid (edgesTo n E k ++ (L.take (j + 1)).map (fun b => (k, b)) = M ++ [(k, L[j])]) := hide (by rw [htk.out, List.map_append, ← List.append_assoc, hM]; rfl)
          generalize L[j] = y at *
          clear hM htk hlm hkn
          replace hown := hide hown
          go_wp2_with (at_builtin; refine wpList_push (enc := encP) rfl (.tmp 26) (.tmp 30) 86 rfl w.heap.size 89 ip _ 2 16 Tryd.underlying86 hip hi1 hi2 hi3 rfl (by decide) (.slice Av M.length cv) M rfl hown.out (fun _ => rfl) (k, y) _ rfl rfl encP_one (by simp [maxLen]; omega) (by omega) hsz2 w w.heap.size (Nat.le_refl _) hb ?_; intro v1 w5 hown1 hg1 hb1 hat1)
          have hag2 : Agree (fun b => Wo.heap.size ≤ b ∧ b < wl.heap.size) wl w5 := (hag.trans (Agree.alloc (fun b hb => by omega) _)).trans (Agree.grown hg1 fun b hb => ⟨by simp; omega, fun e => by have := hfar.out b e.symm; omega⟩)
          have hsz5 := hg1.size
          simp only [World.size_alloc] at hsz5
          go_wp2
          go_roundw
          case rel => exact ⟨j + 1, by omega, by go_num, by rw [hM2.out]; exact hown1, hb1, hag2, by omega, hide fun g hg => by
            rcases hat1 with e | e
            · rw [e] at hg; exact hfar.out g hg
            · rw [e] at hg; injection hg with hg; omega⟩
          case measure => simp [intOf]; omega
        · obtain rfl : j = L.length := by omega
          have hM : edgesTo n E k ++ (L.take L.length).map (fun b => (k, b)) = edgesTo n E (k + 1) := by rw [List.take_length, hst.out]
          rw [hM] at hown
          go_wp2
          go_roundw
          case rel => exact ⟨k + 1, by omega, by go_num, hown, hb⟩
          case measure => simp [intOf]; omega
    · obtain rfl : k = n := by omega
      go_wp2
      go_ret
      exact ⟨_, rfl, hown, hb⟩
end Go.Proofs.YtfodlklpfffaaaaDoor

namespace Go.Proofs.YtfodlklpfffaaaaDoor
open Go.RowKit Go.Inq
set_option maxHeartbeats 4000000
attribute [local go_sem ↓] Go.wp_at_zero Go.wp_at_succ

theorem turn_step (l : List (Nat × Nat)) (a b : Nat) : turnE (ofL (l ++ [(a, b)])) = orE (turnE (ofL l)) (oneE b a) := by
  rw [ofL_snoc]
  funext x y
  simp [turnE, orE, oneE, Bool.and_comm]
theorem turn_nil : turnE (ofL []) = noE := by funext x y; simp [turnE, ofL, noE]
theorem turn_all {n : Nat} {E : Edges} {a b : Nat} (ha : a < n) (hb : b < n) : turnE (ofL (edgesG n E)) a b = turnE E a b := by
  unfold turnE ofL
  rw [Bool.eq_iff_iff, List.contains_iff_mem, edgesG_mem]
  exact ⟨fun h => h.2.2, fun h => ⟨hb, ha, h⟩⟩
set_option maxRecDepth 100000 in
theorem turn12_any (n : Nat) (A : Option Addr) (c : Nat) (E : Edges) (K : Nat → Prop) (w : World) (h : GrS w K n A c E) (hK : ∀ b, K b → b < w.heap.size) (hT : TabB w) :
    Calls Tryd.prog 20 #[.agg #[.int .i64 n, .slice A n c]] w (OutG w n (turnE E)) := by
  obtain ⟨W0, hW0⟩ : ∃ W0, (w.alloc (.cells #[.int .i64 n, .slice A n c] 51)).alloc (.cells #[.int .i64 0, .slice none 0 0] 51) = W0 := ⟨_, rfl⟩
  have sW := size_two hW0
  have hB := below_two hW0
  have k0 := Blk.two1 hW0
  have k1 := Blk.two2 hW0
  have hg := hide (h.keep (Agree.below hB hK) (fun b hb => hb))
  have hKW : Hid (∀ b, K b → b < W0.heap.size) := hide fun b hb => by have := hK b hb; omega
  have hn := h.n64
  have hs0 : Hid (W0.heap.size = w.heap.size + 2) := hide (by omega)
  replace hK := hide hK
  clear h sW
  have c0 := k0.cell 0
  have c1 := k0.cell 1
  simp only [List.getElem?_toArray, List.getElem?_cons_zero, List.getElem?_cons_succ] at c0 c1
  go_enter Tryd.func20, Tryd.ntmps20
  go_wp2_with fail
  clear hW0 c0 c1
  refine (right12_any n A c E K _ hg.out hKW.out).mono ?_
  rintro e w1 ⟨rfl, hb1⟩
  have hs1 : w.heap.size + 2 ≤ w1.heap.size := by have := hb1.size; have := hs0.out; omega
  replace hg := hide (hg.out.keep (Agree.below hb1 hKW.out) (fun b hb => hb))
  replace k0 := k0.below hb1 k0.lt
  replace k1 := k1.below hb1 k1.lt
  have hb2 := hB.trans (hb1.mono hB.size)
  clear hb1 hB hKW hs0
  have c0 := k0.cell 0
  simp only [List.getElem?_toArray, List.getElem?_cons_zero, List.getElem?_cons_succ] at c0
  go_wp2_with fail
  refine (new12_any n hn _).mono ?_
  rintro e w2 ⟨g, hgs, rfl, kR, hb3⟩
  have hK1 : ∀ b, K b → b < w1.heap.size := fun b hb => by have := hK.out b hb; omega
  replace hg := hide (hg.out.keep (Agree.below hb3 hK1) (fun b hb => hb))
  replace k0 := k0.below hb3 k0.lt
  replace k1 := k1.below hb3 k1.lt
  replace hb2 := hb2.trans (hb3.mono hb2.size)
  have hs2 : w1.heap.size ≤ w2.heap.size := hb3.size
  have hgl := kR.lt
  clear hb3 hK1 c0
  obtain ⟨W3, hW3⟩ : ∃ W3, w2.alloc (.cells #[.int .i64 n, .slice (some ⟨g, 0, none⟩) n n] 51) = W3 := ⟨_, rfl⟩
  have k3 := Blk.newEq hW3
  have hs3 := size_allocEq hW3
  replace k0 := k0.allocEq hW3
  replace k1 := k1.allocEq hW3
  replace kR := kR.allocEq hW3
  have hb5 := below_allocEq hb2 hW3 (by omega)
  have hKw : ∀ b, K b → b < w2.heap.size := fun b hb => by have := hK.out b hb; omega
  replace hg := hide (hg.out.keep (Agree.allocEq hW3 hKw) (fun b hb => hb))
  have hKx : Hid (∀ b, K b → b < W3.heap.size) := hide fun b hb => by have := hK.out b hb; omega
  have hT3 := hT.below hb5
  replace hs3 := hide hs3
  clear hb2 hKw
  have c0 := k0.cell 0
  have c1 := k0.cell 1
  simp only [List.getElem?_toArray, List.getElem?_cons_zero, List.getElem?_cons_succ] at c0 c1
  go_wp2_with fail
  refine (edges12_any n A c E K _ hg.out hKx.out hT3).mono ?_
  rintro e w4 ⟨v, rfl, hM, hb4⟩
  have hMl : (edgesG n E).length ≤ 64 * 64 := Nat.le_trans (edgesTo_len n E n) (Nat.mul_le_mul hn hn)
  have hMm := hide (fun x (hx : x ∈ edgesG n E) => (edgesG_mem (a := x.1) (b := x.2)).1 hx)
  have hall := hide (rowsB_congr (n := n) (E := turnE (ofL (edgesG n E))) (F := turnE E) (fun a b ha hb => turn_all ha hb))
  generalize edgesG n E = M at *
  replace k1 := k1.below hb4 k1.lt
  replace k3 := k3.below hb4 k3.lt
  replace kR := kR.below hb4 kR.lt
  have hgW : g < W3.heap.size := by have := hs3.out; omega
  have hg2 : w2.heap.size < W3.heap.size := by have := hs3.out; omega
  have hz4 := hb4.size
  have hb6 := hb5.trans (hb4.mono hb5.size)
  obtain ⟨Av, cv, rfl⟩ := hM.form
  replace hM := hide hM
  clear hb4 hb5 hT3 c0 c1 hKx hg hW3 k0
  go_wp2_with fail
  have hz := hide turn_nil
  go_loopw [21] (fun s21 wr => ∃ k : Nat, k ≤ M.length ∧ s21 = .int .i64 k ∧ Blk wr g 75 (rowsB n (turnE (ofL (M.take k)))) ∧ w4.grownBy wr (some g)) (fun s21 _ => M.length - (intOf s21).toNat)
  case atStart => exact ⟨0, Nat.zero_le _, by go_num, by rw [List.take_zero, hz.out]; exact kR, World.grownBy.refl _ _⟩
  case round =>
    obtain ⟨k, hk, rfl, kRw, hgw⟩ := hrel
    have hi1 : (0 : Int) ≤ (k : Int) := Int.natCast_nonneg _
    have hszw := hgw.size
    have m3 := k3.grown hgw (by simp; omega)
    by_cases hlt : k < M.length
    · have hi2 : (k : Int) < (M.length : Int) := by omega
      obtain ⟨eb, eo, rfl, hE1, hE2, x0, x1⟩ := hM.out.at_ hlt
      replace x0 := hgw.cell x0 (by simp; omega)
      replace x1 := hgw.cell x1 (by simp; omega)
      have htk := hide (take_snoc' hlt)
      obtain ⟨ha, hb, _⟩ := hMm.out _ (List.getElem_mem hlt)
      generalize M[k] = p at *
      obtain ⟨a, b⟩ := p
      dsimp only at *
      have hstep := hide (rowsB_add (E := turnE (ofL (M.take k))) hb ha hn)
      have hto := hide (turn_step (M.take k) a b)
      have h64 := hide (setB_64 (p := turnE (ofL (M.take k)) b) hn)
      have m3a := m3.alloc (.cells #[.int .i64 a, .int .i64 b] 89)
      have kRa := kRw.alloc (.cells #[.int .i64 a, .int .i64 b] 89)
      have d1 := m3a.cell 1
      have r0 := kRa.cell b
      rw [rowsB_at hb] at r0
      have f0 := kRa.frozen b
      simp only [List.getElem?_toArray, List.getElem?_cons_zero, List.getElem?_cons_succ] at d1
      have hj1 : (0 : Int) ≤ (b : Int) := Int.natCast_nonneg _
      have hj2 : (b : Int) < (n : Int) := by omega
      have hglw := kRw.lt
      have hgb := grown_trans hgw (World.grownBy_alloc wr (.cells #[.int .i64 a, .int .i64 b] 89) (some g))
      have kE := Blk.new wr 89 #[.int .i64 a, .int .i64 b]
      have y0 := kE.cell 0
      have y1 := kE.cell 1
      simp only [List.getElem?_toArray, List.getElem?_cons_zero, List.getElem?_cons_succ] at y0 y1
      go_wp2_with fail
      generalize wr.alloc (.cells #[.int .i64 a, .int .i64 b] 89) = Wb at *
      refine wp_region_still_tail 14 (by kernel_rfl) (by kernel_rfl) ?_
      simp only [List.take_succ_cons, List.take_zero, List.drop_succ_cons, List.drop_zero]
      repeat still_step
      still_call ((with10_any _ h64.out a _).mono fun _ _ h => ⟨h.1, h.2.symm⟩)
      repeat still_step
      refine wpStill_nil ?_
      change wpList _ _ _ _ _ Wb.drew
      go_wp2
      go_roundw
      case rel => exact ⟨k + 1, by omega, by go_num, by rw [htk.out, hto.out, ← hstep.out]; exact kRa.set_ b _, grown_trans (grown_trans hgb (grown_set g b _)) grown_drew⟩
      case measure => simp [intOf]; omega
    · obtain rfl : k = M.length := by omega
      rw [List.take_length, hall.out] at kRw
      have m2 := k1.grown hgw (by simp; omega)
      have d0 := m3.cell 0
      have d1 := m3.cell 1
      have j0 := m2.cell 0
      have j1 := m2.cell 1
      simp only [List.getElem?_toArray, List.getElem?_cons_zero, List.getElem?_cons_succ] at d0 d1 j0 j1
      have jf := m2.frozen 0
      have jf1 := m2.frozen 1
      have hbF := below_grown hb6 hgw hb6.size (by intro k hk; injection hk with hk; omega)
      go_wp2
      have n1 : g ≠ w.heap.size + 1 := by omega
      have kF0 := ((kRw.far (p := ⟨w.heap.size + 1, 0, none⟩) n1 (.int .i64 n)).far (p := ⟨w.heap.size + 1, 1, none⟩) n1 (.slice (some ⟨g, 0, none⟩) n n))
      have hF := ((hbF.setCell (p := ⟨w.heap.size + 1, 0, none⟩) (by simp) (.int .i64 n)).setCell (p := ⟨w.heap.size + 1, 1, none⟩) (by simp) (.slice (some ⟨g, 0, none⟩) n n))
      exact bodyPost_ret (v := .tuple #[.agg #[.int .i64 n, .slice (some ⟨g, 0, none⟩) n n], .int .i64 0]) (by simp [results, Tryd.results20, go_sem, j0, j1]) rfl ⟨g, by omega, rfl, kF0, hF⟩
end Go.Proofs.YtfodlklpfffaaaaDoor

namespace Go.Proofs.YtfodlklpfffaaaaDoor
open Go.RowKit Go.Inq
set_option maxHeartbeats 4000000
attribute [local go_sem ↓] Go.wp_at_zero Go.wp_at_succ

/-- The rows below k done, row k as far as some nodes. -/
def midE (n : Nat) (E F : Edges) (k : Nat) (l : List Nat) : Edges := fun a c => (decide (a < k) && thenE n E F a c) || (decide (a = k) && l.any fun b => F b c)
theorem midE_start (n : Nat) (E F : Edges) : midE n E F 0 [] = noE := by funext a c; simp [midE, noE]
theorem midE_step {n : Nat} {E F : Edges} {k y : Nat} {l : List Nat} (hk : k < n) : (rowsB n (midE n E F k l)).setIfInBounds k (.int .u64 (setB (midE n E F k l k) n ||| setB (F y) n : Nat)) = rowsB n (midE n E F k (l ++ [y])) := by
  rw [rowsB_set hk (setB_or (p := midE n E F k l k) (q := F y) (n := n))]
  refine rowsB_congr fun a b ha hb => ?_
  by_cases e : a = k
  · subst e; simp [midE]
  · simp [midE, e]
theorem midE_next {n : Nat} {E F : Edges} {k : Nat} : rowsB n (midE n E F k ((List.range n).filter (E k))) = rowsB n (midE n E F (k + 1) []) := by
  refine rowsB_congr fun a b ha hb => ?_
  unfold midE thenE
  by_cases e : a = k
  · subst e
    simp only [Nat.lt_irrefl, decide_false, Bool.false_and, Bool.false_or, decide_true, Bool.true_and, List.any_nil, Bool.and_false, Bool.or_false, Nat.lt_succ_self]
    rw [List.any_filter]
  · have : decide (a < k + 1) = decide (a < k) := by simp; omega
    simp [e, this]
theorem midE_all {n : Nat} {E F : Edges} : rowsB n (midE n E F n []) = rowsB n (thenE n E F) := rowsB_congr fun a b ha hb => by simp [midE, ha]
set_option maxRecDepth 100000 in
theorem comp12_any (n : Nat) (A A' : Option Addr) (c c' : Nat) (E F : Edges) (K : Nat → Prop) (w : World) (h : GrS w K n A c E) (h' : GrS w K n A' c' F) (hK : ∀ b, K b → b < w.heap.size) (hT : TabB w) :
    Calls Tryd.prog 28 #[.agg #[.int .i64 n, .slice A n c], .agg #[.int .i64 n, .slice A' n c']] w (OutG w n (thenE n E F)) := by
  obtain ⟨W0, hW0⟩ : ∃ W0, ((w.alloc (.cells #[.int .i64 n, .slice A n c] 51)).alloc (.cells #[.int .i64 n, .slice A' n c'] 51)).alloc (.cells #[.int .i64 0, .slice none 0 0] 51) = W0 := ⟨_, rfl⟩
  have hB := below_three hW0
  have hs0 := size_three hW0
  have k0 := Blk.three1 hW0
  have k1 := Blk.three2 hW0
  have k2 := Blk.three3 hW0
  have hg := hide (h.keep (Agree.below hB hK) (fun b hb => hb))
  have hg' := hide (h'.keep (Agree.below hB hK) (fun b hb => hb))
  have hn := h.n64
  replace hK := hide hK
  have hKW : Hid (∀ b, K b → b < W0.heap.size) := hide fun b hb => by have := hK.out b hb; omega
  clear h h'
  replace hs0 := hide hs0
  have c0 := k0.cell 0
  have c1 := k0.cell 1
  have e0 := k1.cell 0
  have e1 := k1.cell 1
  simp only [List.getElem?_toArray, List.getElem?_cons_zero, List.getElem?_cons_succ] at c0 c1 e0 e1
  go_enter Tryd.func28, Tryd.ntmps28
  go_wp2_with fail
  clear hW0 c0 c1 e0 e1
  refine (like12_any n A A' c c' E F K _ hg.out hg'.out hKW.out).mono ?_
  rintro e w1 ⟨rfl, hb1⟩
  have hs1 : w.heap.size + 3 ≤ w1.heap.size := by have := hb1.size; have := hs0.out; omega
  have hga := hide (hg.out.keep (Agree.below hb1 hKW.out) (fun b hb => hb))
  have hgb := hide (hg'.out.keep (Agree.below hb1 hKW.out) (fun b hb => hb))
  replace k0 := k0.below hb1 k0.lt
  replace k1 := k1.below hb1 k1.lt
  replace k2 := k2.below hb1 k2.lt
  have hb2 := hB.trans (hb1.mono hB.size)
  clear hg hg' hb1 hB hKW hs0
  have c0 := k0.cell 0
  simp only [List.getElem?_toArray, List.getElem?_cons_zero, List.getElem?_cons_succ] at c0
  go_wp2_with fail
  refine (new12_any n hn _).mono ?_
  rintro e w2 ⟨g, hgs, rfl, kR, hb3⟩
  have hK1 : ∀ b, K b → b < w1.heap.size := fun b hb => by have := hK.out b hb; omega
  replace hga := hide (hga.out.keep (Agree.below hb3 hK1) (fun b hb => hb))
  replace hgb := hide (hgb.out.keep (Agree.below hb3 hK1) (fun b hb => hb))
  replace k0 := k0.below hb3 k0.lt
  replace k1 := k1.below hb3 k1.lt
  replace k2 := k2.below hb3 k2.lt
  replace hb2 := hb2.trans (hb3.mono hb2.size)
  have hs2 : w1.heap.size ≤ w2.heap.size := hb3.size
  have hgl := kR.lt
  clear hb3 hK1 c0
  obtain ⟨W3, hW3⟩ : ∃ W3, w2.alloc (.cells #[.int .i64 n, .slice (some ⟨g, 0, none⟩) n n] 51) = W3 := ⟨_, rfl⟩
  have k3 := Blk.newEq hW3
  have hs3 := size_allocEq hW3
  replace k0 := k0.allocEq hW3
  replace k1 := k1.allocEq hW3
  replace k2 := k2.allocEq hW3
  replace kR := kR.allocEq hW3
  have hb5 := below_allocEq hb2 hW3 (by omega)
  have hKw : ∀ b, K b → b < w2.heap.size := fun b hb => by have := hK.out b hb; omega
  replace hga := hide (hga.out.keep (Agree.allocEq hW3 hKw) (fun b hb => hb))
  replace hgb := hide (hgb.out.keep (Agree.allocEq hW3 hKw) (fun b hb => hb))
  have hgL : g ≤ W3.heap.size := by omega
  have hg2 : w2.heap.size < W3.heap.size := by omega
  have hKg : Hid (∀ b, K b → b < g) := hide fun b hb => by have := hK.out b hb; omega
  have hT3 := hide (hT.below hb5)
  have hgl3 : 0 < w.heap.size := hT.lt
  replace hs3 := hide hs3
  clear hb2 hKw
  have d1 := k3.cell 1
  simp only [List.getElem?_toArray, List.getElem?_cons_zero, List.getElem?_cons_succ] at d1
  go_wp2_with fail
  clear d1
  have hz := hide (midE_start n E F)
  go_loopw [25] (fun s25 wr => ∃ k : Nat, k ≤ n ∧ s25 = .int .i64 k ∧ Blk wr g 75 (rowsB n (midE n E F k [])) ∧ W3.grownBy wr (some g)) (fun s25 _ => n - (intOf s25).toNat)
  case atStart => exact ⟨0, Nat.zero_le _, by go_num, by rw [hz.out]; exact kR, World.grownBy.refl _ _⟩
  case round =>
    obtain ⟨Wo, rfl⟩ : ∃ Wo, Wo = wr := ⟨_, rfl⟩
    obtain ⟨k, hk, rfl, kRw, hgw⟩ := hrel
    have hi1 : (0 : Int) ≤ (k : Int) := Int.natCast_nonneg _
    have hszw := hgw.size
    by_cases hlt : k < n
    · have hi2 : (k : Int) < (n : Int) := by omega
      have m0 := k0.grown hgw (by simp; omega)
      obtain ⟨ab, ao, rfl, _, hca⟩ := (hga.out.keep (Agree.ofGrown hgw hKg.out hgL) (fun b hb => hb)).at_ hlt
      have h64a := hide (setB_64 (p := E k) hn)
      have hbw := below_grown hb5 hgw hb5.size (by intro k hk; injection hk with hk; omega)
      have hTw := hT.below hbw
      have c1 := m0.cell 1
      simp only [List.getElem?_toArray, List.getElem?_cons_zero, List.getElem?_cons_succ] at c1
      go_wp2_with fail
      refine (list10_any _ h64a.out _ hTw).mono ?_
      rintro e wl ⟨v, rfl, hl, hbl⟩
      rw [listB_setB hn] at hl
      have hnx := hide (midE_next (n := n) (E := E) (F := F) (k := k))
      have hLn : ((List.range n).filter (E k)).length ≤ n := Nat.le_trans (List.length_filter_le _ _) (by simp)
      have hLm := hide (fun b (hb : b ∈ (List.range n).filter (E k)) => (List.mem_range.1 (List.mem_filter.1 hb).1 : b < n))
      generalize (List.range n).filter (E k) = L at *
      obtain ⟨Al, cl, hv⟩ := hl.form
      rw [intsN_len] at hv
      subst hv
      have hglw := kRw.lt
      have hszl := hbl.size
      have hLS := hide (hl.sl (K := fun b => g < b ∧ b < wl.heap.size) (fun b h1 h2 => ⟨by omega, h2⟩))
      have hgl5 := grown_trans hgw (grown_below hbl (Nat.le_refl _))
      have kRl := kRw.below hbl kRw.lt
      clear hl hbl hbw hTw kRw hgw c1 m0 hca h64a
      go_wp2_with fail
      go_loopw [35] (fun s35 wq => ∃ j : Nat, j ≤ L.length ∧ s35 = .int .i64 j ∧ Blk wq g 75 (rowsB n (midE n E F k (L.take j))) ∧ wl.grownBy wq (some g)) (fun s35 _ => L.length - (intOf s35).toNat)
      case atStart => exact ⟨0, Nat.zero_le _, by go_num, by simpa using kRl, World.grownBy.refl _ _⟩
      case round =>
        clear kRl
        obtain ⟨j, hj, rfl, kRw, hgw⟩ := hrel
        have hj1 : (0 : Int) ≤ (j : Int) := Int.natCast_nonneg _
        have hszq := hgw.size
        by_cases hjl : j < L.length
        · have hj2 : (j : Int) < (L.length : Int) := by omega
          obtain ⟨bl, ol, rfl, _, hcl⟩ := (hLS.out.keep (Agree.grown hgw fun b hb => ⟨hb.2, by simp; omega⟩) (fun b h => h)).at_ (i := j) (by rw [intsN_len]; exact hjl)
          rw [intsN_at hjl] at hcl
          have htk := hide (take_snoc' hjl)
          have hbn := hLm.out _ (List.getElem_mem hjl)
          generalize L[j] = b at *
          have hstep := hide (midE_step (n := n) (E := E) (F := F) (k := k) (y := b) (l := L.take j) hlt)
          have hgq := grown_trans hgl5 hgw
          have m1 := k1.grown hgq (by simp; omega)
          have m3 := k3.grown hgq (by simp; omega)
          obtain ⟨bb, bo, rfl, _, hcb⟩ := (hgb.out.keep (Agree.ofGrown hgq hKg.out hgL) (fun b hb => hb)).at_ hbn
          have h64a := hide (setB_64 (p := midE n E F k (L.take j) k) hn)
          have h64b := hide (setB_64 (p := F b) hn)
          have hj := hide (joinL_two (setB (midE n E F k (L.take j) k) n) (setB (F b) n))
          have e1 := m1.cell 1
          have d1 := m3.cell 1
          have f0 := kRw.frozen k
          have r0 := kRw.cell k
          rw [rowsB_at hlt] at r0
          generalize setB (midE n E F k (L.take j) k) n = x at *
          generalize setB (F b) n = y at *
          have d1n := (m3.alloc (.cells #[.int .u64 (x : Nat), .int .u64 (y : Nat)] 75)).cell 1
          simp only [List.getElem?_toArray, List.getElem?_cons_zero, List.getElem?_cons_succ] at e1 d1 d1n
          have hb1 : (0 : Int) ≤ (b : Int) := Int.natCast_nonneg _
          have hb2 : (b : Int) < (n : Int) := by omega
          have hglq := kRw.lt
          clear m1 m3 hgq
          go_wp2_with fail
          refine wp_region_alts [0, 2, 3, 4, 5, 6, 7, 8, 9, 10, 11, 12] [1, 13, 14, 15, 16] [[1, 13, 14, 15, 16], [13, 1, 14, 15, 16], [13, 14, 1, 15, 16]] (by kernel_rfl) (by kernel_rfl) (fun _ _ d _ _ h => by cases d <;> exact h) ?_
          simp only [List.filterMap_cons, List.filterMap_nil, List.getElem?_cons_zero, List.getElem?_cons_succ]
          repeat still_step
          refine wpStill_nil ?_
          have kN := hide (U64S.of_blk (l := [x, y]) (K := fun _ => True) ((Blk.new wr 75 #[.int .u64 (x : Nat), .int .u64 (y : Nat)]).drew) trivial)
          have hxy := hide (show ∀ z ∈ [x, y], z < 18446744073709551616 from by intro z hz; simp at hz; rcases hz with rfl | rfl; exact h64a.out; exact h64b.out)
          clear h64a h64b
          intro i hi
          simp only [List.filterMap_cons, List.head?_cons, List.filterMap_nil, List.mem_cons, List.not_mem_nil, or_false, or_self] at hi
          obtain rfl | rfl : i = 1 ∨ i = 13 := by omega
          · refine wpOp_list rfl ?_
            simp only [tailsOf, List.filterMap_cons, List.filterMap_nil, if_true, if_false, reduceIte, Nat.reduceEqDiff, List.length_cons, List.length_nil, Nat.reduceAdd]
            go_wp2_with fail
            refine wpAlt_one _ _ _ _ rfl ?_
            simp only [List.filterMap_cons, List.filterMap_nil, List.getElem?_toArray, List.getElem?_cons_zero, List.getElem?_cons_succ]
            go_wp2_with fail
            refine (join10_any (some ⟨wr.heap.size, 0, none⟩) 2 2 [x, y] (fun _ => True) _ rfl kN.out hxy.out (by omega)).mono ?_
            rintro e w5 ⟨rfl, rfl⟩
            rw [hj.out]
            go_wp2_with fail
            go_wp2
            go_roundw
            case rel => exact ⟨j + 1, by omega, by go_num, by rw [htk.out, ← hstep.out]; exact (kRw.set_ k _).alloc _, grown_trans (grown_trans (grown_trans hgw (grown_set g k _)) (World.grownBy_alloc _ _ _)) grown_drew⟩
            case measure => simp [intOf]; omega
          · refine wpOp_list rfl ?_
            simp only [tailsOf, List.filterMap_cons, List.filterMap_nil, if_true, if_false, reduceIte, Nat.reduceEqDiff, List.length_cons, List.length_nil, Nat.reduceAdd]
            go_wp2_with fail
            intro i hi
            simp only [List.filterMap_cons, List.head?_cons, List.filterMap_nil, List.mem_cons, List.not_mem_nil, or_false, or_self] at hi
            obtain rfl | rfl : i = 1 ∨ i = 14 := by omega
            · refine wpOp_list rfl ?_
              simp only [tailsOf, List.filterMap_cons, List.filterMap_nil, if_true, if_false, reduceIte, Nat.reduceEqDiff, List.length_cons, List.length_nil, Nat.reduceAdd]
              go_wp2_with fail
              refine wpAlt_one _ _ _ _ rfl ?_
              simp only [List.filterMap_cons, List.filterMap_nil, List.getElem?_toArray, List.getElem?_cons_zero, List.getElem?_cons_succ]
              go_wp2_with fail
              refine (join10_any (some ⟨wr.heap.size, 0, none⟩) 2 2 [x, y] (fun _ => True) _ rfl kN.out hxy.out (by omega)).mono ?_
              rintro e w5 ⟨rfl, rfl⟩
              rw [hj.out]
              go_wp2_with fail
              go_wp2
              go_roundw
              case rel => exact ⟨j + 1, by omega, by go_num, by rw [htk.out, ← hstep.out]; exact (kRw.set_ k _).alloc _, grown_trans (grown_trans (grown_trans hgw (grown_set g k _)) (World.grownBy_alloc _ _ _)) grown_drew⟩
              case measure => simp [intOf]; omega
            · refine wpOp_list rfl ?_
              simp only [tailsOf, List.filterMap_cons, List.filterMap_nil, if_true, if_false, reduceIte, Nat.reduceEqDiff, List.length_cons, List.length_nil, Nat.reduceAdd]
              go_wp2_with fail
              refine (join10_any (some ⟨wr.heap.size, 0, none⟩) 2 2 [x, y] (fun _ => True) _ rfl kN.out hxy.out (by omega)).mono ?_
              rintro e w5 ⟨rfl, rfl⟩
              rw [hj.out]
              go_wp2_with fail
              refine wpAlt_one _ _ _ _ rfl ?_
              simp only [List.filterMap_cons, List.filterMap_nil, List.getElem?_toArray, List.getElem?_cons_zero, List.getElem?_cons_succ]
              go_wp2
              go_roundw
              case rel => exact ⟨j + 1, by omega, by go_num, by rw [htk.out, ← hstep.out]; exact (kRw.set_ k _).alloc _, grown_trans (grown_trans (grown_trans hgw (grown_set g k _)) (World.grownBy_alloc _ _ _)) grown_drew⟩
              case measure => simp [intOf]; omega
        · obtain rfl : j = L.length := by omega
          rw [List.take_length, hnx.out] at kRw
          go_wp2
          go_roundw
          case rel => exact ⟨k + 1, by omega, by go_num, kRw, grown_trans hgl5 hgw⟩
          case measure => simp [intOf]; omega
    · obtain rfl : k = n := by omega
      have hall := hide (midE_all (n := k) (E := E) (F := F))
      have m2 := k2.grown hgw (by simp; omega)
      have m3 := k3.grown hgw (by simp; omega)
      have d0 := m3.cell 0
      have d1 := m3.cell 1
      have j0 := m2.cell 0
      have j1 := m2.cell 1
      simp only [List.getElem?_toArray, List.getElem?_cons_zero, List.getElem?_cons_succ] at d0 d1 j0 j1
      have jf := m2.frozen 0
      have jf1 := m2.frozen 1
      have hbF := below_grown hb5 hgw hb5.size (by intro k hk; injection hk with hk; omega)
      rw [hall.out] at kRw
      go_wp2
      have n1 : g ≠ w.heap.size + 1 + 1 := by omega
      have kF0 := ((kRw.far (p := ⟨w.heap.size + 1 + 1, 0, none⟩) n1 (.int .i64 k)).far (p := ⟨w.heap.size + 1 + 1, 1, none⟩) n1 (.slice (some ⟨g, 0, none⟩) k k))
      have hF := ((hbF.setCell (p := ⟨w.heap.size + 1 + 1, 0, none⟩) (by simp; omega) (.int .i64 k)).setCell (p := ⟨w.heap.size + 1 + 1, 1, none⟩) (by simp; omega) (.slice (some ⟨g, 0, none⟩) k k))
      exact bodyPost_ret (v := .tuple #[.agg #[.int .i64 k, .slice (some ⟨g, 0, none⟩) k k], .int .i64 0]) (by simp [results, Tryd.results28, go_sem, j0, j1]) rfl ⟨g, by omega, rfl, kF0, hF⟩
end Go.Proofs.YtfodlklpfffaaaaDoor

namespace Go.Proofs.YtfodlklpfffaaaaDoor
open Go.RowKit Go.Inq
set_option maxHeartbeats 4000000
attribute [local go_sem ↓] Go.wp_at_zero Go.wp_at_succ

/-- A variable that holds a graph, whose rows are a block of the call's own. -/
def BoxG (W : World) (Bg base n : Nat) (E : Edges) : Prop :=
  ∃ g, base ≤ g ∧ Blk W Bg 51 #[.int .i64 n, .slice (some ⟨g, 0, none⟩) n n] ∧ Blk W g 75 (rowsB n E)
theorem BoxG.congr {W : World} {Bg base n : Nat} {E F : Edges} (h : BoxG W Bg base n E) (hE : ∀ a b, a < n → b < n → E a b = F a b) : BoxG W Bg base n F := by
  obtain ⟨g, h1, h2, h3⟩ := h
  exact ⟨g, h1, h2, by rw [← rowsB_congr hE]; exact h3⟩
theorem BoxG.grown {W W' : World} {Bg base n : Nat} {E : Edges} {r : Option Nat} (h : BoxG W Bg base n E) (hg : W.grownBy W' r) (hr : ∀ k, r = some k → k ≠ Bg ∧ k < base) : BoxG W' Bg base n E := by
  obtain ⟨g, h1, h2, h3⟩ := h
  exact ⟨g, h1, h2.grown hg (fun e => (hr Bg e.symm).1 rfl), h3.grown hg (fun e => by have := (hr g e.symm).2; omega)⟩
theorem BoxG.below {W W' : World} {Bg base n : Nat} {E : Edges} (h : BoxG W Bg base n E) (hb : Below W.heap.size W W') : BoxG W' Bg base n E := h.grown (r := none) (grown_below hb (Nat.le_refl _)) (fun k e => by cases e)
theorem BoxG.lt {W : World} {Bg base n : Nat} {E : Edges} (h : BoxG W Bg base n E) : Bg < W.heap.size := by
  obtain ⟨g, h1, h2, h3⟩ := h
  exact h2.lt
/-- A graph with one edge more, if it is one. -/
def addE (E : Edges) (a b : Int) : Edges := if 0 ≤ a ∧ a ≠ b then orE E (oneE a.toNat b.toNat) else E
set_option maxRecDepth 100000 in
theorem edge17_any (n : Nat) (hn : n ≤ 64) (E : Edges) (a b : Int) (ha : a < n) (hb0 : 0 ≤ b) (hb : b < n) (Bg base : Nat) (w : World) (h : BoxG w Bg base n E) (hbase : base ≤ w.heap.size) :
    Calls Tryd.prog 68 #[.int .i64 a, .int .i64 b, .pointer (some ⟨Bg, 0, none⟩)] w fun e w' => e = .returned (.tuple #[]) ∧ BoxG w' Bg base n (addE E a b) ∧ w.grownBy w' (some Bg) := by
  by_cases h0 : 0 ≤ a
  · by_cases hne : a = b
    · have hE : addE E a b = E := by unfold addE; rw [if_neg (by omega)]
      rw [hE]
      have h0b : decide (a ≥ 0) = true := by simpa using h0
      have h1b : (a != b) = false := by simpa using hne
      clear hne hE
      go_enter Tryd.func68, Tryd.ntmps68
      go_wp2
      go_end0
      exact ⟨rfl, h, World.grownBy.refl _ _⟩
    · have hE : addE E a b = orE E (oneE a.toNat b.toNat) := by unfold addE; rw [if_pos ⟨h0, hne⟩]
      rw [hE]
      obtain ⟨x, rfl⟩ : ∃ x : Nat, a = x := ⟨a.toNat, by omega⟩
      obtain ⟨y, rfl⟩ : ∃ y : Nat, b = y := ⟨b.toNat, by omega⟩
      simp only [Int.toNat_natCast]
      have h0b : decide ((x : Int) ≥ 0) = true := by simp
      have h1b : ((x : Int) != (y : Int)) = true := by simpa using hne
      have h1c : (x != y) = true := by simp; omega
      have hx : x < n := by omega
      have hy : y < n := by omega
      obtain ⟨g, hg, k0, kR⟩ := h
      have hgne : g ≠ Bg := by
        rintro rfl
        have := k0.symm.trans kR
        simp at this
      clear hne hE h0
      have c0 := k0.cell 0
      have c1 := k0.cell 1
      simp only [List.getElem?_toArray, List.getElem?_cons_zero, List.getElem?_cons_succ] at c0 c1
      have hG : GrS w (fun b => b = g) n (some ⟨g, 0, none⟩) n E := GrS.of_blk kR rfl hn
      have hgl := kR.lt
      go_enter Tryd.func68, Tryd.ntmps68
      go_wp2_with fail
      refine (add12_any n (some ⟨g, 0, none⟩) n E x y hx hy (fun b => b = g) _ hG (fun b hb => by subst hb; exact hgl)).mono ?_
      rintro e w1 ⟨g', hgs, rfl, kR', hb1⟩
      clear c0 c1
      have k1 := k0.below hb1 k0.lt
      have c0 := k1.cell 0
      have c1 := k1.cell 1
      have f0 := k1.frozen 0
      have f1 := k1.frozen 1
      simp only [List.getElem?_toArray, List.getElem?_cons_zero, List.getElem?_cons_succ] at c0 c1
      have hBl := k0.lt
      go_wp2
      go_end0
      refine ⟨rfl, ⟨g', by omega, ?_, ?_⟩, grown_trans (grown_trans (grown_below hb1 (Nat.le_refl _)) (grown_set Bg 0 _)) (grown_set Bg 1 _)⟩
      · have := (k1.set_ 0 (.int .i64 n)).set_ 1 (.slice (some ⟨g', 0, none⟩) n n)
        simpa using this
      · exact (kR'.far (p := ⟨Bg, 0, none⟩) (by simp; omega) _).far (p := ⟨Bg, 1, none⟩) (by simp; omega) _
  · have hE : addE E a b = E := by unfold addE; rw [if_neg (by omega)]
    rw [hE]
    have h0b : decide (a ≥ 0) = false := by simpa using h0
    clear h0 hE
    go_enter Tryd.func68, Tryd.ntmps68
    go_wp2
    go_end0
    exact ⟨rfl, h, World.grownBy.refl _ _⟩
/-- What tells a graph alone. -/
def OutG1 (w : World) (n : Nat) (E : Edges) (e : Ending) (w' : World) : Prop :=
  ∃ g, w.heap.size ≤ g ∧ e = .returned (.agg #[.int .i64 n, .slice (some ⟨g, 0, none⟩) n n]) ∧ Blk w' g 75 (rowsB n E) ∧ Below w.heap.size w w'
theorem OutG1.congr {w w' : World} {n : Nat} {E F : Edges} {e : Ending} (h : OutG1 w n E e w') (hE : ∀ a b, a < n → b < n → E a b = F a b) : OutG1 w n F e w' := by
  unfold OutG1 at h ⊢
  rw [← rowsB_congr hE]; exact h
set_option maxRecDepth 100000 in
theorem laid17_any (f : Nat) (hf : ∀ args w, (callFunc f args).run Tryd.prog w = .ok (.enter f args) w) (lb : Array Value) (A : Option Addr) (c : Nat) (H : List Txn) (E : Edges) (w : World) (h : TxnS w (Old w) (.slice A H.length c) H) (hn : SmallH H) (hr : rightH H = true)
    (hlay : ∀ (W : World) (Bg : Nat), Below w.heap.size w W → BoxG W Bg w.heap.size H.length noE → w.heap.size < Bg →
      Calls Tryd.prog f (#[.func (.func 68) #[] #[.pointer (some ⟨Bg, 0, none⟩)]] ++ lb) W fun e W' => e = .returned (.tuple #[]) ∧ BoxG W' Bg w.heap.size H.length E ∧ W.grownBy W' (some Bg)) :
    Calls Tryd.prog 58 #[.agg #[.slice A H.length c], .func (.func f) #[] lb] w (OutG1 w H.length E) := by
  obtain ⟨W0, hW0⟩ : ∃ W0, (w.alloc (.cells #[.slice A H.length c] 24)).alloc (.cells #[.int .i64 0, .slice none 0 0] 51) = W0 := ⟨_, rfl⟩
  have hB := below_two hW0
  have k0 := Blk.two1 hW0
  have k1 := Blk.two2 hW0
  have h0 := hide (h.below hB)
  have h32 : H.length ≤ 32 := ((rightH_iff H).1 hr).1
  have hs0 := size_two hW0
  replace hn := hide hn
  replace hr := hide hr
  replace hlay := hide hlay
  clear h
  have c0 := k0.cell 0
  simp only [List.getElem?_toArray, List.getElem?_cons_zero, List.getElem?_cons_succ] at c0
  replace hs0 := hide hs0
  go_enter Tryd.func58, Tryd.ntmps58
  go_wp2_with fail
  clear hW0 c0
  refine (right8_any A c H _ h0.out hn.out).mono ?_
  rintro e w1 ⟨rfl, hb1⟩
  rw [hr.out]
  have hs1 : w.heap.size + 2 ≤ w1.heap.size := by have := hb1.size; have := hs0.out; omega
  replace k0 := k0.below hb1 k0.lt
  replace k1 := k1.below hb1 k1.lt
  have hb2 := hB.trans (hb1.mono hB.size)
  clear hb1 hB h0 hs0
  have c0 := k0.cell 0
  simp only [List.getElem?_toArray, List.getElem?_cons_zero, List.getElem?_cons_succ] at c0
  go_wp2_with fail
  refine (new12_any H.length (by omega) _).mono ?_
  rintro e w2 ⟨g, hgs, rfl, kR, hb3⟩
  replace k1 := k1.below hb3 k1.lt
  replace hb2 := hb2.trans (hb3.mono hb2.size)
  have hs2 : w1.heap.size ≤ w2.heap.size := hb3.size
  obtain ⟨W3, hW3⟩ : ∃ W3, w2.alloc (.cells #[.int .i64 H.length, .slice (some ⟨g, 0, none⟩) H.length H.length] 51) = W3 := ⟨_, rfl⟩
  have k3 := Blk.newEq hW3
  have hs3 := size_allocEq hW3
  replace k1 := k1.allocEq hW3
  replace kR := kR.allocEq hW3
  have hb5 := below_allocEq hb2 hW3 (by omega)
  have hbox : BoxG W3 w2.heap.size w.heap.size H.length noE := ⟨g, by omega, k3, kR⟩
  have hcall := hide (hlay.out W3 w2.heap.size hb5 hbox (by omega))
  replace hs3 := hide hs3
  clear hb3 c0 k0 k3 kR hb2 hbox
  go_wp2_with fail
  refine hcall.out.mono ?_
  rintro e w4 ⟨rfl, ⟨g', hg', kB, kR⟩, hg4⟩
  have hgne : g' ≠ w.heap.size + 1 := by
    rintro rfl
    have := (k1.grown hg4 (by simp; omega)).symm.trans kR
    simp at this
  have k14 := k1.grown hg4 (by simp; omega)
  have hb4 := below_grown hb5 hg4 hb5.size (by intro k hk; injection hk with hk; omega)
  have c0 := kB.cell 0
  have c1 := kB.cell 1
  have j0 := k14.cell 0
  have j1 := k14.cell 1
  have jf := k14.frozen 0
  have jf1 := k14.frozen 1
  simp only [List.getElem?_toArray, List.getElem?_cons_zero, List.getElem?_cons_succ] at c0 c1 j0 j1
  clear hcall hW3
  go_wp2
  have kF0 := ((kR.far (p := ⟨w.heap.size + 1, 0, none⟩) hgne (.int .i64 H.length)).far (p := ⟨w.heap.size + 1, 1, none⟩) hgne (.slice (some ⟨g', 0, none⟩) H.length H.length))
  have hF := ((hb4.setCell (p := ⟨w.heap.size + 1, 0, none⟩) (by simp) (.int .i64 H.length)).setCell (p := ⟨w.heap.size + 1, 1, none⟩) (by simp) (.slice (some ⟨g', 0, none⟩) H.length H.length))
  exact bodyPost_ret (v := .agg #[.int .i64 H.length, .slice (some ⟨g', 0, none⟩) H.length H.length]) (by simp [results, Tryd.results58, go_sem, j0, j1]) rfl ⟨g', hg', rfl, kF0, hF⟩
end Go.Proofs.YtfodlklpfffaaaaDoor

namespace Go.Proofs.YtfodlklpfffaaaaDoor
open Go.RowKit Go.Inq
set_option maxHeartbeats 4000000
attribute [local go_sem ↓] Go.wp_at_zero Go.wp_at_succ

/-- As far as it is laid. -/
def soMid (H : List Txn) (b a : Nat) : Edges := fun x y => soE H x y && (decide (y < b) || (decide (y = b) && decide (x < a)))
theorem soMid_start (H : List Txn) (x y : Nat) : noE x y = soMid H 0 0 x y := by simp [noE, soMid]
theorem soMid_next (H : List Txn) (b x y : Nat) : soMid H b b x y = soMid H (b + 1) 0 x y := by
  unfold soMid soE
  rw [Bool.eq_iff_iff]
  simp
  omega
theorem soMid_all {H : List Txn} {n x y : Nat} (hy : y < n) : soMid H n 0 x y = soE H x y := by simp [soMid, hy]
theorem soMid_yes {H : List Txn} {b a : Nat} (hab : a < b) (hs : (txnAt H a).sess = (txnAt H b).sess) (x y : Nat) : addE (soMid H b a) (a : Int) (b : Int) x y = soMid H b (a + 1) x y := by
  unfold addE
  rw [if_pos ⟨by omega, by omega⟩]
  simp only [Int.toNat_natCast, orE, oneE, soMid]
  by_cases e1 : y = b
  · by_cases e2 : x = a
    · subst e1 e2; simp [soE, hab, hs]
    · have : decide (x < a + 1) = decide (x < a) := by simp; omega
      simp [e2, this]
  · simp [e1]
theorem soMid_no {H : List Txn} {b a : Nat} (hs : (txnAt H a).sess ≠ (txnAt H b).sess) (x y : Nat) : soMid H b a x y = soMid H b (a + 1) x y := by
  unfold soMid
  by_cases e1 : y = b
  · by_cases e2 : x = a
    · subst e1 e2; simp [soE, hs]
    · have : decide (x < a + 1) = decide (x < a) := by simp; omega
      simp [this]
  · simp [e1]
set_option maxRecDepth 100000 in
theorem so1_any (A : Option Addr) (c : Nat) (H : List Txn) (h32 : H.length ≤ 32) (Bh Bg base : Nat) (K : Nat → Prop) (w : World) (hT : TxnS w K (.slice A H.length c) H) (hBh : Blk w Bh 24 #[.slice A H.length c]) (hK : ∀ b, K b → b < base) (hB : Bh < base) (hBg : base ≤ Bg) (hbox : BoxG w Bg base H.length noE) (hbw : base ≤ w.heap.size) :
    Calls Tryd.prog 59 #[.func (.func 68) #[] #[.pointer (some ⟨Bg, 0, none⟩)], .pointer (some ⟨Bh, 0, none⟩)] w fun e w' => e = .returned (.tuple #[]) ∧ BoxG w' Bg base H.length (soE H) ∧ w.grownBy w' (some Bg) := by
  have c0 := hBh.cell 0
  simp only [List.getElem?_toArray, List.getElem?_cons_zero, List.getElem?_cons_succ] at c0
  replace hT := hide hT
  replace hbox := hide (hbox.congr fun a b _ _ => soMid_start H a b)
  have hK0 : Hid (∀ w', w.grownBy w' (some Bg) → Agree K w w') := hide fun w' hg => Agree.ofGrown hg (fun b hb => Nat.lt_of_lt_of_le (hK b hb) hBg) (Nat.le_of_lt hbox.out.lt)
  replace hK := hide hK
  go_enter Tryd.func59, Tryd.ntmps59
  go_wp2_with fail
  clear c0
  go_loopw [10] (fun s10 wr => ∃ b : Nat, b ≤ H.length ∧ s10 = .int .i64 b ∧ BoxG wr Bg base H.length (soMid H b 0) ∧ w.grownBy wr (some Bg)) (fun s10 _ => H.length - (intOf s10).toNat)
  case atStart => exact ⟨0, Nat.zero_le _, by go_num, hbox.out, World.grownBy.refl _ _⟩
  case round =>
    clear hbox
    obtain ⟨Wo, rfl⟩ : ∃ Wo, Wo = wr := ⟨_, rfl⟩
    obtain ⟨b, hb, rfl, hbox, hgw⟩ := hrel
    have hi1 : (0 : Int) ≤ (b : Int) := Int.natCast_nonneg _
    by_cases hlt : b < H.length
    · have hi2 : (b : Int) < (H.length : Int) := by omega
      have hag := hK0.out Wo hgw
      obtain ⟨ba, oa, Aw, cw, Ar, cr, rfl, hKb, d0, d1, d2, _, _⟩ := TxnS.at_ (TxnS.keep hT.out hag (fun b h => h)) hlt
      have hBo := hBh.grown hgw (by simp; omega)
      have hszo := hgw.size
      have hty := hide (txnAt_of hlt)
      generalize hty2 : H[b] = ty at *
      obtain ⟨ys, yw, yr⟩ := ty
      dsimp only at *
      clear hty2
      have hBgl := hbox.lt
      have hsess : Hid ((txnAt H b).sess = ys) := hide (by rw [hty.out])
      obtain ⟨W1, hW1⟩ : ∃ W1, Wo.alloc (.cells #[.int .i64 ys, .slice Aw yw.length cw, .slice Ar yr.length cr] 44) = W1 := ⟨_, rfl⟩
      have kY := Blk.newEq hW1
      have hs1 := size_allocEq hW1
      have hgw1 : w.grownBy W1 (some Bg) := by rw [← hW1]; exact grown_trans hgw (World.grownBy_alloc _ _ _)
      have hbox1 : BoxG W1 Bg base H.length (soMid H b 0) := by rw [← hW1]; exact hbox.grown (r := none) (World.grownBy_alloc _ _ _) (fun k e => by cases e)
      have hB1 := hBo.allocEq hW1
      have b0 := hB1.cell 0
      simp only [List.getElem?_toArray, List.getElem?_cons_zero, List.getElem?_cons_succ] at b0
      have hHc : H.length ≤ c := by
        obtain ⟨_, _, e, h2⟩ := SlR.len hT.out
        injection e with e1 e2 e3
        omega
      have hbc : b ≤ c := by omega
      have hbc2 : (b : Int) ≤ (c : Int) := by omega
      go_wp2_with fail
      clear d0 d1 d2 b0 hbox hgw hBo hag hW1
      go_loopw [20] (fun s20 wq => ∃ a : Nat, a ≤ b ∧ s20 = .int .i64 a ∧ BoxG wq Bg base H.length (soMid H b a) ∧ W1.grownBy wq (some Bg)) (fun s20 _ => b - (intOf s20).toNat)
      case atStart => exact ⟨0, Nat.zero_le _, by go_num, hbox1, World.grownBy.refl _ _⟩
      case round =>
        clear hbox1
        obtain ⟨a, ha, rfl, hbox, hgq⟩ := hrel
        have ha1 : (0 : Int) ≤ (a : Int) := Int.natCast_nonneg _
        have hgq1 := grown_trans hgw1 hgq
        by_cases hlt2 : a < b
        · have ha2 : (a : Int) < (b : Int) := by omega
          have ha3 : (a : Int) < (H.length : Int) := by omega
          have hag := hK0.out _ hgq1
          obtain ⟨_, _, Aw', cw', Ar', cr', e, _, d0, d1, d2, _, _⟩ := TxnS.at_ (i := a) (TxnS.keep hT.out hag (fun b h => h)) (by omega)
          injection e with e
          injection e with e1 e2
          subst e1 e2
          have htx := hide (txnAt_of (H := H) (t := a) (by omega))
          generalize hty2 : H[a] = tx at *
          obtain ⟨xs, xw, xr⟩ := tx
          dsimp only at *
          clear hty2
          have hsx : Hid ((txnAt H a).sess = xs) := hide (by rw [htx.out])
          have kYq := kY.grown hgq (by simp; omega)
          obtain ⟨W2, hW2⟩ : ∃ W2, wr.alloc (.cells #[.int .i64 xs, .slice Aw' xw.length cw', .slice Ar' xr.length cr'] 44) = W2 := ⟨_, rfl⟩
          have kX := Blk.newEq hW2
          have kY2 := kYq.allocEq hW2
          have hgq2 : W1.grownBy W2 (some Bg) := by rw [← hW2]; exact grown_trans hgq (World.grownBy_alloc _ _ _)
          have hbox2 : BoxG W2 Bg base H.length (soMid H b a) := by rw [← hW2]; exact hbox.grown (r := none) (World.grownBy_alloc _ _ _) (fun k e => by cases e)
          have x0 := kX.cell 0
          have y0 := kY2.cell 0
          simp only [List.getElem?_toArray, List.getElem?_cons_zero, List.getElem?_cons_succ] at x0 y0
          have hsz2 : base ≤ W2.heap.size := by have := (grown_trans hgw1 hgq2).size; omega
          by_cases hs : xs = ys
          · have hsb : (xs == ys) = true := by simpa using hs
            have hst := hide (fun x y => soMid_yes (H := H) (b := b) (a := a) hlt2 (by rw [hsx.out, hsess.out]; exact hs) x y)
            clear hs
            go_wp2_with fail
            clear d0 d1 d2 x0 y0 hW2
            refine (edge17_any H.length (by omega) _ (a : Int) (b : Int) ha3 hi1 hi2 Bg base _ hbox2 hsz2).mono ?_
            rintro e w5 ⟨rfl, hbox5, hg5⟩
            go_wp2
            go_roundw
            case rel => exact ⟨a + 1, by omega, by go_num, hbox5.congr fun x y _ _ => hst.out x y, grown_trans hgq2 hg5⟩
            case measure => simp [intOf]; omega
          · have hsb : (xs == ys) = false := by simpa using hs
            have hst := hide (fun x y => soMid_no (H := H) (b := b) (a := a) (by rw [hsx.out, hsess.out]; exact hs) x y)
            clear hs
            go_wp2
            go_roundw
            case rel => exact ⟨a + 1, by omega, by go_num, hbox2.congr fun x y _ _ => hst.out x y, hgq2⟩
            case measure => simp [intOf]; omega
        · obtain rfl : a = b := by omega
          go_wp2
          go_roundw
          case rel => exact ⟨a + 1, by omega, by go_num, hbox.congr fun x y _ _ => soMid_next H a x y, hgq1⟩
          case measure => simp [intOf]; omega
    · obtain rfl : b = H.length := by omega
      go_wp2
      go_end0
      exact ⟨rfl, hbox.congr fun x y _ hy => soMid_all hy, hgw⟩
set_option maxRecDepth 100000 in
theorem so17_any (A : Option Addr) (c : Nat) (H : List Txn) (w : World) (h : TxnS w (Old w) (.slice A H.length c) H) (hn : SmallH H) (hr : rightH H = true) :
    Calls Tryd.prog 41 #[.agg #[.slice A H.length c]] w (OutG1 w H.length (soE H)) := by
  obtain ⟨W0, hW0⟩ : ∃ W0, (w.alloc (.cells #[.slice A H.length c] 24)).alloc (.cells #[.int .i64 0, .slice none 0 0] 51) = W0 := ⟨_, rfl⟩
  have hB := below_two hW0
  have k0 := Blk.two1 hW0
  have k1 := Blk.two2 hW0
  have hs0 := size_two hW0
  have h0 := h.below hB
  have h32 : H.length ≤ 32 := ((rightH_iff H).1 hr).1
  have hcall := hide (laid17_any 59 (enters_of Tryd.func59 (by kernel_rfl) rfl) #[.pointer (some ⟨w.heap.size, 0, none⟩)] A c H (soE H) W0 h0 hn hr (fun W Bg hbW hbox hBg => by
    have hbW' : Below w.heap.size w W := hB.trans (hbW.mono (by omega))
    exact (so1_any A c H h32 w.heap.size Bg W0.heap.size (Old w) W (TxnS.keep h (Agree.below hbW' fun b h => h) (fun b h => h)) (k0.below hbW k0.lt) (fun b hb => by have : b < w.heap.size := hb; omega) (by omega) (by omega) hbox hbW.size).mono fun e w' hh => hh))
  have c0 := k0.cell 0
  simp only [List.getElem?_toArray, List.getElem?_cons_zero, List.getElem?_cons_succ] at c0
  replace hs0 := hide hs0
  go_enter Tryd.func41, Tryd.ntmps41
  go_wp2_with fail
  clear hW0 c0
  refine hcall.out.mono ?_
  rintro e w4 ⟨g, hg, rfl, kR, hb4⟩
  have hgne : g ≠ w.heap.size + 1 := by have := hs0.out; omega
  have k14 := k1.below hb4 k1.lt
  have hb5 := hB.trans (hb4.mono (by have := hs0.out; omega))
  have j0 := k14.cell 0
  have j1 := k14.cell 1
  have jf := k14.frozen 0
  have jf1 := k14.frozen 1
  simp only [List.getElem?_toArray, List.getElem?_cons_zero, List.getElem?_cons_succ] at j0 j1
  have hgw : w.heap.size ≤ g := by have := hs0.out; omega
  clear hcall
  go_wp2
  have kF0 := ((kR.far (p := ⟨w.heap.size + 1, 0, none⟩) hgne (.int .i64 H.length)).far (p := ⟨w.heap.size + 1, 1, none⟩) hgne (.slice (some ⟨g, 0, none⟩) H.length H.length))
  have hF := ((hb5.setCell (p := ⟨w.heap.size + 1, 0, none⟩) (by simp) (.int .i64 H.length)).setCell (p := ⟨w.heap.size + 1, 1, none⟩) (by simp) (.slice (some ⟨g, 0, none⟩) H.length H.length))
  exact bodyPost_ret (v := .agg #[.int .i64 H.length, .slice (some ⟨g, 0, none⟩) H.length H.length]) (by simp [results, Tryd.results41, go_sem, j0, j1]) rfl ⟨g, hgw, rfl, kF0, hF⟩
end Go.Proofs.YtfodlklpfffaaaaDoor

namespace Go.Proofs.YtfodlklpfffaaaaDoor
open Go.RowKit Go.Inq
set_option maxHeartbeats 4000000
attribute [local go_sem ↓] Go.wp_at_zero Go.wp_at_succ

/-- As far as it is laid. -/
def wrMid (H : List Txn) (b j : Nat) : Edges := fun x y => (decide (y < b) && wrE H x y) || (decide (y = b) && decide (x ≠ y) && ((txnAt H b).reads.take j).any fun r => decide (r.b = (x : Int)))
theorem wrMid_start (H : List Txn) (x y : Nat) : noE x y = wrMid H 0 0 x y := by simp [noE, wrMid]
theorem wrMid_next (H : List Txn) (b x y : Nat) : wrMid H b (txnAt H b).reads.length x y = wrMid H (b + 1) 0 x y := by
  unfold wrMid
  rw [List.take_length]
  by_cases e : y = b
  · subst e; simp [wrE]
  · have : decide (y < b + 1) = decide (y < b) := by simp; omega
    simp [e, this]
theorem wrMid_all {H : List Txn} {n x y : Nat} (hy : y < n) : wrMid H n 0 x y = wrE H x y := by simp [wrMid, hy]
theorem wrMid_step {H : List Txn} {b j : Nat} (hj : j < (txnAt H b).reads.length) (x y : Nat) : addE (wrMid H b j) (txnAt H b).reads[j].b (b : Int) x y = wrMid H b (j + 1) x y := by
  have ht : (txnAt H b).reads.take (j + 1) = (txnAt H b).reads.take j ++ [(txnAt H b).reads[j]] := take_snoc' hj
  unfold wrMid
  rw [ht]
  generalize (txnAt H b).reads[j] = r
  generalize (txnAt H b).reads.take j = l
  rw [List.any_append]
  simp only [List.any_cons, List.any_nil, Bool.or_false]
  unfold addE
  split
  · rename_i h
    simp only [orE, oneE, Int.toNat_natCast]
    by_cases e1 : y = b
    · subst e1
      by_cases e2 : x = r.b.toNat
      · have e3 : r.b = (x : Int) := by omega
        have e4 : x ≠ y := by omega
        rw [decide_eq_true e2, decide_eq_true e3, decide_eq_true e4]; simp
      · have e3 : ¬ r.b = (x : Int) := by omega
        simp [e2, e3]
    · simp [e1]
  · rename_i h
    by_cases e1 : y = b
    · subst e1
      by_cases e2 : x = y
      · simp [e2]
      · have e3 : ¬ r.b = (x : Int) := fun e => h ⟨by omega, by omega⟩
        simp [e2, e3]
    · simp [e1]
theorem reads_from {H : List Txn} (hr : rightH H = true) {b : Nat} (hb : b < H.length) : ∀ r ∈ (txnAt H b).reads, r.b < (H.length : Int) := by
  rw [txnAt_of hb]
  intro r h
  rcases (thereB_iff _ _ _).1 ((((rightH_iff H).1 hr).2 b hb).there r h) with e | ⟨k, hk, e, _, _⟩ <;> omega
set_option maxRecDepth 100000 in
theorem wr1_any (A : Option Addr) (c : Nat) (H : List Txn) (hr : rightH H = true) (hn : SmallH H) (Bh Bg base : Nat) (K : Nat → Prop) (w : World) (hT : TxnS w K (.slice A H.length c) H) (hBh : Blk w Bh 24 #[.slice A H.length c]) (hK : ∀ b, K b → b < base) (hB : Bh < base) (hBg : base ≤ Bg) (hbox : BoxG w Bg base H.length noE) (hbw : base ≤ w.heap.size) :
    Calls Tryd.prog 60 #[.func (.func 68) #[] #[.pointer (some ⟨Bg, 0, none⟩)], .pointer (some ⟨Bh, 0, none⟩)] w fun e w' => e = .returned (.tuple #[]) ∧ BoxG w' Bg base H.length (wrE H) ∧ w.grownBy w' (some Bg) := by
  have c0 := hBh.cell 0
  simp only [List.getElem?_toArray, List.getElem?_cons_zero, List.getElem?_cons_succ] at c0
  have h32 : H.length ≤ 32 := ((rightH_iff H).1 hr).1
  have hfr := hide (fun b (hb : b < H.length) => reads_from hr hb)
  have hrl := hide (fun i (hi : i < H.length) => (hn.2 _ (List.getElem_mem hi)).2)
  replace hr := hide hr
  replace hn := hide hn
  replace hT := hide hT
  replace hbox := hide (hbox.congr fun a b _ _ => wrMid_start H a b)
  have hK0 : Hid (∀ w', w.grownBy w' (some Bg) → Agree K w w') := hide fun w' hg => Agree.ofGrown hg (fun b hb => Nat.lt_of_lt_of_le (hK b hb) hBg) (Nat.le_of_lt hbox.out.lt)
  have hKg : Hid (∀ b, K b → b < w.heap.size ∧ b < Bg) := hide fun b hb => by have := hK b hb; omega
  replace hK := hide hK
  go_enter Tryd.func60, Tryd.ntmps60
  go_wp2_with fail
  clear c0
  go_loopw [10] (fun s10 wr => ∃ b : Nat, b ≤ H.length ∧ s10 = .int .i64 b ∧ BoxG wr Bg base H.length (wrMid H b 0) ∧ w.grownBy wr (some Bg)) (fun s10 _ => H.length - (intOf s10).toNat)
  case atStart => exact ⟨0, Nat.zero_le _, by go_num, hbox.out, World.grownBy.refl _ _⟩
  case round =>
    clear hbox
    obtain ⟨Wo, rfl⟩ : ∃ Wo, Wo = wr := ⟨_, rfl⟩
    obtain ⟨b, hb, rfl, hbox, hgw⟩ := hrel
    have hi1 : (0 : Int) ≤ (b : Int) := Int.natCast_nonneg _
    by_cases hlt : b < H.length
    · have hi2 : (b : Int) < (H.length : Int) := by omega
      have hag := hK0.out Wo hgw
      obtain ⟨ba, oa, Aw, cw, Ar, cr, rfl, hKb, d0, d1, d2, _, hrs⟩ := TxnS.at_ (TxnS.keep hT.out hag (fun b h => h)) hlt
      have hszo := hgw.size
      have hty := hide (txnAt_of hlt)
      have hrlb := hrl.out b hlt
      have hfrb := hide (hfr.out b hlt)
      have hstb := hide (fun j hj => wrMid_step (H := H) (b := b) (j := j) hj)
      have hnxt := hide (wrMid_next H b)
      rw [hty.out] at hfrb hstb hnxt
      generalize H[b] = ty at *
      obtain ⟨ys, yw, yr⟩ := ty
      dsimp only at *
      have hBgl := hbox.lt
      obtain ⟨W1, hW1⟩ : ∃ W1, Wo.alloc (.cells #[.int .i64 ys, .slice Aw yw.length cw, .slice Ar yr.length cr] 44) = W1 := ⟨_, rfl⟩
      have kY := Blk.newEq hW1
      have hBg1 : Bg ≤ W1.heap.size := by rw [size_allocEq hW1]; omega
      have hgw1 : w.grownBy W1 (some Bg) := by rw [← hW1]; exact grown_trans hgw (World.grownBy_alloc _ _ _)
      have hbox1 : BoxG W1 Bg base H.length (wrMid H b 0) := by rw [← hW1]; exact hbox.grown (r := none) (World.grownBy_alloc _ _ _) (fun k e => by cases e)
      have y2 := kY.cell 2
      simp only [List.getElem?_toArray, List.getElem?_cons_zero, List.getElem?_cons_succ] at y2
      have hrs1 := hide (hrs.keep (Agree.allocEq hW1 (fun b hb => by have := (hKg.out b hb).1; omega)) (fun b h => h))
      go_wp2_with fail
      clear d0 d1 d2 hbox hgw hag y2 hrs hW1
      go_loopw [18] (fun s18 wq => ∃ j : Nat, j ≤ yr.length ∧ s18 = .int .i64 j ∧ BoxG wq Bg base H.length (wrMid H b j) ∧ W1.grownBy wq (some Bg)) (fun s18 _ => yr.length - (intOf s18).toNat)
      case atStart => exact ⟨0, Nat.zero_le _, by go_num, hbox1, World.grownBy.refl _ _⟩
      case round =>
        clear hbox1
        obtain ⟨j, hj, rfl, hbox, hgq⟩ := hrel
        have ha1 : (0 : Int) ≤ (j : Int) := Int.natCast_nonneg _
        have hgq1 := grown_trans hgw1 hgq
        by_cases hlt2 : j < yr.length
        · have ha2 : (j : Int) < (yr.length : Int) := by omega
          obtain ⟨br, orr, rfl, _, z0, z1⟩ := ItS.at_ (hrs1.out.keep (Agree.ofGrown hgq (fun b hb => (hKg.out b hb).2) hBg1) (fun b h => h)) hlt2
          have hst := hide (hstb.out j hlt2)
          have hfx := hfrb.out _ (List.getElem_mem hlt2)
          generalize yr[j] = x at *
          obtain ⟨xa, xb⟩ := x
          dsimp only at *
          obtain ⟨W2, hW2⟩ : ∃ W2, wr.alloc (.cells #[.int .i64 xa, .int .i64 xb] 97) = W2 := ⟨_, rfl⟩
          have kX := Blk.newEq hW2
          have hgq2 : W1.grownBy W2 (some Bg) := by rw [← hW2]; exact grown_trans hgq (World.grownBy_alloc _ _ _)
          have hbox2 : BoxG W2 Bg base H.length (wrMid H b j) := by rw [← hW2]; exact hbox.grown (r := none) (World.grownBy_alloc _ _ _) (fun k e => by cases e)
          have x1 := kX.cell 1
          simp only [List.getElem?_toArray, List.getElem?_cons_zero, List.getElem?_cons_succ] at x1
          have hsz2 : base ≤ W2.heap.size := by have := (grown_trans hgw1 hgq2).size; omega
          go_wp2_with fail
          clear z0 z1 x1 hW2
          refine (edge17_any H.length (by omega) _ xb (b : Int) hfx hi1 hi2 Bg base _ hbox2 hsz2).mono ?_
          rintro e w5 ⟨rfl, hbox5, hg5⟩
          go_wp2
          go_roundw
          case rel => exact ⟨j + 1, by omega, by go_num, hbox5.congr fun x y _ _ => hst.out x y, grown_trans hgq2 hg5⟩
          case measure => simp [intOf]; omega
        · obtain rfl : j = yr.length := by omega
          go_wp2
          go_roundw
          case rel => exact ⟨b + 1, by omega, by go_num, hbox.congr fun x y _ _ => hnxt.out x y, hgq1⟩
          case measure => simp [intOf]; omega
    · obtain rfl : b = H.length := by omega
      go_wp2
      go_end0
      exact ⟨rfl, hbox.congr fun x y _ hy => wrMid_all hy, hgw⟩
set_option maxRecDepth 100000 in
theorem wr17_any (A : Option Addr) (c : Nat) (H : List Txn) (w : World) (h : TxnS w (Old w) (.slice A H.length c) H) (hn : SmallH H) (hr : rightH H = true) :
    Calls Tryd.prog 42 #[.agg #[.slice A H.length c]] w (OutG1 w H.length (wrE H)) := by
  obtain ⟨W0, hW0⟩ : ∃ W0, (w.alloc (.cells #[.slice A H.length c] 24)).alloc (.cells #[.int .i64 0, .slice none 0 0] 51) = W0 := ⟨_, rfl⟩
  have hB := below_two hW0
  have k0 := Blk.two1 hW0
  have k1 := Blk.two2 hW0
  have hs0 := size_two hW0
  have h0 := h.below hB
  have h32 : H.length ≤ 32 := ((rightH_iff H).1 hr).1
  have hcall := hide (laid17_any 60 (enters_of Tryd.func60 (by kernel_rfl) rfl) #[.pointer (some ⟨w.heap.size, 0, none⟩)] A c H (wrE H) W0 h0 hn hr (fun W Bg hbW hbox hBg => by
    have hbW' : Below w.heap.size w W := hB.trans (hbW.mono (by omega))
    exact (wr1_any A c H hr hn w.heap.size Bg W0.heap.size (Old w) W (TxnS.keep h (Agree.below hbW' fun b h => h) (fun b h => h)) (k0.below hbW k0.lt) (fun b hb => by have : b < w.heap.size := hb; omega) (by omega) (by omega) hbox hbW.size).mono fun e w' hh => hh))
  have c0 := k0.cell 0
  simp only [List.getElem?_toArray, List.getElem?_cons_zero, List.getElem?_cons_succ] at c0
  replace hs0 := hide hs0
  go_enter Tryd.func42, Tryd.ntmps42
  go_wp2_with fail
  clear hW0 c0
  refine hcall.out.mono ?_
  rintro e w4 ⟨g, hg, rfl, kR, hb4⟩
  have hgne : g ≠ w.heap.size + 1 := by have := hs0.out; omega
  have k14 := k1.below hb4 k1.lt
  have hb5 := hB.trans (hb4.mono (by have := hs0.out; omega))
  have j0 := k14.cell 0
  have j1 := k14.cell 1
  have jf := k14.frozen 0
  have jf1 := k14.frozen 1
  simp only [List.getElem?_toArray, List.getElem?_cons_zero, List.getElem?_cons_succ] at j0 j1
  have hgw : w.heap.size ≤ g := by have := hs0.out; omega
  clear hcall
  go_wp2
  have kF0 := ((kR.far (p := ⟨w.heap.size + 1, 0, none⟩) hgne (.int .i64 H.length)).far (p := ⟨w.heap.size + 1, 1, none⟩) hgne (.slice (some ⟨g, 0, none⟩) H.length H.length))
  have hF := ((hb5.setCell (p := ⟨w.heap.size + 1, 0, none⟩) (by simp) (.int .i64 H.length)).setCell (p := ⟨w.heap.size + 1, 1, none⟩) (by simp) (.slice (some ⟨g, 0, none⟩) H.length H.length))
  exact bodyPost_ret (v := .agg #[.int .i64 H.length, .slice (some ⟨g, 0, none⟩) H.length H.length]) (by simp [results, Tryd.results42, go_sem, j0, j1]) rfl ⟨g, hgw, rfl, kF0, hF⟩
end Go.Proofs.YtfodlklpfffaaaaDoor

namespace Go.Proofs.YtfodlklpfffaaaaDoor
open Go.RowKit Go.Inq Go.Shelf
set_option maxHeartbeats 4000000
attribute [local go_sem] Oper.semAt_some
attribute [local go_sem ↓] Go.wp_at_zero Go.wp_at_succ

/-- All that is read, by whom. -/
def rowR (k : Nat) (l : List It) : List (Nat × It) := l.map fun r => (k, r)
def readsTo (H : List Txn) (k : Nat) : List (Nat × It) := ((List.range k).map fun t => rowR t (txnAt H t).reads).flatten
def readsL (H : List Txn) : List (Nat × It) := readsTo H H.length
theorem readsTo_step (H : List Txn) (k : Nat) : readsTo H (k + 1) = readsTo H k ++ rowR k (txnAt H k).reads := by
  unfold readsTo
  rw [List.range_succ, List.map_append, List.flatten_append]; simp
theorem readsTo_pre {H : List Txn} {k : Nat} (h : k ≤ H.length) : readsTo H k <+: readsL H := by
  unfold readsL readsTo
  obtain ⟨m, hm⟩ := Nat.le.dest h
  rw [← hm, List.range_add, List.map_append, List.flatten_append]
  exact List.prefix_append _ _
theorem rowR_take {k : Nat} {l : List It} {j : Nat} (h : j < l.length) : rowR k (l.take (j + 1)) = rowR k (l.take j) ++ [(k, l[j])] := by
  unfold rowR; rw [take_snoc' h, List.map_append]; rfl
theorem reads_pre {H : List Txn} {k j : Nat} (h : k < H.length) (hj : j < H[k].reads.length) : readsTo H k ++ rowR k (H[k].reads.take j) ++ [(k, H[k].reads[j])] <+: readsL H := by
  refine List.IsPrefix.trans ?_ (readsTo_pre (k := k + 1) (by omega))
  rw [readsTo_step, txnAt_of h, List.append_assoc, ← rowR_take hj]
  refine (List.prefix_append_right_inj _).2 ?_
  unfold rowR
  rw [List.map_take]
  exact List.take_prefix _ _
def encRd (x : Nat × It) : Value := .agg #[.int .i64 (x.1 : Nat), .int .i64 x.2.a, .int .i64 x.2.b]
set_option maxRecDepth 100000 in
theorem reads1_in (n : Nat) (hn : 1 ≤ n) (l Bh n₀ c : Nat) (A : Option Addr) (H : List Txn) (hS : SmallH H) (hr : rightH H = true) (J Jx : List (Nat × It) → World → Prop) (W : World)
    (hJ : AbidesFrom W.heap.size J)
    (hY : ∀ pre x W, J pre W → pre.length < (readsL H).length → YieldAt Fence.wide (n - 1) Tryd.prog l #[encRd x] W fun e W' =>
      (e = .returned (.bool true) ∧ J (pre ++ [x]) W' ∧ Below n₀ W W') ∨ (e = .returned (.bool false) ∧ Jx (pre ++ [x]) W'))
    (hBh : W.cell? ⟨Bh, 0, none⟩ = some (.slice A H.length c)) (hnW : n₀ ≤ W.heap.size) (hT : TxnS W (fun b => b < n₀) (.slice A H.length c) H) (h0 : J [] W) :
    CallsIn Fence.wide n Tryd.prog 72 #[.func (.yield l) #[] #[], .pointer (some ⟨Bh, 0, none⟩)] W fun e W' => (∃ v, e = .returned v) ∧
      ((∃ ys, ys = readsL H ∧ J ys W') ∨ (∃ pre, pre <+: readsL H ∧ Jx pre W')) := by
  have hro : Fence.wide.round = none := rfl
  refine callsIn_of_wp Tryd.func72 rfl trivial ?_ hro
  simp only [Tryd.ntmps72, List.size_toArray, List.length_cons, List.length_nil, Nat.reduceAdd, Nat.reduceSub, Array.replicate_succ, Array.replicate_zero, List.push_toArray, List.append_toArray, List.nil_append, List.cons_append]
  have hTo := hide (TxnS.fit (K' := Old W) hT (fun b h => Nat.lt_of_lt_of_le h hnW))
  replace hr := hide hr
  have hlen := hS.1
  have hrl := hide (fun i (hi : i < H.length) => (hS.2 _ (List.getElem_mem hi)).2)
  replace hS := hide hS
  have hBl : Bh < W.heap.size := block_lt_of_cell hBh
  gi_wp2_with fail
  refine ⟨trivial, ?_⟩
  refine (callsIn_wide.2 (right8_any A c H _ hTo.out hS.out)).mono ?_
  rintro e W3 ⟨rfl, hb3⟩
  rw [hr.out]
  dsimp only
  have c0 := (hb3.cell (p := ⟨Bh, 0, none⟩) hBl).trans hBh
  have hJ3 : J [] W3 := hJ _ _ _ none h0 (grown_below hb3 (Nat.le_refl _)) (fun r e => by cases e)
  have hT3 := TxnS.keep hT (Agree.below hb3 (fun b h => Nat.lt_of_lt_of_le h hnW)) (fun b h => h)
  have hnW3 : n₀ ≤ W3.heap.size := Nat.le_trans hnW hb3.size
  clear hTo hBh h0
  gi_wp2
  gi_loopw [13] (fun s13 wr => ∃ k : Nat, k ≤ H.length ∧ s13 = .int .i64 k ∧ J (readsTo H k) wr ∧ Below n₀ W3 wr) (fun s13 _ => H.length - (intOf s13).toNat)
  case atStart => exact ⟨0, Nat.zero_le _, by go_num, hJ3, Below.refl _ _⟩
  case round =>
    obtain ⟨Wo, rfl⟩ : ∃ Wo, Wo = wr := ⟨_, rfl⟩
    obtain ⟨k, hk, rfl, hJs, hb⟩ := hrel
    have hk1 : (0 : Int) ≤ (k : Int) := Int.natCast_nonneg _
    by_cases hlt : k < H.length
    · have hi2 : (k : Int) < (H.length : Int) := by omega
      obtain ⟨b, off, Aw, cw, Ar, cr, rfl, hbK, d0', d1', d2', _, hrs⟩ := TxnS.at_ hT3 hlt
      have d0 := (hb.cell (p := ⟨b, off + k * 3, none⟩) hbK).trans d0'
      have d1 := (hb.cell (p := ⟨b, off + k * 3 + 1, none⟩) hbK).trans d1'
      have d2 := (hb.cell (p := ⟨b, off + k * 3 + 2, none⟩) hbK).trans d2'
      clear d0' d1' d2'
      have htr := fun j => reads_pre (j := j) hlt
      have hts := readsTo_step H k
      rw [txnAt_of hlt] at hts
      have q2 := hrl.out k hlt
      generalize H[k] = t at *
      obtain ⟨ts, ws, rs⟩ := t
      dsimp only at *
      replace htr := hide htr
      replace hts := hide hts
      have hJ4 : J (readsTo H k) (Wo.alloc (.cells #[.int .i64 ts, .slice Aw ws.length cw, .slice Ar rs.length cr] 44)) := hJ _ _ _ none hJs (World.grownBy_alloc Wo _ none) (fun r e => by cases e)
      have hb4 : Below n₀ W3 (Wo.alloc (.cells #[.int .i64 ts, .slice Aw ws.length cw, .slice Ar rs.length cr] 44)) := hb.alloc (Nat.le_trans hnW3 hb.size) _
      have kT : Blk (Wo.alloc (.cells #[.int .i64 ts, .slice Aw ws.length cw, .slice Ar rs.length cr] 44)) Wo.heap.size 44 #[.int .i64 ts, .slice Aw ws.length cw, .slice Ar rs.length cr] := Blk.new _ _ _
      have e2 := kT.cell 2
      simp only [List.getElem?_toArray, List.getElem?_cons_zero, List.getElem?_cons_succ] at e2
      have hrn := hide (show readsTo H k ++ rowR k (rs.take 0) = readsTo H k by simp [rowR])
      gi_wp2
      generalize hWo : Wo.alloc (.cells #[.int .i64 ts, .slice Aw ws.length cw, .slice Ar rs.length cr] 44) = Wp at *
      clear hWo kT e2 hJs hb
      gi_loopw [21] (fun s21 wq => ∃ j : Nat, j ≤ rs.length ∧ s21 = .int .i64 j ∧ J (readsTo H k ++ rowR k (rs.take j)) wq ∧ Below n₀ W3 wq) (fun s21 _ => rs.length - (intOf s21).toNat)
      case atStart => exact ⟨0, Nat.zero_le _, by go_num, by rw [hrn.out]; exact hJ4, hb4⟩
      case round =>
        clear hJ4 hb4
        obtain ⟨j, hj, rfl, hJs, hb⟩ := hrel
        have hj1 : (0 : Int) ≤ (j : Int) := Int.natCast_nonneg _
        by_cases hjl : j < rs.length
        · have hj2 : (j : Int) < (rs.length : Int) := by omega
          obtain ⟨bw, ow, rfl, hbw, ec0, ec1⟩ := ItS.at_ (ItS.keep hrs (Agree.below hb fun b h => h) (fun b h => h)) hjl
          have hpre := htr.out j hjl
          have hstp := hide (rowR_take (k := k) hjl)
          generalize rs[j] = x at *
          obtain ⟨xa, xb⟩ := x
          dsimp only at ec0 ec1
          have hBw : n₀ ≤ wr.heap.size := Nat.le_trans hnW3 hb.size
          have hJ6 : J (readsTo H k ++ rowR k (rs.take j)) (wr.alloc (.cells #[.int .i64 xa, .int .i64 xb] 97)) := hJ _ _ _ none hJs (World.grownBy_alloc wr _ none) (fun r e => by cases e)
          have hb6 : Below n₀ W3 (wr.alloc (.cells #[.int .i64 xa, .int .i64 xb] 97)) := hb.alloc hBw _
          have hN := pre_lt hpre
          obtain ⟨fn, tmps, assign, body, hy, hR⟩ := hY _ (k, ⟨xa, xb⟩) _ hJ6 hN
          clear hJs hb
          replace hpre := hide hpre
          unfold encRd at hy
          dsimp only at hy
          gi_wp2
          refine hR.mono ?_
          clear hR hy fn tmps assign body
          rintro e W4 (⟨rfl, hJ5, hk5⟩ | ⟨rfl, hJx5⟩)
          · have hb5 := hb6.trans hk5
            rw [List.append_assoc, ← hstp.out] at hJ5
            gi_wp2
            go_roundw
            case rel => exact ⟨j + 1, by omega, by go_num, hJ5, hb5⟩
            case measure => simp [intOf]; omega
          · gi_wp2
            refine bodyPost_ret (results_none rfl _ _ _) rfl ?_
            exact ⟨⟨_, rfl⟩, .inr ⟨_, hpre.out, hJx5⟩⟩
        · obtain rfl : j = rs.length := by omega
          rw [List.take_length] at hJs
          have hts2 : readsTo H (k + 1) = readsTo H k ++ rowR k rs := hts.out
          gi_wp2
          go_roundw
          case rel => exact ⟨k + 1, by omega, by go_num, by rw [hts.out]; exact hJs, hb⟩
          case measure => simp [intOf]; omega
    · obtain rfl : k = H.length := by omega
      gi_wp2
      go_end0
      exact ⟨⟨_, rfl⟩, .inl ⟨_, rfl, hJs⟩⟩
end Go.Proofs.YtfodlklpfffaaaaDoor

namespace Go.Proofs.YtfodlklpfffaaaaDoor
open Go.RowKit Go.Inq Go.Shelf
set_option maxHeartbeats 4000000
attribute [local go_sem] Oper.semAt_some
attribute [local go_sem ↓] Go.wp_at_zero Go.wp_at_succ

theorem reads9_any (v : Value) (w : World) : Calls Tryd.prog 69 #[.agg #[v]] w fun e w' => e = .returned (.func (.func 72) #[] #[.pointer (some ⟨w.heap.size, 0, none⟩)]) ∧ w' = w.alloc (.cells #[v] 24) := by
  go_enter Tryd.func69, Tryd.ntmps69
  go_wp2
  go_ret
  exact ⟨rfl, rfl⟩
theorem belowK_put {n₀ : Nat} {w : World} (hn : n₀ ≤ w.heap.size) (W : World) (l : Nat) (o o' : Obj) (hl : w.heap.size ≤ l) (_ : W.heap[l]? = some o) (_ : o.isCells = false) (_ : o.isWalk = false) : Below n₀ W (W.putObj l o') :=
  ⟨rfl, rfl, rfl, by simp, fun k hk => World.putObj_heap_other (by omega)⟩
theorem reads9_stops (Bh n₀ c : Nat) (A : Option Addr) (H : List Txn) (hS : SmallH H) (hr : rightH H = true) (w : World) (hBn : Bh < w.heap.size) (hnW : n₀ ≤ w.heap.size) (hc : w.cell? ⟨Bh, 0, none⟩ = some (.slice A H.length c)) (hT : TxnS w (fun b => b < n₀) (.slice A H.length c) H) :
    SeqStopsK Fence.wide (3 - 1) Tryd.prog 72 #[.pointer (some ⟨Bh, 0, none⟩)] (fun x : Nat × It => #[encRd x]) (fun W W' => Below n₀ W W') (fun ys => ys = readsL H) (fun pre => pre <+: readsL H) (readsL H).length w := fun l J Jx W hW hJ _ hY h0 =>
  reads1_in (3 - 1) (by omega) l Bh n₀ c A H hS hr J Jx W hJ hY ((hW.cell (p := ⟨Bh, 0, none⟩) hBn).trans hc) (Nat.le_trans hnW hW.size) (TxnS.keep hT (Agree.below hW fun b h => Nat.lt_of_lt_of_le h hnW) (fun b h => h)) h0
/-- What is told of some reads. -/
def selR (key src : Int) (l : List (Nat × It)) : List Nat := (l.filter fun x => decide (x.2.a = key) && decide (x.2.b = src)).map (·.1)
theorem selR_snoc (key src : Int) (l : List (Nat × It)) (x : Nat × It) : selR key src (l ++ [x]) = selR key src l ++ (if decide (x.2.a = key) && decide (x.2.b = src) then [x.1] else []) := by
  unfold selR
  rw [List.filter_append, List.map_append]
  congr 1
  cases h : decide (x.2.a = key) && decide (x.2.b = src) <;> simp [List.filter_cons, h]
theorem selR_all (H : List Txn) (key src : Int) : selR key src (readsL H) = rdsL H key src := by
  unfold selR readsL readsTo rdsL
  rw [List.filter_flatten, List.map_flatten, List.map_map, List.map_map]
  congr 1
  refine List.map_congr_left fun t _ => ?_
  simp only [Function.comp_apply, rowR, List.filter_map, List.map_map]
  rfl
theorem readsTo_len {H : List Txn} (h : ∀ i (hi : i < H.length), H[i].reads.length ≤ 1000000) : ∀ k, k ≤ H.length → (readsTo H k).length ≤ k * 1000000
  | 0, _ => by simp [readsTo]
  | k + 1, hk => by
    rw [readsTo_step, List.length_append, txnAt_of (by omega)]
    have := readsTo_len h k (by omega)
    have := h k (by omega)
    simp only [rowR, List.length_map]
    omega
theorem readsL_len {H : List Txn} (hn : SmallH H) (hr : rightH H = true) : (readsL H).length ≤ 32000000 := by
  have h32 : H.length ≤ 32 := ((rightH_iff H).1 hr).1
  have := readsTo_len (fun i hi => (hn.2 _ (List.getElem_mem hi)).2) H.length (Nat.le_refl _)
  unfold readsL
  omega
theorem boxed_own {X Y : World} {row : Option Nat} {B : Nat} {t : TypeId} {v : Value} (hs : Boxed X B t v) (hg : X.grownBy Y row) (hrow : ∀ r, row = some r → ∃ o : Obj, X.heap[r]? = some o ∧ o.isCells = false) : Boxed Y B t v :=
  hs.kept hg (fun e' => by obtain ⟨o, ho, hc⟩ := hrow B e'.symm; rw [show X.heap[B]? = _ from hs] at ho; cases ho; cases hc)
theorem own_base {w : World} {base base' : Nat} {e : TypeId} {size n : Nat} {v : Value} {xs : List Value} (h : w.ownsRow base e size v n xs) (hb : base' ≤ base) : w.ownsRow base' e size v n xs := by
  refine ⟨h.1, ?_⟩
  rcases h.2 with h2 | ⟨g, cap, cur, hv, hg, r⟩
  · exact .inl h2
  · exact .inr ⟨g, cap, cur, hv, Nat.le_trans hb hg, r⟩
theorem wpListIn_push {F : Fence} {nF : Nat} {P : Program} {W : World} {ops : Array Oper} {rest : List Oper} {o : Oper} {a : Act} {Q : Exit → Act → World → Prop}
    (hgd : o.guard = none) (s x : Operand) (t : TypeId) (ho : o.op = .call { callee := .builtin .append, args := #[s, x], argTypes := #[t, t] })
    (base : Nat) (e : TypeId) (i : TypeInfo) (z : Value) (bytes : Nat) (ht : P.underlying t = some (.slice e)) (hi : P.info? e = some i) (hz : i.zero = some z)
    (hsize : i.size = 1) (hby : i.bytes = bytes) (hzs : z.cells.size = 1)
    (v : Value) (l : List Int) (hs : a.eval s = v) (hown : W.ownsRow base e 1 v l.length (l.map Go.Inq.encI).flatten)
    (x0 : Int) (hx : a.eval x = .slice (some ⟨W.heap.size, 0, none⟩) 1 1)
    (h63 : l.length + 1 ≤ maxLen) (hbytes : (l.length + 1) * bytes ≤ 140737488355328) (hbase : base ≤ W.heap.size)
    (h : ∀ v' w', w'.ownsRow base e 1 v' (l ++ [x0]).length ((l ++ [x0]).map Go.Inq.encI).flatten → (W.alloc (.cells #[.int .i64 x0] e)).grownBy w' v.ownBlock → (v'.ownBlock = v.ownBlock ∨ v'.ownBlock = some (W.heap.size + 1)) → wpListIn F nF P ops Q rest (a.put o.dst v') w') :
    wpListIn F nF P ops Q (o :: rest) a (W.alloc (.cells #[.int .i64 x0] e)) := by
  have hk : Blk (W.alloc (.cells #[.int .i64 x0] e)) W.heap.size e #[.int .i64 x0] := Blk.new _ _ _
  refine wpListIn_append_own_at _ hgd s x t ho base e i z 1 bytes ht hi hz hsize hby hzs (by decide) v l.length _ hs (hown.alloc _) ⟨W.heap.size, 0, none⟩ 1 1 [.int .i64 x0] hx rfl (fun j u hj => ?_) (by simp [Value.oneCell']) h63 hbytes (by simp; omega) ?_
  · cases j with
    | zero => injection hj with hj; subst hj; exact hk.cell 0
    | succ j => simp at hj
  · intro v' w' g1 g2 _ g3
    refine h v' w' ?_ g2 (by simpa using g3)
    rw [List.map_append, List.flatten_append, List.length_append]
    exact g1
set_option maxRecDepth 100000 in
theorem readers9_any (A : Option Addr) (c : Nat) (H : List Txn) (key src : Int) (w : World) (h : TxnS w (Old w) (.slice A H.length c) H) (hn : SmallH H) (hr : rightH H = true) :
    Calls Tryd.prog 63 #[.agg #[.slice A H.length c], .int .i64 key, .int .i64 src] w (OutI w (intsN (rdsL H key src))) := by
  refine (callsIn_wide (n := 3)).1 ?_
  have hro : Fence.wide.round = none := rfl
  refine callsIn_of_wp_marks Tryd.func63 rfl trivial ?_ hro
  simp only [Tryd.ntmps63, List.size_toArray, List.length_cons, List.length_nil, Nat.reduceAdd, Nat.reduceSub, Array.replicate_succ, Array.replicate_zero, List.push_toArray, List.append_toArray, List.nil_append, List.cons_append]
  gi_wp2_with fail
  refine ⟨trivial, ?_⟩
  refine (callsIn_wide.2 (reads9_any _ _)).mono ?_
  rintro e w1 ⟨rfl, rfl⟩
  dsimp only
  gi_wp2
  obtain ⟨ii, hii, hi1, hi2, hi3⟩ := info_parts infoI10
  obtain ⟨W0, hW0⟩ : ∃ W0, ((((w.alloc (.cells #[.slice A H.length c] 24)).alloc (.cells #[.int .i64 key] 3)).alloc (.cells #[.int .i64 src] 3)).alloc (.cells #[.slice none 0 0] 27)).alloc (.cells #[.slice A H.length c] 24) = W0 := ⟨_, rfl⟩
  have hs0 : W0.heap.size = w.heap.size + 5 := by rw [← hW0]; simp
  have hBW : Below w.heap.size w W0 := by rw [← hW0]; exact (((((Below.refl _ w).alloc (Nat.le_refl _) _).alloc (by simp) _).alloc (by simp; omega) _).alloc (by simp; omega) _).alloc (by simp; omega) _
  have k1 : Blk W0 (w.heap.size + 1) 3 #[.int .i64 key] := by
    rw [← hW0]
    have := Blk.new (w.alloc (.cells #[.slice A H.length c] 24)) 3 #[.int .i64 key]
    simp only [World.size_alloc] at this
    exact ((this.alloc _).alloc _).alloc _
  have k2 : Blk W0 (w.heap.size + 2) 3 #[.int .i64 src] := by
    rw [← hW0]
    have := Blk.new ((w.alloc (.cells #[.slice A H.length c] 24)).alloc (.cells #[.int .i64 key] 3)) 3 #[.int .i64 src]
    simp only [World.size_alloc] at this
    exact (this.alloc _).alloc _
  have k3 : Blk W0 (w.heap.size + 3) 27 #[.slice none 0 0] := by
    rw [← hW0]
    have := Blk.new (((w.alloc (.cells #[.slice A H.length c] 24)).alloc (.cells #[.int .i64 key] 3)).alloc (.cells #[.int .i64 src] 3)) 27 #[.slice none 0 0]
    simp only [World.size_alloc] at this
    exact this.alloc _
  have k4 : Blk W0 (w.heap.size + 4) 24 #[.slice A H.length c] := by
    rw [← hW0]
    have := Blk.new ((((w.alloc (.cells #[.slice A H.length c] 24)).alloc (.cells #[.int .i64 key] 3)).alloc (.cells #[.int .i64 src] 3)).alloc (.cells #[.slice none 0 0] 27)) 24 #[.slice A H.length c]
    simp only [World.size_alloc] at this
    exact this
  simp only [World.size_alloc]
  rw [hW0]
  have h2 : TxnS W0 (fun b => b < w.heap.size) (.slice A H.length c) H := TxnS.keep h (Agree.below hBW fun b h => h) (fun b h => h)
  have c4 := k4.cell 0
  simp only [List.getElem?_toArray, List.getElem?_cons_zero] at c4
  clear hW0
  have hRl0 := readsL_len hn hr
  refine wpIn_rangeFunc_ownH hro (by omega) (gf := 72) (lb := #[.pointer (some ⟨w.heap.size + 4, 0, none⟩)]) rfl trivial (enters_of Tryd.func72 (by kernel_rfl) rfl)
    (reads9_stops (w.heap.size + 4) w.heap.size c A H hn hr W0 (by omega) (by omega) c4 h2) (fun h k => h.trans k) (belowK_put (by omega)) (Below.refl _ _) (fun _ => rfl)
    (fun pre W => ((∃ v, Boxed W (w.heap.size + 3) 27 v ∧ W.ownsRow (w.heap.size + 5) 3 1 v (intsN (selR key src pre)).length ((intsN (selR key src pre)).map Go.Inq.encI).flatten ∧ True) ∧ (Boxed W (w.heap.size + 1) 3 (.int .i64 key) ∧ Boxed W (w.heap.size + 2) 3 (.int .i64 src) ∧ w.heap.size + 5 ≤ W.heap.size)) ∧ Below w.heap.size w W)
    (fun cc pre W => False)
    (OwnFrom.and (OwnFrom.and (Own.from (holdsRow_own (w.heap.size + 5) (w.heap.size + 3) 27 3 1 (fun pre => (intsN (selR key src pre)).length) (fun pre => ((intsN (selR key src pre)).map Go.Inq.encI).flatten) (fun _ _ => True)) _) (Own.from (fun s A B row hs hg hr => ⟨boxed_own hs.1 hg hr, boxed_own hs.2.1 hg hr, Nat.le_trans hs.2.2 hg.size⟩) _)) (ownFrom_below (Nat.le_refl _) (by omega)))
    (fun cc s A B row hs hg hr => hs)
    ⟨⟨⟨.slice none 0 0, k3, World.ownsRow_nil _ _ _ _, trivial⟩, k1, k2, by omega⟩, hBW⟩
    (fun x a' W => ∃ B8, a' = { tmps := #[.agg #[.slice A H.length c], .int .i64 key, .int .i64 src, .pointer (some ⟨w.heap.size, 0, none⟩), .pointer (some ⟨w.heap.size + 1, 0, none⟩), .pointer (some ⟨w.heap.size + 2, 0, none⟩), .slice none 0 0, .pointer (some ⟨w.heap.size + 3, 0, none⟩), .pointer (some ⟨B8, 0, none⟩), .agg #[.slice A H.length c], .func (.func 72) #[] #[.pointer (some ⟨w.heap.size + 4, 0, none⟩)], encRd x, undef, undef, undef, undef, undef, undef, undef, undef, undef, undef, undef, undef, undef, undef, undef, undef, undef, undef], defers := [] } ∧ w.heap.size + 5 ≤ B8 ∧ Blk W B8 118 #[.int .i64 (x.1 : Nat), .int .i64 x.2.a, .int .i64 x.2.b])
    (fun x a' => Own.from (fun s A B row hs hg hr => by obtain ⟨B8, e, hB, hk⟩ := hs; exact ⟨B8, e, hB, hk.grown hg (fun e' => by obtain ⟨o, ho, hc⟩ := hr B8 e'.symm; rw [show A.heap[B8]? = _ from hk] at ho; cases ho; cases hc)⟩) _) ?assign ?body ?done ?stop
  case assign =>
    rintro l pre ⟨xt, xa, xb⟩ W K ⟨⟨⟨v, hv, hr, _⟩, hk, hs, hW5⟩, hB⟩ hK
    unfold encRd
    dsimp only
    gi_wp2
    refine hK _ _ (KeepsOthers.alloc _ _ |>.from _) ((Below.refl _ _).alloc (by omega) _) ⟨⟨⟨v, hv.alloc _, hr.alloc _, trivial⟩, hk.alloc _, hs.alloc _, by simp; omega⟩, hB.alloc (by omega) _⟩ ⟨W.heap.size, rfl, hW5, Blk.new _ _ _⟩
  case body =>
    rintro l pre ⟨xt, xa, xb⟩ a' W hl ⟨rl, hrl⟩ ⟨⟨⟨v, hv, hr, _⟩, hk, hs, hW5⟩, hB⟩ ⟨B8, rfl, hB8, k8⟩ hlen
    have e0 := k8.cell 0
    have e1 := k8.cell 1
    have e2 := k8.cell 2
    simp only [List.getElem?_toArray, List.getElem?_cons_zero, List.getElem?_cons_succ] at e0 e1 e2
    have g1 := hk.cell
    have g2 := hs.cell
    have hsn := selR_snoc key src pre (xt, ⟨xa, xb⟩)
    dsimp only at hsn e0 e1 e2
    by_cases q1 : xa = key
    · by_cases q2 : xb = src
      · have hsel : Hid (intsN (selR key src (pre ++ [(xt, ⟨xa, xb⟩)])) = intsN (selR key src pre) ++ [(xt : Int)]) := hide (by rw [hsn]; simp [q1, q2, intsN_snoc])
        have q1b : (xa == key) = true := by simpa using q1
        have q2b : (xb == src) = true := by simpa using q2
        have hpl : (intsN (selR key src pre)).length ≤ pre.length := by
          rw [intsN_len]; unfold selR; rw [List.length_map]; exact List.length_filter_le _ _
        have hRl := hRl0
        generalize intsN (selR key src pre) = L at *
        clear q1 q2 hsn
        have hl63 : L.length + 1 ≤ maxLen := by simp [maxLen]; omega
        have hl64 : (L.length + 1) * 8 ≤ 140737488355328 := by omega
        have g3 := hv.cell
        have f3 := hv.frozen
        obtain ⟨Av, cv, rfl⟩ := own_slice hr
        have hlo := hide (fun b hb => (hr.lt b hb).1)
        replace hr := hide hr
        gi_wp2_with (gi_at_builtin; refine wpListIn_push rfl (.tmp 24) (.tmp 27) 27 rfl (w.heap.size + 5) 3 ii _ 8 Tryd.underlying27 hii hi1 hi2 hi3 rfl (.slice Av L.length cv) L rfl hr.out (xt : Int) rfl hl63 hl64 hW5 ?_; intro v1 w6 hown1 hg1 hat1; obtain ⟨A1, c1, rfl⟩ := own_slice hown1; have hv1 := (hv.alloc (.cells #[.int .i64 (xt : Int)] 3)).kept hg1 (fun e => by have := hlo.out _ e.symm; omega); have g6 := hv1.cell; have f6 := hv1.frozen)
        have hk1 := (hk.alloc (.cells #[.int .i64 (xt : Int)] 3)).kept hg1 (fun e => by have := hlo.out _ e.symm; omega)
        have hs1 := (hs.alloc (.cells #[.int .i64 (xt : Int)] 3)).kept hg1 (fun e => by have := hlo.out _ e.symm; omega)
        have hz6 := hg1.size
        have hlx : (L ++ [(xt : Int)]).length = L.length + 1 := by simp
        rw [hlx] at hown1
        simp only [World.size_alloc] at hz6
        refine ⟨(((KeepsOthers.alloc W _).trans (KeepsOthers.of_grownBy hg1 fun j o ej hj => ?_)).trans (KeepsOthers.setCell _ _ _)).from _, ?_, ⟨⟨_, hv1.set _, by rw [hsel.out, hlx]; exact hown1.kept (grownBy_setCell' w6 _ _) (.inr fun e => by have := (hown1.lt _ e).1; omega)⟩, hk1.other (by omega) _, hs1.other (by omega) _, by simp; omega⟩, ?_⟩
        · rcases (hr.out.alloc (.cells #[.int .i64 (xt : Int)] 3)).2 with ⟨h1, _⟩ | ⟨g, cap, cur, h1, _, hgb, _⟩
          · rw [h1] at ej; simp [Value.ownBlock] at ej
          · rw [h1] at ej
            obtain rfl : g = j := by simpa [Value.ownBlock] using ej
            rw [hgb] at hj; cases hj; rfl
        · exact (((Below.refl w.heap.size W).alloc (by omega) _).grown hg1 (by simp; omega) (fun j ej => by have := hlo.out j ej; omega)).setCell (p := ⟨w.heap.size + 3, 0, none⟩) (by simp) _
        · exact ((hB.alloc (by omega) _).grown hg1 (by simp; omega) (fun j ej => by have := hlo.out j ej; omega)).setCell (p := ⟨w.heap.size + 3, 0, none⟩) (by simp) _
      · have hsel : selR key src (pre ++ [(xt, ⟨xa, xb⟩)]) = selR key src pre := by rw [hsn]; simp [q2]
        have q1b : (xa == key) = true := by simpa using q1
        have q2b : (xb == src) = false := by simpa using q2
        replace hsel := hide hsel
        clear q1 q2 hsn
        gi_wp2
        exact ⟨(KeepsOthers.refl _).from _, Below.refl _ _, ⟨⟨v, hv, by rw [hsel.out]; exact hr⟩, hk, hs, hW5⟩, hB⟩
    · have hsel : selR key src (pre ++ [(xt, ⟨xa, xb⟩)]) = selR key src pre := by rw [hsn]; simp [q1]
      have q1b : (xa == key) = false := by simpa using q1
      replace hsel := hide hsel
      clear q1 hsn
      gi_wp2
      exact ⟨(KeepsOthers.refl _).from _, Below.refl _ _, ⟨⟨v, hv, by rw [hsel.out]; exact hr⟩, hk, hs, hW5⟩, hB⟩
  case done =>
    rintro D xs W hD rfl ⟨⟨⟨v, hv, hr, _⟩, hk, hs, hW5⟩, hB⟩ hK
    have g1 := hv.cell
    have hsl := hide (selR_all H key src)
    obtain ⟨Av, cv, rfl⟩ := own_slice hr
    gi_wp2
    refine ⟨by simp, .inl ⟨_, _, rfl, run_takeDeferred hK, ?_⟩⟩
    refine ⟨.slice Av (intsN (selR key src (readsL H))).length cv, ?_, _, rfl, ?_, hB.trans (belowK_b (w := w) (Nat.le_refl _) W D _ _ (by omega) hK rfl rfl)⟩
    · simp [results, Tryd.results63, go_sem]
    · unfold OwnI
      rw [← hsl.out]
      exact own_base (ownsRow_putObj hr _ hK rfl) (by omega)
  case stop =>
    rintro D cc pre W hD hpre hF hK
    exact hF.elim
end Go.Proofs.YtfodlklpfffaaaaDoor
