/-
  Walks: line.Split.
-/
import Derived.Test.YtphcebgpllecjaaGreatDoorC19
import Derived.Test.YtphcebgpllecjaaGreatDoorC16
set_option linter.unusedVariables false
set_option linter.unusedSimpArgs false
namespace Go.Proofs.YtphcebgpllecjaaGreatDoor
open Go.RowKit Go.Inq
set_option maxHeartbeats 1000000
attribute [local go_sem ↓] Go.wp_at_zero Go.wp_at_succ

/-- The library's own number is there. -/
def Glob (w : World) : Prop := ∃ m, w.cell? ⟨1, 0, none⟩ = some (.int .i64 m)
theorem Glob.below {w w' : World} (h : Glob w) (hb : Below w.heap.size w w') : Glob w' := by
  obtain ⟨m, hm⟩ := h
  exact ⟨m, (hb.cell (p := ⟨1, 0, none⟩) (World.block_lt_of_cell? w _ hm)).trans hm⟩
theorem empty_iff (s : ByteArray) : s.size = 0 ↔ s.data.toList = [] := by
  rw [Lib.size_eq]
  exact List.length_eq_zero_iff

theorem suffix_any (s : ByteArray) (w : World) (hs : s.size ≤ 1000000) : Calls Tryz.prog 50 #[.string s, .string { data := #[10] }] w fun e w' => e = .returned (.bool (decide (s.data.toList.getLast? = some 10))) ∧ w = w' :=
  (Tryz.strings_HasSuffix s { data := #[10] } w (by omega)).mono fun e w' h => ⟨by rw [h.1, show (({ data := #[10] } : ByteArray)).data.toList = [10] from rfl, ends_one], h.2.symm⟩
theorem split_any (c : UInt8) (s : ByteArray) (w : World) (hs : s.size ≤ 1000000) (hg : Glob w) : Calls Tryz.prog 51 #[.string s, .string { data := #[c] }] w fun e w' =>
    e = .returned (.slice (some ⟨w.heap.size, 0, none⟩) (cuts c s.data.toList).length (cuts c s.data.toList).length) ∧ w' = w.alloc (.cells (((cuts c s.data.toList).map mk).map Value.string).toArray 9) := by
  obtain ⟨m, hm⟩ := hg
  refine (Tryz.strings_Split s { data := #[c] } m w (by omega) hm (Nat.le_refl 1)).mono fun e w' h => ?_
  obtain ⟨h1, h2⟩ := splitB_one c s
  have h3 : (cuts c s.data.toList).length = (segs c s.data.toList).1.length + 1 := by unfold cuts; simp
  refine ⟨by rw [h.1, h1, h3], ?_⟩
  rw [h.2, h2]
theorem lcontains_any (s : ByteArray) (w : World) (hs : s.size ≤ 1000000) (hg : Glob w) : Calls Tryz.prog 69 #[.string s, .string { data := #[10] }] w fun e w' => e = .returned (.bool (decide (10 ∈ s.data.toList))) ∧ w = w' := by
  obtain ⟨m, hm⟩ := hg
  exact (Tryz.strings_Contains s { data := #[10] } m w (by omega) hm).mono fun e w' h => ⟨by rw [h.1, show (({ data := #[10] } : ByteArray)).data.toList = [10] from rfl, has_one], h.2.symm⟩
theorem toList_nil : (({ data := #[] } : ByteArray)).toList = [] := by rw [Lib.toList_data]

set_option maxRecDepth 100000 in
theorem lsplit_any (s : ByteArray) (w : World) (hs : s.size ≤ 1000000) (hg : Glob w) : Calls Tryz.prog 28 #[.string s] w (RowOut (splitR s.data.toList) w) := by
  have hsl : Hid (s.size = s.data.toList.length) := Lib.size_eq s
  by_cases h0 : s.data.toList = []
  · have hr : Hid (splitR s.data.toList = ([], 0)) := by unfold Hid; rw [h0]; rfl
    have e1 : s.toList = [] := by rw [Lib.toList_data]; exact h0
    have e2 : s.toList.isEmpty = true := by rw [e1]; rfl
    have e3 : (s.toList == ByteArray.toList { data := #[] }) = true := by rw [e1, toList_nil]; rfl
    clear h0
    go_enter Tryz.func28, Tryz.ntmps28
    go_wp2
    go_ret2
    exact ⟨.slice none 0 0, by rw [hr.out]; rfl, by rw [hr.out]; exact StrS.nil _ _ _ _, Below.refl _ _⟩
  · have e2 : s.toList.isEmpty = false := by rw [Lib.toList_data]; simpa using h0
    have e3 : (s.toList == ByteArray.toList { data := #[] }) = false := by
      rw [toList_nil, Lib.toList_data]
      simpa using h0
    have e4 : ¬ s.toList = [] := by rw [Lib.toList_data]; exact h0
    by_cases h1 : s.data.toList.getLast? = some 10
    · have hsx := suffix_any s w hs
      rw [decide_eq_true h1] at hsx
      have hr : Hid (splitR s.data.toList = if 400 < (segs 10 s.data.toList).1.length then ([], 4) else ((segs 10 s.data.toList).1, 0)) := by
        unfold Hid splitR
        rw [if_neg (fun e => e.2 h1)]
      have hsp := split_any 10 s w hs hg
      have hlen := segs_len 10 s.data.toList
      rw [← hsl.out] at hlen
      have hcl : (cuts 10 s.data.toList).length = (segs 10 s.data.toList).1.length + 1 := by unfold cuts; simp
      have htk : ((cuts 10 s.data.toList).map mk).take (segs 10 s.data.toList).1.length = (segs 10 s.data.toList).1.map mk := by
        unfold cuts
        rw [List.map_append, List.take_append_of_le_length (by simp), List.take_of_length_le (by simp)]
      have hL : StrS (w.alloc (.cells (((cuts 10 s.data.toList).map mk).map Value.string).toArray 9)) (fun b => w.heap.size ≤ b ∧ b < w.heap.size + 1) (.slice (some ⟨w.heap.size, 0, none⟩) (segs 10 s.data.toList).1.length ((segs 10 s.data.toList).1.length + 1)) ((segs 10 s.data.toList).1.map mk) := by
        have hb : Blk (w.alloc (.cells (((cuts 10 s.data.toList).map mk).map Value.string).toArray 9)) w.heap.size 9 _ := Blk.new _ _ _
        have h2 := StrS.of_blk hb (K := fun b => w.heap.size ≤ b ∧ b < w.heap.size + 1) ⟨Nat.le_refl _, Nat.lt_succ_self _⟩
        have h3 := StrS.take h2 (k := (segs 10 s.data.toList).1.length) (by simp; omega)
        rw [htk, List.length_map, hcl] at h3
        exact h3
      rw [hcl] at hsp
      have hml : Hid (((segs 10 s.data.toList).1.map mk).length = (segs 10 s.data.toList).1.length) := by unfold Hid; simp
      clear hcl htk h0 h1
      replace hsx := hide hsx
      replace hsp := hide hsp
      have hB : Below w.heap.size w (w.alloc (.cells (((cuts 10 s.data.toList).map mk).map Value.string).toArray 9)) := (Below.refl _ _).alloc (Nat.le_refl _) _
      have hLs : (w.alloc (.cells (((cuts 10 s.data.toList).map mk).map Value.string).toArray 9)).heap.size = w.heap.size + 1 := by simp
      generalize hW : (w.alloc (.cells (((cuts 10 s.data.toList).map mk).map Value.string).toArray 9)) = W at *
      generalize hnn : (segs 10 s.data.toList).1.length = n at *
      have hn1 : (0 : Int) ≤ (n : Int) := Int.natCast_nonneg _
      have hn2 : (n : Int) ≤ 1000000 := by omega
      replace hLs := hide hLs
      clear hW hnn
      by_cases h4 : 400 < n
      · have h4' : decide ((400 : Int) < (n : Int)) = true := by simp; omega
        go_enter Tryz.func28, Tryz.ntmps28
        go_wp2_with (first | (go_at_call 50; refine hsx.out.mono ?_; rintro e w' ⟨rfl, rfl⟩) | (go_at_call 51; refine hsp.out.mono ?_; rintro e w' ⟨rfl, rfl⟩))
        go_ret2
        exact ⟨.slice none 0 0, by rw [hr.out, if_pos h4]; rfl, by rw [hr.out, if_pos h4]; exact StrS.nil _ _ _ _, hB⟩
      · have h4' : decide ((400 : Int) < (n : Int)) = false := by simp; omega
        go_enter Tryz.func28, Tryz.ntmps28
        go_wp2_with (first | (go_at_call 50; refine hsx.out.mono ?_; rintro e w' ⟨rfl, rfl⟩) | (go_at_call 51; refine hsp.out.mono ?_; rintro e w' ⟨rfl, rfl⟩))
        go_ret2
        exact ⟨_, by rw [hr.out, if_neg h4]; rfl, by rw [hr.out, if_neg h4]; exact StrS.fit hL (fun b hb => by rw [hLs.out]; exact hb), hB⟩
    · have hsx := suffix_any s w hs
      rw [decide_eq_false h1] at hsx
      have hr : Hid (splitR s.data.toList = ([], 2)) := by unfold Hid splitR; rw [if_pos ⟨h0, h1⟩]
      clear h0 h1
      replace hsx := hide hsx
      go_enter Tryz.func28, Tryz.ntmps28
      go_wp2_with (go_at_call 50; refine hsx.out.mono ?_; rintro e w' ⟨rfl, rfl⟩)
      go_ret2
      exact ⟨.slice none 0 0, by rw [hr.out]; rfl, by rw [hr.out]; exact StrS.nil _ _ _ _, Below.refl _ _⟩
end Go.Proofs.YtphcebgpllecjaaGreatDoor
