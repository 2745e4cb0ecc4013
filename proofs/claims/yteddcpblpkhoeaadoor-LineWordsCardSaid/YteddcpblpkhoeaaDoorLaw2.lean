/-
  Walks: the examples of layer 2.
-/
import Derived.Test.YteddcpblpkhoeaaDoorLine2W
set_option linter.unusedVariables false
set_option linter.unusedSimpArgs false
namespace Go.Proofs.YteddcpblpkhoeaaDoor
open Go.RowKit Go.Inq
set_option maxHeartbeats 2000000
attribute [local go_sem ↓] Go.wp_at_zero Go.wp_at_succ

theorem RowOut.open {r : List (List UInt8) × Int} {w : World} {e : Ending} {w' : World} (h : RowOut r w e w') :
    ∃ A c, e = .returned (.tuple #[.slice A r.1.length c, .int .i64 r.2]) ∧ StrS w' (fun b => w.heap.size ≤ b ∧ b < w'.heap.size) (.slice A r.1.length c) (r.1.map mk) ∧ Below w.heap.size w w' := by
  obtain ⟨v, he, hv, hb⟩ := h
  obtain ⟨A, c, rfl⟩ := StrS.form hv
  rw [List.length_map] at he hv
  exact ⟨A, c, he, hv, hb⟩
theorem toList_lit (l : List UInt8) : ByteArray.toList { data := l.toArray } = l := by rw [Lib.toList_data]

set_option maxRecDepth 100000 in
theorem awake02_any (w : World) (hg : Glob w) : Calls Tryd.prog 7 #[] w fun e w' => e = .returned (.bool true) ∧ Below w.heap.size w w' := by
  have f1 : splitR (({ data := #[97, 10, 10] } : ByteArray)).data.toList = ([[97], []], 0) := by rfl
  have f2 : wordsR (({ data := #[114, 101, 97, 100, 32, 49, 32, 50, 32, 48] } : ByteArray)).data.toList = ([[114, 101, 97, 100], [49], [50], [48]], 0) := by rfl
  have f3 : joinR (byt [mk [97], mk []]) = ([97, 10, 10], 0) := by rfl
  have f4 : wordsR (({ data := #[97, 32, 32, 98] } : ByteArray)).data.toList = ([], 2) := by rfl
  have f5 : splitR (({ data := #[97] } : ByteArray)).data.toList = ([], 2) := by rfl
  replace f1 := hide f1
  replace f2 := hide f2
  replace f3 := hide f3
  replace f4 := hide f4
  replace f5 := hide f5
  go_enter Tryd.func7, Tryd.ntmps7
  go_wp2_with fail
  refine (lsplit_any _ _ (by decide) hg).mono ?_
  intro e w1 h1
  rw [f1.out] at h1
  obtain ⟨A1, c1, rfl, hl1, hb1⟩ := RowOut.open h1
  have g1 := hg.below hb1
  clear h1
  go_wp2_with fail
  refine (lwords_any _ _ (by decide) g1).mono ?_
  intro e w2 h2
  rw [f2.out] at h2
  obtain ⟨A2, c2, rfl, hl2, hb2⟩ := RowOut.open h2
  have g2 := g1.below hb2
  have B2 := hb1.trans (hb2.mono hb1.size)
  have hl1' : StrS w2 (Old w2) _ _ := StrS.below (StrS.fit hl1 (fun b hb => hb.2)) hb2
  have hl2' : StrS w2 (Old w2) _ _ := StrS.fit hl2 (fun b hb => hb.2)
  have s2 := B2.size
  clear h2 hl1 hl2 hb1 hb2
  have hup : Below w2.heap.size w2 (w2.alloc (.cells #[.string { data := #[97] }, .string { data := #[] }] 9)) := (Below.refl _ _).alloc (Nat.le_refl _) _
  have hblk : Blk (w2.alloc (.cells #[.string { data := #[97] }, .string { data := #[] }] 9)) w2.heap.size 9 (([mk [97], mk []].map Value.string).toArray) := Blk.new _ _ _
  have hl3 : StrS (w2.alloc (.cells #[.string { data := #[97] }, .string { data := #[] }] 9)) (Old (w2.alloc (.cells #[.string { data := #[97] }, .string { data := #[] }] 9))) (.slice (some ⟨w2.heap.size, 0, none⟩) 2 2) [mk [97], mk []] := StrS.of_blk hblk (by show w2.heap.size < _; simp)
  have g3 := g2.below hup
  have hl1'' := StrS.below hl1' hup
  have hl2'' := StrS.below hl2' hup
  have B3 := B2.trans (hup.mono B2.size)
  clear hl1' hl2' hblk hup B2
  replace g3 := hide g3
  go_wp2_with fail
  refine (ljoin_any (some ⟨w2.heap.size, 0, none⟩) 2 [mk [97], mk []] _ hl3 (by decide) (by decide) g3.out).mono ?_
  rw [f3.out]
  rintro e w3 ⟨rfl, hb3⟩
  have g4 := g3.out.below hb3
  have B4 := B3.trans (hb3.mono B3.size)
  have k1 := StrS.below hl1'' hb3
  have k2 := StrS.below hl2'' hb3
  clear hl1'' hl2'' hl3 hb3 B3 g3
  go_wp2_with fail
  refine (lwords_any _ _ (by decide) g4).mono ?_
  intro e w4 h4
  rw [f4.out] at h4
  obtain ⟨A4, c4, rfl, hl4, hb4⟩ := RowOut.open h4
  have g5 := g4.below hb4
  have B5 := B4.trans (hb4.mono B4.size)
  replace k1 := StrS.below k1 hb4
  replace k2 := StrS.below k2 hb4
  clear h4 hl4 hb4 B4 g4
  go_wp2_with fail
  refine (lsplit_any _ _ (by decide) g5).mono ?_
  intro e w5 h5
  rw [f5.out] at h5
  obtain ⟨A5, c5, rfl, hl5, hb5⟩ := RowOut.open h5
  have B6 := B5.trans (hb5.mono B5.size)
  replace k1 := StrS.below k1 hb5
  replace k2 := StrS.below k2 hb5
  clear h5 hl5 hb5 B5 g5
  have hup : Below w5.heap.size w5 (w5.alloc (.cells #[.string { data := #[97] }, .string { data := #[] }] 9)) := (Below.refl _ _).alloc (Nat.le_refl _) _
  have hblk : Blk (w5.alloc (.cells #[.string { data := #[97] }, .string { data := #[] }] 9)) w5.heap.size 9 (([mk [97], mk []].map Value.string).toArray) := Blk.new _ _ _
  have hl6 : StrS (w5.alloc (.cells #[.string { data := #[97] }, .string { data := #[] }] 9)) (Old (w5.alloc (.cells #[.string { data := #[97] }, .string { data := #[] }] 9))) (.slice (some ⟨w5.heap.size, 0, none⟩) 2 2) [mk [97], mk []] := StrS.of_blk hblk (by show w5.heap.size < _; simp)
  have k1' := StrS.below k1 hup
  have k2' := StrS.below k2 hup
  have B7 := B6.trans (hup.mono B6.size)
  clear hblk hup B6 k1 k2
  go_wp2_with fail
  refine (same02_any A1 (some ⟨w5.heap.size, 0, none⟩) c1 2 [mk [97], mk []] [mk [97], mk []] _ k1' hl6 (by decide) (by decide)).mono ?_
  rintro e w7 ⟨rfl, hb7⟩
  have B8 := B7.trans (hb7.mono B7.size)
  have k3 := StrS.below k2' hb7
  clear k1' k2' hl6 hb7 B7
  simp only [decide_true]
  have hup : Below w7.heap.size w7 (w7.alloc (.cells #[.string { data := #[114, 101, 97, 100] }, .string { data := #[49] }, .string { data := #[50] }, .string { data := #[48] }] 9)) := (Below.refl _ _).alloc (Nat.le_refl _) _
  have hblk : Blk (w7.alloc (.cells #[.string { data := #[114, 101, 97, 100] }, .string { data := #[49] }, .string { data := #[50] }, .string { data := #[48] }] 9)) w7.heap.size 9 (([mk [114, 101, 97, 100], mk [49], mk [50], mk [48]].map Value.string).toArray) := Blk.new _ _ _
  have hl7 : StrS (w7.alloc (.cells #[.string { data := #[114, 101, 97, 100] }, .string { data := #[49] }, .string { data := #[50] }, .string { data := #[48] }] 9)) (Old (w7.alloc (.cells #[.string { data := #[114, 101, 97, 100] }, .string { data := #[49] }, .string { data := #[50] }, .string { data := #[48] }] 9))) (.slice (some ⟨w7.heap.size, 0, none⟩) 4 4) [mk [114, 101, 97, 100], mk [49], mk [50], mk [48]] := StrS.of_blk hblk (by show w7.heap.size < _; simp)
  have k3' := StrS.below k3 hup
  have B9 := B8.trans (hup.mono B8.size)
  clear hblk hup B8 k3
  go_wp2_with fail
  refine (same02_any A2 (some ⟨w7.heap.size, 0, none⟩) c2 4 [mk [114, 101, 97, 100], mk [49], mk [50], mk [48]] [mk [114, 101, 97, 100], mk [49], mk [50], mk [48]] _ k3' hl7 (by decide) (by decide)).mono ?_
  rintro e w9 ⟨rfl, hb9⟩
  have B10 := B9.trans (hb9.mono B9.size)
  clear hl7 k3' hb9 B9
  simp only [decide_true]
  have hcmp : (mk [97, 10, 10]).toList = [97, 10, 10] := by rw [Lib.toList_data]; rfl
  go_wp2
  go_ret
  exact ⟨by simp, B10⟩
end Go.Proofs.YteddcpblpkhoeaaDoor
