/-
  Walks: inquestlaw06.look: the face of ops, as the reference has it.
-/
import Derived.Test.YteddcpblpkhoeaaAwake
set_option linter.unusedVariables false
set_option linter.unusedSimpArgs false
namespace Go.Proofs.Yteddcpblpkhoeaa
open Go.RowKit Go.Inq
set_option maxHeartbeats 2000000
attribute [local go_sem ↓] Go.wp_at_zero Go.wp_at_succ

theorem lookR_len (l : List Ev) : (lookR l).reads.length ≤ 1000000 ∧ (lookR l).writes.length ≤ 1000000 := by
  unfold lookR
  split
  · simp
  · have := readsTo_len l 16
    have := writesTo_len l 16
    dsimp only
    omega

set_option maxRecDepth 100000 in
theorem look06_any (A : Option Addr) (c : Nat) (l : List Ev) (w : World) (h : EvS w (Old w) (.slice A l.length c) l) (hn : l.length ≤ 1000000) :
    Calls Try.prog 16 #[.slice A l.length c] w fun e w' => ∃ rv wv, e = .returned (.tuple #[.agg #[rv, wv], .int .i64 (lookR l).at_, .int .i64 (lookR l).err]) ∧
      ItS w' (fun b => w.heap.size ≤ b ∧ b < w'.heap.size) rv (lookR l).reads ∧ ItS w' (fun b => w.heap.size ≤ b ∧ b < w'.heap.size) wv (lookR l).writes ∧ Below w.heap.size w w' := by
  have hll := lookR_len l
  have k0 : Blk (w.alloc (.cells #[.slice none 0 0, .slice none 0 0] 34)) w.heap.size 34 #[.slice none 0 0, .slice none 0 0] := Blk.new _ _ _
  have B0 : Below w.heap.size w (w.alloc (.cells #[.slice none 0 0, .slice none 0 0] 34)) := (Below.refl _ _).alloc (Nat.le_refl _) _
  go_enter Try.func16, Try.ntmps16
  go_wp2_with fail
  refine (look_any 0 0 false A c l _ (EvS.below h B0) hn).mono ?_
  rintro e w1 ⟨rv, wv, rfl, hr, hw, hb1⟩
  have k1 := k0.below hb1 k0.lt
  have B1 := B0.trans (hb1.mono B0.size)
  have s1 := k1.lt
  obtain ⟨A1, c1, rfl⟩ := ItS.form hr
  obtain ⟨A2, c2, rfl⟩ := ItS.form hw
  clear k0 B0 hb1
  go_wp2_with fail
  have hup : Below w1.heap.size w1 (w1.alloc (.cells #[.slice A1 (lookR l).reads.length c1, .slice A2 (lookR l).writes.length c2] 28)) := (Below.refl _ _).alloc (Nat.le_refl _) _
  have hr1 : ItS w1 (Old w1) (.slice A1 (lookR l).reads.length c1) (lookR l).reads := ItS.fit hr (fun b hb => hb.2)
  have hw1 : ItS w1 (Old w1) (.slice A2 (lookR l).writes.length c2) (lookR l).writes := ItS.fit hw (fun b hb => hb.2)
  refine (plain_any _ _ (lookR l).reads (lookR l).writes _ (ItS.below hr1 hup) (ItS.below hw1 hup) hll.1 hll.2).mono ?_
  rintro e w2 ⟨rv2, wv2, rfl, hr2, hw2, hb2⟩
  have hb3 := hup.trans (hb2.mono hup.size)
  have k2 := k1.below hb3 s1
  have B2 := B1.trans (hb3.mono B1.size)
  have s2 := hb3.size
  obtain ⟨A3, c3, rfl⟩ := ItS.form hr2
  obtain ⟨A4, c4, rfl⟩ := ItS.form hw2
  have d0 := k2.cell 0
  have d1 := k2.cell 1
  have z0 := k2.frozen 0
  have z1 := k2.frozen 1
  simp at d0 d1
  have hr4 : ItS w2 (fun b => w.heap.size + 1 ≤ b ∧ b < w2.heap.size) (.slice A3 (lookR l).reads.length c3) (lookR l).reads := ItS.fit hr2 (fun b hb => ⟨by have := hb.1; simp at this; omega, hb.2⟩)
  have hw4 : ItS w2 (fun b => w.heap.size + 1 ≤ b ∧ b < w2.heap.size) (.slice A4 (lookR l).writes.length c4) (lookR l).writes := ItS.fit hw2 (fun b hb => ⟨by have := hb.1; simp at this; omega, hb.2⟩)
  clear hr hw hup hr1 hw1 hr2 hw2 hb2 hb3 k1 B1
  go_wp2
  refine bodyPost_ret (v := .tuple #[.agg #[.slice A3 (lookR l).reads.length c3, .slice A4 (lookR l).writes.length c4], .int .i64 (lookR l).at_, .int .i64 (lookR l).err]) (by simp [results, Try.results16, go_sem, d0, d1]) rfl ?_
  have ag : ∀ u u' : Value, Agree (fun b => w.heap.size + 1 ≤ b ∧ b < w2.heap.size) w2 ((w2.setCell ⟨w.heap.size, 0, none⟩ u).setCell ⟨w.heap.size, 1, none⟩ u') := fun u u' => (Agree.setCell _ (fun h => by have h2 : w.heap.size + 1 ≤ w.heap.size := h.1; omega) u).trans (Agree.setCell _ (fun h => by have h2 : w.heap.size + 1 ≤ w.heap.size := h.1; omega) u')
  exact ⟨_, _, rfl, ItS.keep hr4 (ag _ _) (fun b hb => ⟨by omega, by simpa using hb.2⟩), ItS.keep hw4 (ag _ _) (fun b hb => ⟨by omega, by simpa using hb.2⟩), (B2.setCell (Nat.le_refl _) _).setCell (Nat.le_refl _) _⟩
end Go.Proofs.Yteddcpblpkhoeaa
