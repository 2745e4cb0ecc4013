/-
  Walks: line.Join.
-/
import Derived.Test.YtmhgbckjkmjeeaaDoorLine2
set_option linter.unusedVariables false
set_option linter.unusedSimpArgs false
namespace Go.Proofs.YtmhgbckjkmjeeaaDoor
open Go.RowKit Go.Inq
set_option maxHeartbeats 2000000
attribute [local go_sem ↓] Go.wp_at_zero Go.wp_at_succ

/-- The builder at block b holds these bytes. -/
def Bld (b : Nat) (bs : List UInt8) (w : World) : Prop := Lib.IsBuilder 64 5 b b (Lib.byteCells bs) w
theorem Bld.new (w : World) : Bld w.heap.size [] (w.alloc (.cells #[.pointer none, .slice none 0 0] 64)) :=
  .inl ⟨Nat.le_refl _, .slice none 0 0, heap_alloc_new _ _, World.ownsRow_nil _ _ _ _, by simp [Value.ownBlock]⟩
theorem write_any (b : Nat) (bs : List UInt8) (s : ByteArray) (w : World) (h : Bld b bs w) (hl : bs.length + s.size ≤ 1000000) (hb : b ≤ w.heap.size) :
    Calls Tryd.prog 44 #[.pointer (some ⟨b, 0, none⟩), .string s] w fun e w' => ∃ r, e = .returned r ∧ Bld b (bs ++ s.data.toList) w' ∧ Below b w w' := by
  refine (Tryd.Builder_WriteString b b (Lib.byteCells bs) s w h (by rw [Lib.byteCells_length]; omega) hb).mono fun e w' h => ⟨_, h.1, .inr ?_, h.2.2⟩
  have := h.2.1
  rw [Lib.strCells_eq, ← Lib.byteCells_append] at this
  exact this

set_option maxRecDepth 100000 in
theorem ljoin_any (A : Option Addr) (c : Nat) (l : List ByteArray) (w : World) (h : StrS w (Old w) (.slice A l.length c) l) (hn : l.length ≤ 1000000) (hsum : (joinL (byt l)).length ≤ 1000000) (hg : Glob w) :
    Calls Tryd.prog 40 #[.slice A l.length c] w fun e w' => e = .returned (.tuple #[.string (mk (joinR (byt l)).1), .int .i64 (joinR (byt l)).2]) ∧ Below w.heap.size w w' := by
  have hbl : Hid ((byt l).length = l.length) := by unfold Hid byt; simp
  by_cases hl : 400 < l.length
  · have hl2 : (400 : Int) < (l.length : Int) := by omega
    have hr : Hid (joinR (byt l) = ([], 4)) := by unfold Hid joinR; rw [if_pos (by rw [hbl.out]; exact hl)]
    go_enter Tryd.func40, Tryd.ntmps40
    go_wp2
    go_ret2
    exact ⟨by rw [hr.out]; rfl, Below.refl _ _⟩
  · have hl2 : ¬ (400 : Int) < (l.length : Int) := by omega
    have hle := hide (joinL_le l)
    have hnew := Bld.new w
    have B0 : Below w.heap.size w (w.alloc (.cells #[.pointer none, .slice none 0 0] 64)) := (Below.refl _ _).alloc (Nat.le_refl _) _
    go_enter Tryd.func40, Tryd.ntmps40
    go_wp2
    go_loopw [6, 12] (fun _ s12 wr => ∃ i : Nat, i ≤ l.length ∧ s12 = .int .i64 i ∧ Bld w.heap.size (joinL (byt (l.take i))) wr ∧ Below w.heap.size w wr ∧ Hid (∀ j (hj : j < l.length), j < i → ¬ 10 ∈ l[j].data.toList)) (fun _ s12 _ => l.length - (intOf s12).toNat)
    case atStart => exact ⟨0, Nat.zero_le _, by go_num, hnew, B0, fun j _ h => absurd h (by omega)⟩
    case round =>
      obtain ⟨i, hi, rfl, hB, hb, hall⟩ := hrel
      have hgr := Glob.below hg hb
      by_cases hlt : i < l.length
      · have hwr := StrS.keep h (Agree.below hb fun _ h => h) (fun _ h => h)
        obtain ⟨b, off, rfl, hbK, c0⟩ := StrS.at_ hwr hlt
        have hi1 : (0 : Int) ≤ (i : Int) := Int.natCast_nonneg _
        have hi2 : (i : Int) < (l.length : Int) := by omega
        have ht := hide (joinL_take hlt)
        have hmem : Hid (l[i] ∈ l) := List.getElem_mem hlt
        have hl1 := hle.out i
        have hl3 := hle.out (i + 1)
        have hsz : l[i].size ≤ 1000000 ∧ (joinL (byt (l.take i))).length + (l[i].size + 1) ≤ 1000000 := by
          have := congrArg List.length ht.out
          rw [List.length_append, List.length_append, ← Lib.size_eq, List.length_singleton] at this
          omega
        have hnx : Hid (joinL (byt (l.take i)) ++ (l[i] ++ ({ data := #[10] } : ByteArray)).data.toList = joinL (byt (l.take (i + 1)))) := by
          unfold Hid
          rw [ht.out, data_append', List.append_assoc]
        have hxs : (l[i] ++ ({ data := #[10] } : ByteArray)).size = l[i].size + 1 := by rw [ByteArray.size_append]; rfl
        have hstep : Hid (¬ 10 ∈ l[i].data.toList → ∀ j (hj : j < l.length), j < i + 1 → ¬ 10 ∈ l[j].data.toList) := fun hh j hj hji => by
          by_cases hje : j = i
          · subst hje; exact hh
          · exact hall.out j hj (by omega)
        clear hl1 hl3 ht
        generalize l[i] = x at *
        generalize joinL (byt (l.take i)) = F at *
        have hx2 : x.size + 1 ≤ 9223372036854775807 := by omega
        have hcon := contains_any x wr hsz.1 hgr
        by_cases hc : 10 ∈ x.data.toList
        · rw [decide_eq_true hc] at hcon
          have hr : Hid (joinR (byt l) = ([], 1)) := by
            unfold Hid joinR
            rw [if_neg (by rw [hbl.out]; exact hl), if_pos ⟨x.data.toList, List.mem_map.2 ⟨x, hmem.out, rfl⟩, hc⟩]
          clear hc
          replace hcon := hide hcon
          replace hxs := hide hxs
          go_wp2_with (go_at_call 51; refine hcon.out.mono ?_; rintro e w' ⟨rfl, rfl⟩)
          go_ret2
          exact ⟨by rw [hr.out]; rfl, hb⟩
        · rw [decide_eq_false hc] at hcon
          have hstep2 := hide (hstep.out hc)
          have hwri := write_any w.heap.size F (x ++ ({ data := #[10] } : ByteArray)) wr hB (by rw [hxs]; exact hsz.2) hb.size
          clear hc
          replace hcon := hide hcon
          replace hxs := hide hxs
          rw [hnx.out] at hwri
          replace hwri := hide hwri
          go_wp2_with (first | (go_at_call 51; refine hcon.out.mono ?_; rintro e w' ⟨rfl, rfl⟩) | (go_at_call 44; refine hwri.out.mono ?_; rintro e w1 ⟨r, rfl, hB1, hb1⟩))
          go_roundw
          case rel => exact ⟨i + 1, by omega, by go_num, hB1, hb.trans (hb1.mono (Nat.le_refl _)), hstep2⟩
          case measure => simp [intOf]; omega
      · have : i = l.length := by omega
        subst this
        rw [List.take_length] at hB
        have hr : Hid (joinR (byt l) = (joinL (byt l), 0)) := by
          unfold Hid joinR
          rw [if_neg (by rw [hbl.out]; exact hl), if_neg]
          · rfl
          · rintro ⟨w, hw, h10⟩
            obtain ⟨s, hs, rfl⟩ := List.mem_map.1 hw
            obtain ⟨j, hj, rfl⟩ := List.getElem_of_mem hs
            exact hall.out j hj hj h10
        have hst := hide (Tryd.Builder_String_any w.heap.size w.heap.size (joinL (byt l)) wr hB hb.size)
        go_wp2_with (go_at_call 45; refine hst.out.mono ?_; rintro e w1 ⟨rfl, hb1⟩)
        go_ret2
        exact ⟨by rw [hr.out]; rfl, hb.trans (hb1.mono (Nat.le_refl _))⟩
end Go.Proofs.YtmhgbckjkmjeeaaDoor
