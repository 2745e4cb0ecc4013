/-
  Walks: the reference of layer 2: Split.
-/
import Derived.Test.YtphcebgpllecjaaGreatDoorC16
import Derived.Test.YtphcebgpllecjaaGreatDoorC17
import Derived.Test.YtphcebgpllecjaaGreatDoorC02
set_option linter.unusedVariables false
set_option linter.unusedSimpArgs false
namespace Go.Proofs.YtphcebgpllecjaaGreatDoor
open Go.RowKit Go.Inq
set_option maxHeartbeats 1000000
attribute [local go_sem ↓] Go.wp_at_zero Go.wp_at_succ
set_option maxRecDepth 100000 in
theorem rsplit_any (s : ByteArray) (w : World) (hs : s.size ≤ 1000000) : Calls Tryz.prog 36 #[.string s] w (RowOut (splitR s.data.toList) w) := by
  obtain ⟨i0, hi0, hz0, hz1, hz2⟩ := info_parts infoS
  have hsl : Hid (s.size = s.data.toList.length) := Lib.size_eq s
  have hge : ∀ i (h : i < s.size), s[i] = s.data.toList[i]'(by rw [← hsl.out]; exact h) := fun i h => by
    have := Lib.data_getElem? s i h
    rw [List.getElem?_eq_getElem (by rw [← hsl.out]; exact h)] at this
    exact (Option.some.inj this).symm
  replace hge := hide hge
  have hlast : ∀ (h : 0 < s.size), s.data.toList.getLast? = some (s[s.size - 1]'(by omega)) := fun h => by
    have hq := hsl.out
    rw [List.getLast?_eq_getElem?, List.getElem?_eq_getElem (by omega), hge.out _ (by omega)]
    simp only [hq]
  replace hlast := hide hlast
  have hne : Hid (0 < s.size → s.data.toList ≠ []) := fun h e => by have := hsl.out; rw [e, List.length_nil] at this; omega
  have hcase : (∃ h : 0 < s.size, s[s.size - 1]'(by omega) ≠ 10) ∨ (0 < s.size → ∃ h : 0 < s.size, s[s.size - 1]'(by omega) = 10) := by
    by_cases h : ∃ h : 0 < s.size, s[s.size - 1]'(by omega) ≠ 10
    · exact .inl h
    · refine .inr fun h2 => ⟨h2, ?_⟩
      rcases Decidable.em (s[s.size - 1]'(by omega) = 10) with h3 | h3
      · exact h3
      · exact absurd ⟨h2, h3⟩ h
  rcases hcase with ⟨h0, h1⟩ | h0
  · have hd : decide ((0 : Int) < (s.size : Int)) = true := by simp; omega
    have hb : (((s[s.size - 1]'(by omega)).toNat : Int) != 10) = true := by
      simp only [bne_iff_ne]
      intro e
      exact h1 (UInt8.toNat_inj.1 (by simpa using Int.ofNat_inj.1 e))
    have hr : Hid (splitR s.data.toList = ([], 2)) := by
      unfold Hid splitR
      rw [if_pos ⟨hne.out h0, by rw [hlast.out h0]; intro e; injection e with e; exact h1 e⟩]
    clear h1
    go_enter Tryz.func36, Tryz.ntmps36
    go_wp2
    go_ret2
    exact ⟨.slice none 0 0, by rw [hr.out]; rfl, by rw [hr.out]; exact StrS.nil _ _ _ _, Below.refl _ _⟩
  · have hr : Hid (splitR s.data.toList = if 400 < (segs 10 s.data.toList).1.length then ([], 4) else ((segs 10 s.data.toList).1, 0)) := by
      unfold Hid splitR
      rw [if_neg]
      rintro ⟨g1, g2⟩
      have hp : 0 < s.size := by
        rcases Nat.eq_zero_or_pos s.size with h | h
        · exact absurd (List.eq_nil_of_length_eq_zero (by rw [← hsl.out]; exact h)) g1
        · exact h
      obtain ⟨_, h3⟩ := h0 hp
      rw [hlast.out hp, h3] at g2
      exact g2 rfl
    have hg : ((decide ((0 : Int) < (s.size : Int)) = false ∧ s.size ≤ 0) ∨ ∃ h : 0 < s.size, decide ((0 : Int) < (s.size : Int)) = true ∧ (((s[s.size - 1]'(by omega)).toNat : Int) != 10) = false) := by
      rcases Nat.eq_zero_or_pos s.size with h | h
      · left; exact ⟨by rw [h]; rfl, by omega⟩
      · right
        obtain ⟨_, h3⟩ := h0 h
        exact ⟨h, by simp; omega, by rw [h3]; rfl⟩
    clear h0 hlast hne
    rcases hg with ⟨hd, hz⟩ | ⟨hp, hd, hb⟩
    · have hl0 : s.data.toList = [] := List.eq_nil_of_length_eq_zero (by rw [← hsl.out]; omega)
      have hr0 : Hid (splitR s.data.toList = ([], 0)) := by unfold Hid; rw [hl0]; rfl
      clear hl0 hge
      go_enter Tryz.func36, Tryz.ntmps36
      go_wp2
      go_loop [4, 5, 6] (fun s4 _ s6 => s4 = .slice none 0 0 ∧ s6 = .int .i64 0) (fun _ _ _ => 0)
      case atStart => exact ⟨rfl, rfl⟩
      case round =>
        obtain ⟨rfl, rfl⟩ := hrel
        go_wp2
        go_ret2
        exact ⟨.slice none 0 0, by rw [hr0.out]; rfl, by rw [hr0.out]; exact StrS.nil _ _ _ _, Below.refl _ _⟩
    · go_enter Tryz.func36, Tryz.ntmps36
      go_wp2
      go_loopw [4, 5, 6] (fun s4 s5 s6 wr => ∃ i f : Nat, i ≤ s.size ∧ f ≤ i ∧ s6 = .int .i64 i ∧ s5 = .int .i64 f ∧ Hid ((s.data.toList.drop f).take (i - f) = (segs 10 (s.data.toList.take i)).2) ∧
          wr.ownsRow w.heap.size 9 1 s4 ((segs 10 (s.data.toList.take i)).1.map mk).length ((((segs 10 (s.data.toList.take i)).1.map mk)).map encS).flatten ∧ Below w.heap.size w wr) (fun _ _ s6 _ => s.size - (intOf s6).toNat)
      case atStart => exact ⟨0, 0, Nat.zero_le _, Nat.zero_le _, by go_num, by go_num, rfl, World.ownsRow_nil _ _ _ _, Below.refl _ _⟩
      case round =>
        obtain ⟨i, f, hi, hfi, rfl, rfl, hcur, hown, hb⟩ := hrel
        by_cases hlt : i < s.size
        · have hi1 : (0 : Int) ≤ (i : Int) := Int.natCast_nonneg _
          have hi2 : (i : Int) < (s.size : Int) := by omega
          have hf1 : (0 : Int) ≤ (f : Int) := Int.natCast_nonneg _
          have hf2 : (f : Int) ≤ (i : Int) := by omega
          have hf3 : (f : Int) ≤ (s.size : Int) := by omega
          have hst := hide (segs_take (c := 10) (l := s.data.toList) (i := i) (by rw [← hsl.out]; exact hlt))
          have hlen := segs_len 10 (s.data.toList.take i)
          have hlen2 : (s.data.toList.take i).length ≤ i := List.length_take_le _ _
          have hml : Hid (((segs 10 (s.data.toList.take i)).1.map mk).length = (segs 10 (s.data.toList.take i)).1.length) := by unfold Hid; simp
          have hex := hide (mk_extract s f i)
          have hnext := hide (drop_take_succ (l := s.data.toList) hfi (by rw [← hsl.out]; exact hlt))
          have hgi := hide (hge.out i hlt)
          by_cases hc : s[i] = 10
          · have hc' : (((s[i]).toNat : Int) == 10) = true := by rw [hc]; rfl
            have hst2 : Hid (segs 10 (s.data.toList.take (i + 1)) = ((segs 10 (s.data.toList.take i)).1 ++ [(segs 10 (s.data.toList.take i)).2], [])) := by
              unfold Hid; rw [hst.out, ← hgi.out, hc]; exact seg_hit _ _ _
            clear hst hgi hc
            go_wp2_with (at_builtin; refine wpList_append_flat (enc := encS) rfl (.tmp 28) (.tmp 33) 68 rfl w.heap.size 9 i0 _ 1 16 Tryz.underlying68 hi0 hz0 hz1 hz2 rfl (by decide) _ (fun b => b = wr.heap.size) ((segs 10 (s.data.toList.take i)).1.map mk) rfl (hown.alloc _) (fun _ => rfl) _ [s.extract f i] rfl (SlR.one (Blk.new _ _ _) rfl rfl rfl) encS_one (by simp [maxLen]; omega) (by simp; omega) (by have := hb.size; simp; omega) ?_; intro v1 W1 hown1 hgrow1 hat1)
            go_roundw
            case rel =>
              refine ⟨i + 1, i + 1, by omega, by omega, by go_num, by go_num, ?_, ?_, (hb.alloc hb.size _).grown hgrow1 (by have := hb.size; simp; omega) (fun g hg => (hown.lt g hg).1)⟩
              · unfold Hid; rw [hst2.out]; simp
              · rw [hst2.out, List.map_append, List.map_cons, List.map_nil, ← hcur.out, ← hex.out]; exact hown1
            case measure => simp [intOf]; omega
          · have hc' : (((s[i]).toNat : Int) == 10) = false := by
              simp only [beq_eq_false_iff_ne]
              intro e
              exact hc (UInt8.toNat_inj.1 (by simpa using Int.ofNat_inj.1 e))
            have hst2 : Hid (segs 10 (s.data.toList.take (i + 1)) = ((segs 10 (s.data.toList.take i)).1, (segs 10 (s.data.toList.take i)).2 ++ [s.data.toList[i]'(by rw [← hsl.out]; exact hlt)])) := by
              unfold Hid; rw [hst.out]; exact seg_miss (fun e => hc (hgi.out.trans e)) _ _
            clear hst hgi hc
            go_wp2
            go_roundw
            case rel =>
              refine ⟨i + 1, f, by omega, by omega, by go_num, by go_num, ?_, ?_, hb⟩
              · unfold Hid; rw [hst2.out, hnext.out, hcur.out]
              · rw [hst2.out]; exact hown
            case measure => simp [intOf]; omega
        · have : i = s.size := by omega
          subst this
          have ht : Hid (s.data.toList.take s.size = s.data.toList) := by unfold Hid; rw [List.take_of_length_le (by rw [← hsl.out]; exact Nat.le_refl _)]
          rw [ht.out] at hown
          have hml : Hid (((segs 10 s.data.toList).1.map mk).length = (segs 10 s.data.toList).1.length) := by unfold Hid; simp
          have hlen := segs_len 10 s.data.toList
          have hst : StrS wr (fun b => w.heap.size ≤ b ∧ b < wr.heap.size) _ ((segs 10 s.data.toList).1.map mk) := SlR.of_flat hown rfl (fun _ => rfl) (fun g h1 h2 => ⟨h1, h2⟩)
          obtain ⟨A1, c1, rfl⟩ := StrS.form hst
          by_cases h4 : 400 < (segs 10 s.data.toList).1.length
          · have h4' : decide ((400 : Int) < (((segs 10 s.data.toList).1.map mk).length : Int)) = true := by rw [hml.out]; simp; omega
            go_wp2
            go_ret2
            exact ⟨.slice none 0 0, by rw [hr.out, if_pos h4]; rfl, by rw [hr.out, if_pos h4]; exact StrS.nil _ _ _ _, hb⟩
          · have h4' : decide ((400 : Int) < (((segs 10 s.data.toList).1.map mk).length : Int)) = false := by rw [hml.out]; simp; omega
            go_wp2
            go_ret2
            exact ⟨_, by rw [hr.out, if_neg h4]; rfl, by rw [hr.out, if_neg h4]; exact hst, hb⟩
end Go.Proofs.YtphcebgpllecjaaGreatDoor

namespace Go.Proofs.YtphcebgpllecjaaGreatDoor
open Go.RowKit Go.Inq
set_option maxHeartbeats 1000000
attribute [local go_sem ↓] Go.wp_at_zero Go.wp_at_succ
theorem infoE : (Tryz.prog.info? 56).map (fun i => (i.zero, i.size, i.bytes)) = some (some (.agg #[.int .i64 0, .int .i64 0, .int .i64 0, .int .i64 0]), 4, 32) := by kernel_rfl
theorem encE_one : ∀ (x : Ev), ∀ u ∈ x.enc, u.oneCell' = true := by
  intro x u hu
  unfold Ev.enc at hu
  simp at hu
  rcases hu with rfl | rfl | rfl | rfl <;> rfl
theorem EvS.form {w : World} {K : Nat → Prop} {v : Value} {l : List Ev} (h : EvS w K v l) : ∃ A c, v = .slice A l.length c := by
  obtain ⟨A, c, hv, _⟩ := SlR.len h
  exact ⟨A, c, hv⟩
theorem EvS.nil (w : World) (K : Nat → Prop) (A : Option Addr) (c : Nat) : EvS w K (.slice A 0 c) [] := SlR.nil _ _ _ _ _ _

/-- What a Parse of layer 4 hands back: a row of events, of its own, a place, and an error. -/
def EvOut (r : List Ev × Int × Int) (w : World) (e : Ending) (w' : World) : Prop :=
  ∃ v, e = .returned (.tuple #[v, .int .i64 r.2.1, .int .i64 r.2.2]) ∧ EvS w' (fun b => w.heap.size ≤ b ∧ b < w'.heap.size) v r.1 ∧ Below w.heap.size w w'
theorem EvOut.open {r : List Ev × Int × Int} {w : World} {e : Ending} {w' : World} (h : EvOut r w e w') :
    ∃ A c, e = .returned (.tuple #[.slice A r.1.length c, .int .i64 r.2.1, .int .i64 r.2.2]) ∧ EvS w' (Old w') (.slice A r.1.length c) r.1 ∧ Below w.heap.size w w' := by
  obtain ⟨v, he, hv, hb⟩ := h
  obtain ⟨A, c, rfl⟩ := EvS.form hv
  exact ⟨A, c, he, EvS.fit hv (fun b hb => hb.2), hb⟩

end Go.Proofs.YtphcebgpllecjaaGreatDoor
