/-
  Walks: DiaryBack.
-/
import Derived.Test.YtmhgbckjkmjeeaaDoorLaw4
set_option linter.unusedVariables false
set_option linter.unusedSimpArgs false
namespace Go.Proofs.YtmhgbckjkmjeeaaDoor
open Go.RowKit Go.Inq
set_option maxHeartbeats 4000000
attribute [local go_sem ↓] Go.wp_at_zero Go.wp_at_succ

set_option maxRecDepth 100000 in
theorem diaryBack_any (s : ByteArray) (A : Option Addr) (c : Nat) (l : List Ev) (w : World) (hs : s.size ≤ maxLen) (h : EvS w (Old w) (.slice A l.length c) l) (hn : l.length ≤ maxLen) (henv : Env w) :
    Calls Tryd.prog 8 #[.string s, .slice A l.length c] w fun e w' => e = .returned (.bool true) ∧ Below w.heap.size w w' := by
  have hs2 : s.size ≤ 9223372036854775807 := hs
  have hn2 : l.length ≤ 9223372036854775807 := hn
  go_enter Tryd.func8, Tryd.ntmps8
  go_wp2_with fail
  refine (awake04_any w henv).mono ?_
  rintro e w1 ⟨rfl, B1⟩
  have e1 := henv.below B1
  have k1 := EvS.below h B1
  by_cases q0 : 4000 < s.size
  · have d0 : decide ((4000 : Int) < (s.size : Int)) = true := by simp; omega
    go_wp2
    go_ret
    exact ⟨by simp, B1⟩
  have d0 : decide ((4000 : Int) < (s.size : Int)) = false := by simp; omega
  by_cases q1 : 500 < l.length
  · have d1 : decide ((500 : Int) < (l.length : Int)) = true := by simp; omega
    go_wp2
    go_ret
    exact ⟨by simp, B1⟩
  have d1 : decide ((500 : Int) < (l.length : Int)) = false := by simp; omega
  have q3 : s.size ≤ 1000000 := by omega
  clear h henv
  have sa := fun A c w h => dshow_any A c l w h hn
  have hpb := fun (g : (showD l).2 = 0) => diary_back g
  have hse := fun (g : (showD l).2 ≠ 0) => showD_err g
  have htl : (showD l).1.length ≤ 1000000 := by
    by_cases g : (showD l).2 = 0
    · obtain ⟨g1, g2⟩ := showD_ok g
      rw [showD_good g1 g2]
      have := textD_len l
      unfold textD at this
      dsimp only
      omega
    · rw [hse g]; simp
  have hdl := diaryR_len s.data.toList
  have hderr := diaryR_err (l := s.data.toList)
  have hdf := diary_forth (l := s.data.toList)
  have pa := fun w h => dparse_any s w q3 h
  generalize diaryR s.data.toList = r at *
  obtain ⟨rl, at_, f⟩ := r
  dsimp only at hdl hderr hdf
  generalize showD l = t at *
  obtain ⟨tx, g⟩ := t
  dsimp only at hpb hse htl sa
  go_wp2_with fail
  refine (sa _ _ _ k1 e1).mono ?_
  rintro e w2 ⟨rfl, hb2⟩
  have B2 := B1.trans (hb2.mono B1.size)
  have e2 := e1.below hb2
  have k2 := EvS.below k1 hb2
  clear hb2 e1 k1 B1 sa
  by_cases hg : g = 0
  · subst hg
    have pt := dparse_any (mk tx) w2 (by rw [mk_size]; exact htl) e2
    rw [mk_bytes, hpb rfl] at pt
    clear hpb hse htl
    go_wp2_with fail
    refine pt.mono ?_
    intro e w3 ho
    obtain ⟨A3, c3, rfl, kb, hb3⟩ := ho.open
    have B3 := B2.trans (hb3.mono B2.size)
    have e3 := e2.below hb3
    have k3 := EvS.below k2 hb3
    clear ho hb3 e2 k2 B2 pt
    go_wp2_with fail
    refine (same03_any A A3 c c3 l l _ k3 kb (by omega) (by omega)).mono ?_
    rintro e w4 ⟨rfl, hb4⟩
    have B4 := B3.trans (hb4.mono B3.size)
    have e4 := e3.below hb4
    clear k3 kb e3 B3 hb4
    simp only [decide_true]
    go_wp2_with fail
    refine (pa _ e4).mono ?_
    intro e w5 ho
    obtain ⟨A5, c5, rfl, ka, hb5⟩ := ho.open
    have B5 := B4.trans (hb5.mono B4.size)
    have e5 := e4.below hb5
    clear ho hb5 e4 B4 pa
    by_cases hf : f = 0
    · subst hf
      have su := dshow_any A5 c5 rl w5 ka (by have : maxLen = 9223372036854775807 := rfl; omega) e5
      rw [hdf rfl] at su
      have hcmp : (mk s.data.toList).toList = s.toList := by rw [mk_of]
      clear hdf hderr
      go_wp2_with fail
      refine su.mono ?_
      rintro e w6 ⟨rfl, hb6⟩
      go_wp2
      go_ret
      exact ⟨by simp, B5.trans (hb6.mono B5.size)⟩
    · have hrl := hderr hf
      subst hrl
      have hfb : (f != 0) = true := by simpa using hf
      clear hdf hderr
      go_wp2
      go_ret
      exact ⟨by simp, B5⟩
  · have htx := hse hg
    subst htx
    have hgb : (g == 0) = false := by simpa using hg
    clear hpb hse htl
    go_wp2_with fail
    refine (pa _ e2).mono ?_
    intro e w5 ho
    obtain ⟨A5, c5, rfl, ka, hb5⟩ := ho.open
    have B5 := B2.trans (hb5.mono B2.size)
    have e5 := e2.below hb5
    clear ho hb5 e2 B2 pa k2
    have hcmp0 : (mk []).toList = [] := by rw [Lib.toList_data]; rfl
    by_cases hf : f = 0
    · subst hf
      have su := dshow_any A5 c5 rl w5 ka (by have : maxLen = 9223372036854775807 := rfl; omega) e5
      rw [hdf rfl] at su
      have hcmp : (mk s.data.toList).toList = s.toList := by rw [mk_of]
      clear hdf hderr
      go_wp2_with fail
      refine su.mono ?_
      rintro e w6 ⟨rfl, hb6⟩
      go_wp2
      go_ret
      exact ⟨by simp, B5.trans (hb6.mono B5.size)⟩
    · have hrl := hderr hf
      subst hrl
      have hfb : (f != 0) = true := by simpa using hf
      clear hdf hderr
      go_wp2
      go_ret
      exact ⟨by simp, B5⟩
end Go.Proofs.YtmhgbckjkmjeeaaDoor
