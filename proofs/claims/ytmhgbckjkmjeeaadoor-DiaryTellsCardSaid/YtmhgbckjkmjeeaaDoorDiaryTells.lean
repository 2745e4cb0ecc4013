/-
  Walks: DiaryTells.
-/
import Derived.Test.YtmhgbckjkmjeeaaDoorLaw4
set_option linter.unusedVariables false
set_option linter.unusedSimpArgs false
namespace Go.Proofs.YtmhgbckjkmjeeaaDoor
open Go.RowKit Go.Inq
set_option maxHeartbeats 4000000
attribute [local go_sem ↓] Go.wp_at_zero Go.wp_at_succ

set_option maxRecDepth 100000 in
theorem diaryTells_any (s : ByteArray) (A : Option Addr) (c : Nat) (l : List Ev) (w : World) (hs : s.size ≤ maxLen) (h : EvS w (Old w) (.slice A l.length c) l) (hn : l.length ≤ maxLen) (henv : Env w) :
    Calls Tryd.prog 7 #[.string s, .slice A l.length c] w fun e w' => e = .returned (.bool true) ∧ Below w.heap.size w w' := by
  have hs2 : s.size ≤ 9223372036854775807 := hs
  have hn2 : l.length ≤ 9223372036854775807 := hn
  go_enter Tryd.func7, Tryd.ntmps7
  go_wp2_with fail
  refine (awake04_any w henv).mono ?_
  rintro e w1 ⟨rfl, B1⟩
  have e1 := henv.below B1
  have k1 := EvS.below h B1
  by_cases q0 : 4000 < s.size
  · have d0 : decide ((4000 : Int) < (s.size : Int)) = true := by simp; omega
    go_wp2
    go_ret
    exact ⟨by simp, B1⟩
  have d0 : decide ((4000 : Int) < (s.size : Int)) = false := by simp; omega
  by_cases q1 : 500 < l.length
  · have d1 : decide ((500 : Int) < (l.length : Int)) = true := by simp; omega
    go_wp2
    go_ret
    exact ⟨by simp, B1⟩
  have d1 : decide ((500 : Int) < (l.length : Int)) = false := by simp; omega
  have q3 : s.size ≤ 1000000 := by omega
  clear h henv
  have hdl := diaryR_len s.data.toList
  have pa := fun w h => dparse_any s w q3 h
  have pb := fun w => rdparse_any s w q3
  generalize diaryR s.data.toList = r at *
  obtain ⟨rl, at_, f⟩ := r
  dsimp only at hdl
  have sa := fun A c w h => dshow_any A c l w h hn
  have sb := fun A c w h => rdshow_any A c l w h hn
  generalize showD l = t at *
  obtain ⟨tx, g⟩ := t
  go_wp2_with fail
  refine (pa _ e1).mono ?_
  intro e w2 ho
  obtain ⟨A2, c2, rfl, ka, hb2⟩ := ho.open
  have B2 := B1.trans (hb2.mono B1.size)
  have e2 := e1.below hb2
  have k2 := EvS.below k1 hb2
  clear ho hb2 e1 k1 B1
  go_wp2_with fail
  refine (pb _).mono ?_
  intro e w3 ho
  obtain ⟨A3, c3, rfl, kb, hb3⟩ := ho.open
  have B3 := B2.trans (hb3.mono B2.size)
  have e3 := e2.below hb3
  have k3 := EvS.below k2 hb3
  replace ka := EvS.below ka hb3
  clear ho hb3 e2 k2 B2
  go_wp2_with fail
  refine (sa _ _ _ k3 e3).mono ?_
  rintro e w4 ⟨rfl, hb4⟩
  have B4 := B3.trans (hb4.mono B3.size)
  have k4 := EvS.below k3 hb4
  replace ka := EvS.below ka hb4
  replace kb := EvS.below kb hb4
  clear hb4 e3 k3 B3
  go_wp2_with fail
  refine (sb _ _ _ k4).mono ?_
  rintro e w5 ⟨rfl, hb5⟩
  have B5 := B4.trans (hb5.mono B4.size)
  replace ka := EvS.below ka hb5
  replace kb := EvS.below kb hb5
  clear hb5 k4 B4
  go_wp2_with fail
  refine (same03_any A2 A3 c2 c3 rl rl _ ka kb (by omega) (by omega)).mono ?_
  rintro e w6 ⟨rfl, hb6⟩
  simp only [decide_true]
  go_wp2
  go_ret
  exact ⟨by simp, B5.trans (hb6.mono B5.size)⟩
end Go.Proofs.YtmhgbckjkmjeeaaDoor
