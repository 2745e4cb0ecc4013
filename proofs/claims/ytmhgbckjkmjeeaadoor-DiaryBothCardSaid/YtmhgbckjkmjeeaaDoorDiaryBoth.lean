/-
  Walks: DiaryBoth.
-/
import Derived.Test.YtmhgbckjkmjeeaaDoorLaw4
set_option linter.unusedVariables false
set_option linter.unusedSimpArgs false
namespace Go.Proofs.YtmhgbckjkmjeeaaDoor
open Go.RowKit Go.Inq
set_option maxHeartbeats 4000000
attribute [local go_sem ↓] Go.wp_at_zero Go.wp_at_succ

set_option maxRecDepth 100000 in
theorem diaryBoth_any (s t : ByteArray) (w : World) (hs : s.size ≤ maxLen) (ht : t.size ≤ maxLen) (henv : Env w) :
    Calls Tryd.prog 10 #[.string s, .string t] w fun e w' => e = .returned (.bool true) ∧ Below w.heap.size w w' := by
  have hs2 : s.size ≤ 9223372036854775807 := hs
  have ht2 : t.size ≤ 9223372036854775807 := ht
  obtain ⟨ie, hie, hie1, hie2, hie3⟩ := info_parts infoE
  go_enter Tryd.func10, Tryd.ntmps10
  go_wp2_with fail
  refine (awake04_any w henv).mono ?_
  rintro e w1 ⟨rfl, B1⟩
  have e1 := henv.below B1
  by_cases q0 : 2000 < s.size
  · have d0 : decide ((2000 : Int) < (s.size : Int)) = true := by simp; omega
    go_wp2
    go_ret
    exact ⟨by simp, B1⟩
  have d0 : decide ((2000 : Int) < (s.size : Int)) = false := by simp; omega
  by_cases q1 : 2000 < t.size
  · have d1 : decide ((2000 : Int) < (t.size : Int)) = true := by simp; omega
    go_wp2
    go_ret
    exact ⟨by simp, B1⟩
  have d1 : decide ((2000 : Int) < (t.size : Int)) = false := by simp; omega
  have q3 : s.size ≤ 1000000 := by omega
  have q4 : t.size ≤ 1000000 := by omega
  have q5 : (s ++ t).size ≤ 1000000 := by rw [ByteArray.size_append]; omega
  have q6 : s.size + t.size ≤ 4000 := by omega
  clear henv
  have pa := fun w h => dparse_any s w q3 h
  have pb := fun w h => dparse_any t w q4 h
  have pc := fun w h => dparse_any (s ++ t) w q5 h
  rw [data_append'] at pc
  have hboth := fun h1 h2 h3 => diary_both (a := s.data.toList) (b := t.data.toList) h1 h2 h3
  have hla := diaryR_len s.data.toList
  have hlb := diaryR_len t.data.toList
  have hea := diaryR_err (l := s.data.toList)
  generalize diaryR (s.data.toList ++ t.data.toList) = rc at *
  generalize diaryR s.data.toList = ra at *
  generalize diaryR t.data.toList = rb at *
  obtain ⟨la, ata, fa⟩ := ra
  obtain ⟨lb, atb, fb⟩ := rb
  dsimp only at hboth hla hlb hea
  go_wp2_with fail
  refine (pa _ e1).mono ?_
  intro e w2 ho
  obtain ⟨A2, c2, rfl, ka, hb2⟩ := ho.open
  have B2 := B1.trans (hb2.mono B1.size)
  have e2 := e1.below hb2
  clear ho hb2 e1 B1
  go_wp2_with fail
  refine (pb _ e2).mono ?_
  intro e w3 ho
  obtain ⟨A3, c3, rfl, kb, hb3⟩ := ho.open
  have B3 := B2.trans (hb3.mono B2.size)
  have e3 := e2.below hb3
  replace ka := EvS.below ka hb3
  clear ho hb3 e2 B2 pa pb
  by_cases ga : fa = 0
  · subst ga
    by_cases gb : fb = 0
    · subst gb
      by_cases gl : la.length + lb.length ≤ 400
      · have hrc := hboth rfl rfl gl
        subst hrc
        have hlc0 : (la ++ lb).length ≤ 400 := by rw [List.length_append]; exact gl
        generalize hlc : la ++ lb = lc at *
        replace hlc := hide hlc
        have gl2 : ¬ (400 : Int) < (la.length : Int) + (lb.length : Int) := by omega
        have gl3 : decide ((400 : Int) < (la.length : Int) + (lb.length : Int)) = false := by simp; omega
        clear hboth hea
        go_wp2_with fail
        refine (pc _ e3).mono ?_
        intro e w4 ho
        obtain ⟨A4, c4, rfl, kc, hb4⟩ := ho.open
        have B4 := B3.trans (hb4.mono B3.size)
        replace ka := EvS.below ka hb4
        replace kb := EvS.below kb hb4
        clear ho hb4 e3 B3 pc
        replace ka := hide ka
        replace kb := hide kb
        replace kc := hide kc
        have hm1 : la.length + lb.length ≤ maxLen := by have : maxLen = 9223372036854775807 := rfl; omega
        have hm2 : (la.length + lb.length) * 32 ≤ 140737488355328 := by omega
        go_wp2_with (first | (at_builtin; refine wpList_append_flat (enc := Ev.enc) rfl (.tmp 68) (.tmp 69) 35 rfl w4.heap.size 23 ie _ 4 32 Tryd.underlying35 hie hie1 hie2 hie3 rfl (by decide) (.slice none 0 0) (Old w4) [] rfl (World.ownsRow_nil _ _ _ _) (fun _ => rfl) _ la rfl ka.out encE_one (by simp [maxLen]; omega) (by simp; omega) (Nat.le_refl _) ?_; intro v1 W1 hown1 hgrow1 hat1; simp only [List.nil_append] at hown1; have hbo : Below w4.heap.size w4 W1 := (Below.refl _ _).grown hgrow1 (Nat.le_refl _) (fun g hg => by simp [Value.ownBlock] at hg); have kb1 := hide (EvS.below kb.out hbo); have hsz1 := hbo.size; clear hat1) | (at_builtin; refine wpList_append_flat (enc := Ev.enc) rfl (.tmp 71) (.tmp 72) 35 rfl w4.heap.size 23 ie _ 4 32 Tryd.underlying35 hie hie1 hie2 hie3 rfl (by decide) v1 (Old W1) la rfl hown1 (fun _ => rfl) _ lb rfl kb1.out encE_one hm1 hm2 hsz1 ?_; intro v2 W2 hown2 hgrow2 hat2; rw [hlc.out] at hown2; obtain ⟨A9, c9, rfl⟩ := own_slice hown2; clear hat2) | fail)
        have hbo2 : Below w4.heap.size W1 W2 := (Below.refl _ _).grown hgrow2 hsz1 (fun g hg => (hown1.lt g hg).1)
        have hbw := hbo.trans hbo2
        have kc2 := EvS.below kc.out hbw
        have kall : EvS W2 (Old W2) (.slice A9 lc.length c9) lc := SlR.of_flat hown2 rfl (fun _ => rfl) (fun g _ h2 => h2)
        refine (same03_any A4 A9 c4 c9 lc lc _ kc2 kall (by omega) (by omega)).mono ?_
        rintro e w6 ⟨rfl, hb6⟩
        simp only [decide_true]
        have B6 := B4.trans (hbw.mono B4.size)
        go_wp2
        go_ret
        exact ⟨by simp, B6.trans (hb6.mono B6.size)⟩
      · have gl2 : (400 : Int) < (la.length : Int) + (lb.length : Int) := by omega
        have gl3 : decide ((400 : Int) < (la.length : Int) + (lb.length : Int)) = true := by simp; omega
        go_wp2
        go_ret
        exact ⟨by simp, B3⟩
    · have gbb : (fb != 0) = true := by simpa using gb
      go_wp2
      go_ret
      exact ⟨by simp, B3⟩
  · have gab : (fa != 0) = true := by simpa using ga
    have gac : (fa == 0) = false := by simpa using ga
    have hla2 := hea ga
    subst hla2
    go_wp2
    go_ret
    exact ⟨by simp, B3⟩
end Go.Proofs.YtmhgbckjkmjeeaaDoor
