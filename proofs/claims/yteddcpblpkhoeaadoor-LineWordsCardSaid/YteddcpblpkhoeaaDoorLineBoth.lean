/-
  Walks: LineBoth.
-/
import Derived.Test.YteddcpblpkhoeaaDoorLineBack
set_option linter.unusedVariables false
set_option linter.unusedSimpArgs false
namespace Go.Proofs.YteddcpblpkhoeaaDoor
open Go.RowKit Go.Inq
set_option maxHeartbeats 4000000
attribute [local go_sem ↓] Go.wp_at_zero Go.wp_at_succ
set_option maxRecDepth 100000 in
theorem lineBoth_any (s t : ByteArray) (w : World) (hs : s.size ≤ maxLen) (ht : t.size ≤ maxLen) (hg : Glob w) :
    Calls Tryd.prog 5 #[.string s, .string t] w fun e w' => e = .returned (.bool true) ∧ Below w.heap.size w w' := by
  have hs2 : s.size ≤ 9223372036854775807 := hs
  have ht2 : t.size ≤ 9223372036854775807 := ht
  obtain ⟨i0, hi0, hz0, hz1, hz2⟩ := info_parts infoS
  go_enter Tryd.func5, Tryd.ntmps5
  go_wp2_with fail
  refine (awake02_any w hg).mono ?_
  rintro e w1 ⟨rfl, B0⟩
  have g0 := hg.below B0
  by_cases d0q : 2000 < s.size
  · have d0 : decide ((2000 : Int) < (s.size : Int)) = true := by simp; omega
    go_wp2
    go_ret
    exact ⟨by simp, B0⟩
  have d0 : decide ((2000 : Int) < (s.size : Int)) = false := by simp; omega
  by_cases d1q : 2000 < t.size
  · have d1 : decide ((2000 : Int) < (t.size : Int)) = true := by simp; omega
    go_wp2
    go_ret
    exact ⟨by simp, B0⟩
  have d1 : decide ((2000 : Int) < (t.size : Int)) = false := by simp; omega
  have q3 : s.size ≤ 1000000 := by omega
  have q4 : t.size ≤ 1000000 := by omega
  have hst : (s ++ t).size ≤ 1000000 := by rw [ByteArray.size_append]; omega
  have hst2 : s.size + t.size ≤ 9223372036854775807 := by omega
  have E1 : Hid ((splitR s.data.toList).2 ≠ 0 → (splitR s.data.toList).1 = []) := fun h => splitR_err h
  have E2 : Hid ((splitR s.data.toList).2 = 0 → (splitR t.data.toList).2 = 0 → splitR (s ++ t).data.toList = if 400 < (splitR s.data.toList).1.length + (splitR t.data.toList).1.length then ([], 4) else ((splitR s.data.toList).1 ++ (splitR t.data.toList).1, 0)) := fun h1 h2 => by rw [data_append']; exact split_both h1 h2
  have S4 := splitR_len s.data.toList
  have S5 := splitR_len t.data.toList
  go_wp2_with fail
  refine (lsplit_any s _ q3 g0).mono ?_
  intro e w2 hx
  obtain ⟨A2, c2, rfl, ka, hb2⟩ := RowOut.open hx
  clear hx
  have B2 := B0.trans (hb2.mono B0.size)
  have g2 := g0.below hb2
  clear B0
  replace ka : StrS w2 (Old w2) _ _ := StrS.fit ka (fun b hb => hb.2)
  clear hb2
  go_wp2_with fail
  refine (lsplit_any t _ q4 g2).mono ?_
  intro e w3 hx
  obtain ⟨A3, c3, rfl, kb, hb3⟩ := RowOut.open hx
  clear hx
  have B3 := B2.trans (hb3.mono B2.size)
  have g3 := g2.below hb3
  replace ka := StrS.below ka hb3
  clear B2
  replace kb : StrS w3 (Old w3) _ _ := StrS.fit kb (fun b hb => hb.2)
  clear hb3
  generalize splitR s.data.toList = ra at *
  generalize splitR t.data.toList = rb at *
  obtain ⟨la, ea⟩ := ra
  obtain ⟨lb, eb⟩ := rb
  simp only at ka kb S4 S5 ⊢
  by_cases hea : ea = 0
  rotate_left
  · have hea' : (ea != 0) = true := by simp [hea]
    have hla := E1.out hea
    simp only at hla
    subst hla
    simp only [List.length_nil]
    clear hea
    go_wp2
    go_ret
    exact ⟨by simp, B3⟩
  subst hea
  by_cases heb : eb = 0
  rotate_left
  · have heb' : (eb != 0) = true := by simp [heb]
    clear heb
    by_cases hla0 : la.length = 0
    · rw [hla0]
      go_wp2
      go_ret
      exact ⟨by simp, B3⟩
    · have hla1 : ((la.length : Int) == 0) = false := by simpa using hla0
      clear hla0
      go_wp2
      go_ret
      exact ⟨by simp, B3⟩
  subst heb
  have hE := E2.out rfl rfl
  simp only at hE
  clear E1 E2
  have hcall := lsplit_any (s ++ t) _ hst g3
  rw [hE] at hcall
  replace hcall := hide hcall
  clear hE
  go_wp2_with fail
  by_cases hmany : 400 < la.length + lb.length
  · have hcall2 := hcall.out
    rw [if_pos hmany] at hcall2
    replace hcall2 := hide hcall2
    have dm : decide ((400 : Int) < (la.length : Int) + (lb.length : Int)) = true := by simp; omega
    clear hcall
    refine hcall2.out.mono ?_
    intro e wz hx
    obtain ⟨Az, cz, rfl, kz, hbz⟩ := RowOut.open hx
    have Bz := B3.trans (hbz.mono B3.size)
    simp only [List.length_nil]
    clear hx kz
    go_wp2
    go_ret
    exact ⟨by simp, Bz⟩
  · have hcall2 := hcall.out
    rw [if_neg hmany] at hcall2
    replace hcall2 := hide hcall2
    have dm : decide ((400 : Int) < (la.length : Int) + (lb.length : Int)) = false := by simp; omega
    clear hcall
    refine hcall2.out.mono ?_
    intro e w4 hx
    obtain ⟨A4, c4, rfl, kc, hb4⟩ := RowOut.open hx
    simp only at kc ⊢
    clear hx
    have B4 := B3.trans (hb4.mono B3.size)
    have g4 := g3.below hb4
    replace ka := StrS.below ka hb4
    replace kb := StrS.below kb hb4
    clear B3
    replace kc : StrS w4 (Old w4) _ _ := StrS.fit kc (fun b hb => hb.2)
    clear hb4
    have nd : ((la ++ lb).map mk).length ≤ 1000000 := by simp; omega
    have nl : la.length + lb.length = ((la ++ lb).map mk).length := by simp
    rw [List.length_append, nl] at kc
    replace nl := hide nl
    replace ka := hide ka
    replace kb := hide kb
    have hkb : Hid (∀ W1 : World, w4.grownBy W1 none → StrS W1 (Old w4) (.slice A3 lb.length c3) (lb.map mk)) := fun W1 hg => StrS.keep kb.out (Agree.grown hg fun b hb => ⟨hb, fun e => by cases e⟩) (fun _ h => h)
    go_wp2_with (first | (at_builtin; refine wpList_append_flat (enc := encS) rfl (.tmp 67) (.tmp 68) 22 rfl w4.heap.size 9 i0 _ 1 16 Tryd.underlying22 hi0 hz0 hz1 hz2 rfl (by decide) (.slice none 0 0) (Old w4) [] rfl (World.ownsRow_nil _ _ _ _) (fun _ => rfl) _ (la.map mk) rfl ka.out encS_one (by simp [maxLen]; omega) (by simp; omega) (Nat.le_refl _) ?_; intro v1 W1 hown1 hgrow1 hat1) | (at_builtin; refine wpList_append_flat (enc := encS) rfl (.tmp 70) (.tmp 71) 22 rfl w4.heap.size 9 i0 _ 1 16 Tryd.underlying22 hi0 hz0 hz1 hz2 rfl (by decide) v1 (Old w4) ([] ++ la.map mk) rfl hown1 (fun _ => rfl) _ (lb.map mk) rfl (hkb.out W1 hgrow1) encS_one (by simp [maxLen]; omega) (by simp; omega) hgrow1.size ?_; intro v2 W2 hown2 hgrow2 hat2) | fail)
    simp only [List.nil_append] at hown2
    have BX : Below w4.heap.size w4 W2 := ((Below.refl _ _).grown hgrow1 (Nat.le_refl _) (fun g hg => by simp [Value.ownBlock] at hg)).grown hgrow2 hgrow1.size (fun g hg => (hown1.lt g hg).1)
    have k2 : StrS W2 (Old W2) v2 (la.map mk ++ lb.map mk) := SlR.of_flat hown2 rfl (fun _ => rfl) (fun g _ h2 => h2)
    rw [← List.map_append] at k2
    obtain ⟨A2, c2, rfl⟩ := StrS.form k2
    replace kc := StrS.below kc BX
    have Bz := B4.trans (BX.mono B4.size)
    clear hown1 hgrow1 hat1 hown2 hgrow2 hat2 BX ka kb
    rw [nl.out]
    refine (same02_any _ _ _ _ ((la ++ lb).map mk) ((la ++ lb).map mk) W2 kc k2 nd nd).mono ?_
    rintro e wy ⟨rfl, hby⟩
    have By := Bz.trans (hby.mono Bz.size)
    simp only [decide_true]
    go_wp2
    go_ret
    exact ⟨by simp, By⟩
end Go.Proofs.YteddcpblpkhoeaaDoor
