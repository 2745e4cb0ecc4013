/-
  Walks: LineTells.
-/
import Derived.Test.YteddcpblpkhoeaaDoorLaw2
set_option linter.unusedVariables false
set_option linter.unusedSimpArgs false
namespace Go.Proofs.YteddcpblpkhoeaaDoor
open Go.RowKit Go.Inq
set_option maxHeartbeats 4000000
attribute [local go_sem ↓] Go.wp_at_zero Go.wp_at_succ
theorem sum_le : ∀ (l : List ByteArray), (∀ s ∈ l, s.size ≤ 200) → (joinL (byt l)).length ≤ l.length * 201
  | [], _ => Nat.zero_le _
  | x :: r, h => by
    have h1 := sum_le r (fun s hs => h s (by simp [hs]))
    have h2 := h x (by simp)
    rw [Lib.size_eq] at h2
    unfold joinL byt at *
    simp only [List.map_cons, List.flatten_cons, List.length_append, List.length_cons, List.length_nil] at *
    omega
theorem short_facts {l : List ByteArray} (h : shortB l = true) : l.length ≤ 500 ∧ (joinL (byt l)).length ≤ 1000000 := by
  unfold shortB at h
  rw [Bool.and_eq_true, decide_eq_true_iff, List.all_eq_true] at h
  have := sum_le l (fun s hs => by simpa using h.2 s hs)
  exact ⟨h.1, by omega⟩

set_option maxRecDepth 100000 in
theorem lineTells_any (s : ByteArray) (A : Option Addr) (c : Nat) (l : List ByteArray) (w : World) (hs : s.size ≤ maxLen) (h : StrS w (Old w) (.slice A l.length c) l) (hn : l.length ≤ maxLen) (hls : ∀ s ∈ l, s.size ≤ maxLen) (hg : Glob w) :
    Calls Tryd.prog 3 #[.string s, .slice A l.length c] w fun e w' => e = .returned (.bool true) ∧ Below w.heap.size w w' := by
  have hs2 : s.size ≤ 9223372036854775807 := hs
  have hn2 : l.length ≤ 9223372036854775807 := hn
  have hls2 := hide hls
  clear hls
  obtain ⟨i0, hi0, hz0, hz1, hz2⟩ := info_parts infoS
  go_enter Tryd.func3, Tryd.ntmps3
  go_wp2_with fail
  refine (awake02_any w hg).mono ?_
  rintro e w1 ⟨rfl, B0⟩
  have g0 := hg.below B0
  have k0 := StrS.below h B0
  go_wp2_with fail
  refine (short02_any A c l w1 k0 hn hls2.out).mono ?_
  rintro e w' ⟨rfl, rfl⟩
  by_cases d0q : 3000 < s.size
  · have d0 : decide ((3000 : Int) < (s.size : Int)) = true := by simp; omega
    go_wp2
    go_ret
    exact ⟨by simp, B0⟩
  have d0 : decide ((3000 : Int) < (s.size : Int)) = false := by simp; omega
  cases hsh : shortB l with
  | false =>
    go_wp2
    go_ret
    exact ⟨by simp, B0⟩
  | true =>
    obtain ⟨q1, q2⟩ := short_facts hsh
    have q3 : s.size ≤ 1000000 := by omega
    have hE0 : StrS w1 (Old w) (.slice A l.length c) l := StrS.keep h (Agree.below B0 fun _ h => h) (fun _ h => h)
    replace hE0 := hide hE0
    clear hsh
    go_wp2_with (first | (at_builtin; refine wpList_append_flat (enc := encS) rfl (.tmp 32) (.tmp 33) 22 rfl w1.heap.size 9 i0 _ 1 16 Tryd.underlying22 hi0 hz0 hz1 hz2 rfl (by decide) (.slice none 0 0) (Old w) [] rfl (World.ownsRow_nil _ _ _ _) (fun _ => rfl) _ l rfl hE0.out encS_one (by simp [maxLen]; omega) (by simp; omega) (Nat.le_refl _) ?_; intro v1 W1 hown1 hgrow1 hat1) | fail)
    simp only [List.nil_append] at hown1
    have hbo : Below w1.heap.size w1 W1 := (Below.refl _ _).grown hgrow1 (Nat.le_refl _) (fun g hg => by simp [Value.ownBlock] at hg)
    have k1 : StrS W1 (Old W1) v1 l := SlR.of_flat hown1 rfl (fun _ => rfl) (fun g _ h2 => h2)
    obtain ⟨Ao, co, rfl⟩ := StrS.form k1
    replace k0 := StrS.below k0 hbo
    have g1 := g0.below hbo
    have B1 := B0.trans (hbo.mono B0.size)
    clear hown1 hgrow1 hat1 hbo hE0 g0 B0 h
    skip
    refine (lsplit_any s _ q3 g1).mono ?_
    intro e w2 hx
    obtain ⟨A2, c2, rfl, ka, hb2⟩ := RowOut.open hx
    clear hx
    have B2 := B1.trans (hb2.mono B1.size)
    have g2 := g1.below hb2
    replace k0 := StrS.below k0 hb2
    replace k1 := StrS.below k1 hb2
    clear B1
    replace ka : StrS w2 (Old w2) _ _ := StrS.fit ka (fun b hb => hb.2)
    clear hb2
    go_wp2_with fail
    refine (rsplit_any s _ q3).mono ?_
    intro e w3 hx
    obtain ⟨A3, c3, rfl, kb, hb3⟩ := RowOut.open hx
    clear hx
    have B3 := B2.trans (hb3.mono B2.size)
    have g3 := g2.below hb3
    replace k0 := StrS.below k0 hb3
    replace k1 := StrS.below k1 hb3
    replace ka := StrS.below ka hb3
    clear B2
    replace kb : StrS w3 (Old w3) _ _ := StrS.fit kb (fun b hb => hb.2)
    clear hb3
    go_wp2_with fail
    refine (ljoin_any A c l _ k0 (by omega) q2 g3).mono ?_
    rintro e w4 ⟨rfl, hb4⟩
    have B4 := B3.trans (hb4.mono B3.size)
    have g4 := g3.below hb4
    replace k0 := StrS.below k0 hb4
    replace k1 := StrS.below k1 hb4
    replace ka := StrS.below ka hb4
    replace kb := StrS.below kb hb4
    clear B3
    clear hb4
    go_wp2_with fail
    refine (rjoin_any Ao co l _ k1 (by omega) q2).mono ?_
    rintro e w' ⟨rfl, rfl⟩
    go_wp2_with fail
    refine (lwords_any s _ q3 g4).mono ?_
    intro e w5 hx
    obtain ⟨A5, c5, rfl, kx, hb5⟩ := RowOut.open hx
    clear hx
    have B5 := B4.trans (hb5.mono B4.size)
    have g5 := g4.below hb5
    replace k0 := StrS.below k0 hb5
    replace k1 := StrS.below k1 hb5
    replace ka := StrS.below ka hb5
    replace kb := StrS.below kb hb5
    clear B4
    replace kx : StrS w5 (Old w5) _ _ := StrS.fit kx (fun b hb => hb.2)
    clear hb5
    go_wp2_with fail
    refine (rwords_any s _ q3).mono ?_
    intro e w6 hx
    obtain ⟨A6, c6, rfl, ky, hb6⟩ := RowOut.open hx
    clear hx
    have B6 := B5.trans (hb6.mono B5.size)
    have g6 := g5.below hb6
    replace k0 := StrS.below k0 hb6
    replace k1 := StrS.below k1 hb6
    replace ka := StrS.below ka hb6
    replace kb := StrS.below kb hb6
    replace kx := StrS.below kx hb6
    clear B5
    replace ky : StrS w6 (Old w6) _ _ := StrS.fit ky (fun b hb => hb.2)
    clear hb6
    have hq1 : (splitR s.data.toList).1.length ≤ 1000000 := by
      have := splitR_len s.data.toList
      omega
    have hq2 : (wordsR s.data.toList).1.length ≤ 1000000 := by
      have := wordsR_len s.data.toList
      omega
    have e1 : ((splitR s.data.toList).1.map mk).length = (splitR s.data.toList).1.length := by simp
    have e2 : ((wordsR s.data.toList).1.map mk).length = (wordsR s.data.toList).1.length := by simp
    rw [← e1] at ka kb hq1
    rw [← e2] at kx ky hq2
    replace e1 := hide e1
    replace e2 := hide e2
    go_wp2_with fail
    rw [← e1.out]
    refine (same02_any A2 A3 c2 c3 _ _ _ ka kb hq1 hq1).mono ?_
    rintro e w7 ⟨rfl, hb7⟩
    have B7 := B6.trans (hb7.mono B6.size)
    have g7 := g6.below hb7
    replace k0 := StrS.below k0 hb7
    replace k1 := StrS.below k1 hb7
    replace ka := StrS.below ka hb7
    replace kb := StrS.below kb hb7
    replace kx := StrS.below kx hb7
    replace ky := StrS.below ky hb7
    clear B6
    simp only [decide_true]
    go_wp2_with fail
    rw [← e2.out]
    refine (same02_any A5 A6 c5 c6 _ _ _ kx ky hq2 hq2).mono ?_
    rintro e w8 ⟨rfl, hb8⟩
    have B8 := B7.trans (hb8.mono B7.size)
    have g8 := g7.below hb8
    replace k0 := StrS.below k0 hb8
    replace k1 := StrS.below k1 hb8
    replace ka := StrS.below ka hb8
    replace kb := StrS.below kb hb8
    replace kx := StrS.below kx hb8
    replace ky := StrS.below ky hb8
    clear B7
    simp only [decide_true]
    go_wp2_with fail
    refine (same02_any A Ao c co l l _ k0 k1 (by omega) (by omega)).mono ?_
    rintro e w9 ⟨rfl, hb9⟩
    have B9 := B8.trans (hb9.mono B8.size)
    have g9 := g8.below hb9
    replace k0 := StrS.below k0 hb9
    replace k1 := StrS.below k1 hb9
    replace ka := StrS.below ka hb9
    replace kb := StrS.below kb hb9
    replace kx := StrS.below kx hb9
    replace ky := StrS.below ky hb9
    clear B8
    simp only [decide_true]
    go_wp2
    go_ret
    exact ⟨by simp, B9⟩
end Go.Proofs.YteddcpblpkhoeaaDoor
