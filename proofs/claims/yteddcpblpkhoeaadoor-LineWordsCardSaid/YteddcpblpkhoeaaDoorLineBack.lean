/-
  Walks: LineBack.
-/
import Derived.Test.YteddcpblpkhoeaaDoorLineTells
set_option linter.unusedVariables false
set_option linter.unusedSimpArgs false
namespace Go.Proofs.YteddcpblpkhoeaaDoor
open Go.RowKit Go.Inq
set_option maxHeartbeats 4000000
attribute [local go_sem ↓] Go.wp_at_zero Go.wp_at_succ
theorem splitR_err {l : List UInt8} (h : (splitR l).2 ≠ 0) : (splitR l).1 = [] := by
  unfold splitR at h ⊢
  split
  · rfl
  · rename_i h1
    rw [if_neg h1] at h
    split
    · rfl
    · rename_i h2; rw [if_neg h2] at h; exact absurd rfl h
theorem joinR_err {l : List (List UInt8)} (h : (joinR l).2 ≠ 0) : (joinR l).1 = [] := by
  unfold joinR at h ⊢
  split
  · rfl
  · rename_i h1
    rw [if_neg h1] at h
    split
    · rfl
    · rename_i h2; rw [if_neg h2] at h; exact absurd rfl h
theorem joinR_len (l : List (List UInt8)) : (joinR l).1.length ≤ (joinL l).length := by
  unfold joinR
  split
  · simp
  · split
    · simp
    · exact Nat.le_refl _
theorem joinL_split {l : List UInt8} (h : (splitR l).2 = 0) : (joinL (splitR l).1).length ≤ l.length := by
  have h1 := join_split h
  have h2 : joinL (splitR l).1 = l := by
    unfold joinR at h1
    split at h1
    · cases congrArg Prod.snd h1
    · split at h1
      · cases congrArg Prod.snd h1
      · exact congrArg Prod.fst h1
  rw [h2]
  exact Nat.le_refl _

set_option maxRecDepth 100000 in
theorem lineBack_any (s : ByteArray) (A : Option Addr) (c : Nat) (l : List ByteArray) (w : World) (hs : s.size ≤ maxLen) (h : StrS w (Old w) (.slice A l.length c) l) (hn : l.length ≤ maxLen) (hls : ∀ s ∈ l, s.size ≤ maxLen) (hg : Glob w) :
    Calls Tryd.prog 4 #[.string s, .slice A l.length c] w fun e w' => e = .returned (.bool true) ∧ Below w.heap.size w w' := by
  have hs2 : s.size ≤ 9223372036854775807 := hs
  have hn2 : l.length ≤ 9223372036854775807 := hn
  have hls2 := hide hls
  clear hls
  go_enter Tryd.func4, Tryd.ntmps4
  go_wp2_with fail
  refine (awake02_any w hg).mono ?_
  rintro e w1 ⟨rfl, B0⟩
  have g0 := hg.below B0
  have k0 := StrS.below h B0
  go_wp2_with fail
  refine (short02_any A c l w1 k0 hn hls2.out).mono ?_
  rintro e w' ⟨rfl, rfl⟩
  by_cases d0q : 3000 < s.size
  · have d0 : decide ((3000 : Int) < (s.size : Int)) = true := by simp; omega
    go_wp2
    go_ret
    exact ⟨by simp, B0⟩
  have d0 : decide ((3000 : Int) < (s.size : Int)) = false := by simp; omega
  cases hsh : shortB l with
  | false =>
    go_wp2
    go_ret
    exact ⟨by simp, B0⟩
  | true =>
    obtain ⟨q1, q2⟩ := short_facts hsh
    have q3 : s.size ≤ 1000000 := by omega
    clear hsh
    have hsz := Lib.size_eq s
    have S1 : Hid ((splitR s.data.toList).2 = 0 → joinR (splitR s.data.toList).1 = (s.data.toList, 0)) := fun h => join_split h
    have S2 : Hid ((splitR s.data.toList).2 ≠ 0 → (splitR s.data.toList).1 = []) := fun h => splitR_err h
    have S3 : Hid ((splitR s.data.toList).2 = 0 → (joinL (splitR s.data.toList).1).length ≤ 1000000) := fun h => by have := joinL_split h; omega
    have S4 := splitR_len s.data.toList
    have J1 : Hid ((joinR (byt l)).2 = 0 → splitR (joinR (byt l)).1 = (byt l, 0)) := fun h => split_join h
    have J2 : Hid ((joinR (byt l)).2 ≠ 0 → (joinR (byt l)).1 = []) := fun h => joinR_err h
    have J3 : (joinR (byt l)).1.length ≤ 1000000 := by have := joinR_len (byt l); omega
    replace hsz := hide hsz
    go_wp2_with fail
    refine (ljoin_any A c l _ k0 (by omega) q2 g0).mono ?_
    rintro e w2 ⟨rfl, hb2⟩
    have B2 := B0.trans (hb2.mono B0.size)
    have g2 := g0.below hb2
    replace k0 := StrS.below k0 hb2
    clear B0
    clear hb2
    generalize joinR (byt l) = jr at *
    obtain ⟨tl, te⟩ := jr
    simp only at J3 ⊢
    by_cases hte : te = 0
    · subst hte
      have hsp := hide (J1.out rfl)
      have hmk : (mk tl).size ≤ 1000000 := by rw [mk_size]; exact J3
      have hbl : (byt l).map mk = l := map_mk_bytes l
      have hbn : (byt l).length = l.length := by unfold byt; simp
      have hls := lsplit_any (mk tl) _ hmk g2
      rw [mk_bytes, hsp.out] at hls
      replace hls := hide hls
      go_wp2_with fail
      refine hls.out.mono ?_
      intro e w3 hx
      obtain ⟨A3, c3, rfl, km, hb3⟩ := RowOut.open hx
      simp only at km ⊢
      rw [hbl, hbn] at km
      rw [hbn]
      clear hx hbl hbn
      have B3 := B2.trans (hb3.mono B2.size)
      have g3 := g2.below hb3
      replace k0 := StrS.below k0 hb3
      clear B2
      replace km : StrS w3 (Old w3) _ _ := StrS.fit km (fun b hb => hb.2)
      clear hb3
      go_wp2_with fail
      refine (same02_any A A3 c c3 l l _ k0 km (by omega) (by omega)).mono ?_
      rintro e w4 ⟨rfl, hb4⟩
      have B4 := B3.trans (hb4.mono B3.size)
      have g4 := g3.below hb4
      replace k0 := StrS.below k0 hb4
      clear B3
      simp only [decide_true]
      clear km
      go_wp2_with fail
      refine (lsplit_any s _ q3 g4).mono ?_
      intro e w5 hx
      obtain ⟨A5, c5, rfl, km, hb5⟩ := RowOut.open hx
      clear hx
      have B5 := B4.trans (hb5.mono B4.size)
      have g5 := g4.below hb5
      replace k0 := StrS.below k0 hb5
      clear B4
      replace km : StrS w5 (Old w5) _ _ := StrS.fit km (fun b hb => hb.2)
      clear hb5
      generalize splitR s.data.toList = rs at *
      obtain ⟨ws, es⟩ := rs
      by_cases hes : es = 0
      · subst hes
        have hj := hide (S1.out rfl)
        have S4b : ws.length ≤ 400 := S4
        have hwl : (ws.map mk).length ≤ 1000000 := by simp; omega
        have hb : byt (ws.map mk) = ws := by unfold byt; rw [List.map_map]; exact (List.map_congr_left (fun x _ => mk_bytes x)).trans (List.map_id ws)
        have hml : (ws.map mk).length = ws.length := by simp
        have hjl : (joinL (byt (ws.map mk))).length ≤ 1000000 := by rw [hb]; exact S3.out rfl
        have hjn := ljoin_any A5 c5 (ws.map mk) _ (by rw [hml]; exact km) hwl hjl g5
        rw [hb, hj.out, hml] at hjn
        replace hjn := hide hjn
        replace hml := hide hml
        replace hb := hide hb
        have hss : (mk s.data.toList).toList = s.toList := by rw [mk_of]
        go_wp2_with fail
        refine hjn.out.mono ?_
        rintro e wz ⟨rfl, hbz⟩
        have Bz := B5.trans (hbz.mono B5.size)
        go_wp2
        go_ret
        exact ⟨by simp, Bz⟩
      · have hes' : (es != 0) = true := by simp [hes]
        have hn0 := hide (S2.out hes)
        rw [hn0.out]
        simp only [List.length_nil]
        clear hes
        go_wp2
        go_ret
        exact ⟨by simp, B5⟩
    · have hte2 : (te == 0) = false := by simp [hte]
      have htl := J2.out hte
      simp only at htl
      subst htl
      have hmn : (mk []).toList = [] := by rw [Lib.toList_data, mk_bytes]
      clear hte
      go_wp2_with fail
      refine (lsplit_any s _ q3 g2).mono ?_
      intro e w3 hx
      obtain ⟨A3, c3, rfl, km, hb3⟩ := RowOut.open hx
      clear hx
      have B3 := B2.trans (hb3.mono B2.size)
      have g3 := g2.below hb3
      replace k0 := StrS.below k0 hb3
      clear B2
      replace km : StrS w3 (Old w3) _ _ := StrS.fit km (fun b hb => hb.2)
      clear hb3
      generalize splitR s.data.toList = rs at *
      obtain ⟨ws, es⟩ := rs
      by_cases hes : es = 0
      · subst hes
        have hj := hide (S1.out rfl)
        have S4b : ws.length ≤ 400 := S4
        have hwl : (ws.map mk).length ≤ 1000000 := by simp; omega
        have hb : byt (ws.map mk) = ws := by unfold byt; rw [List.map_map]; exact (List.map_congr_left (fun x _ => mk_bytes x)).trans (List.map_id ws)
        have hml : (ws.map mk).length = ws.length := by simp
        have hjl : (joinL (byt (ws.map mk))).length ≤ 1000000 := by rw [hb]; exact S3.out rfl
        have hjn := ljoin_any A3 c3 (ws.map mk) _ (by rw [hml]; exact km) hwl hjl g3
        rw [hb, hj.out, hml] at hjn
        replace hjn := hide hjn
        replace hml := hide hml
        replace hb := hide hb
        have hss : (mk s.data.toList).toList = s.toList := by rw [mk_of]
        go_wp2_with fail
        refine hjn.out.mono ?_
        rintro e wz ⟨rfl, hbz⟩
        have Bz := B3.trans (hbz.mono B3.size)
        go_wp2
        go_ret
        exact ⟨by simp, Bz⟩
      · have hes' : (es != 0) = true := by simp [hes]
        have hn0 := hide (S2.out hes)
        rw [hn0.out]
        simp only [List.length_nil]
        clear hes
        go_wp2
        go_ret
        exact ⟨by simp, B3⟩
end Go.Proofs.YteddcpblpkhoeaaDoor
