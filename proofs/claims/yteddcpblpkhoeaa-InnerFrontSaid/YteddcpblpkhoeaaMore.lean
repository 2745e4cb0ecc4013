/-
  Walks: InnerMore.
-/
import Derived.Test.YteddcpblpkhoeaaLook06
import Derived.Test.YteddcpblpkhoeaaMoreP
import Derived.Test.YteddcpblpkhoeaaApp
set_option linter.unusedVariables false
set_option linter.unusedSimpArgs false
namespace Go.Proofs.Yteddcpblpkhoeaa
open Go.RowKit Go.Inq
set_option maxHeartbeats 4000000
attribute [local go_sem ↓] Go.wp_at_zero Go.wp_at_succ
theorem infoEv : (Try.prog.info? 41).map (fun i => (i.zero, i.size, i.bytes)) = some (some (.agg #[.int .i64 0, .int .i64 0, .int .i64 0, .int .i64 0]), 4, 32) := by kernel_rfl
theorem EvS.form {w : World} {K : Nat → Prop} {v : Value} {l : List Ev} (h : EvS w K v l) : ∃ A c, v = .slice A l.length c := by
  obtain ⟨A, c, hv, _⟩ := SlR.len h
  exact ⟨A, c, hv⟩
theorem ev_one : ∀ (x : Ev), ∀ u ∈ x.enc, u.oneCell' = true := by
  intro x u hu
  simp [Ev.enc] at hu
  rcases hu with rfl | rfl | rfl | rfl <;> rfl

set_option maxRecDepth 100000 in
theorem more_any (A : Option Addr) (c : Nat) (l : List Ev) (key value : Int) (w : World) (h : EvS w (Old w) (.slice A l.length c) l) (hn : l.length ≤ maxLen) :
    Calls Try.prog 5 #[.slice A l.length c, .int .i64 key, .int .i64 value] w fun e w' => e = .returned (.bool true) ∧ Below w.heap.size w w' := by
  have hn2 : l.length ≤ 9223372036854775807 := hn
  obtain ⟨i0, hi0, hz0, hz1, hz2⟩ := info_parts infoEv
  go_enter Try.func5, Try.ntmps5
  go_wp2_with fail
  refine (awake_any _).mono ?_
  rintro e w1 ⟨rfl, hb1⟩
  by_cases d0q : (200 : Int) < (l.length : Int)
  · have d0 : decide ((200 : Int) < (l.length : Int)) = true := by simpa using d0q
    go_wp2
    go_ret
    exact ⟨by simp, hb1⟩
  have d0 : decide ((200 : Int) < (l.length : Int)) = false := by simpa using d0q
  by_cases d1q : key < 0
  · have d1 : decide (key < 0) = true := by simpa using d1q
    go_wp2
    go_ret
    exact ⟨by simp, hb1⟩
  have d1 : decide (key < 0) = false := by simpa using d1q
  by_cases d2q : 16 ≤ key
  · have d2 : decide (16 ≤ key) = true := by simpa using d2q
    go_wp2
    go_ret
    exact ⟨by simp, hb1⟩
  have d2 : decide (16 ≤ key) = false := by simpa using d2q
  by_cases d3q : value < 0
  · have d3 : decide (value < 0) = true := by simpa using d3q
    go_wp2
    go_ret
    exact ⟨by simp, hb1⟩
  have d3 : decide (value < 0) = false := by simpa using d3q
  by_cases d4q : 2147483647 < value
  · have d4 : decide (2147483647 < value) = true := by simpa using d4q
    go_wp2
    go_ret
    exact ⟨by simp, hb1⟩
  have d4 : decide (2147483647 < value) = false := by simpa using d4q
  have q0 : l.length ≤ 200 := by omega
  have q1 : 0 ≤ key := by omega
  have q2 : key < 16 := by omega
  have q3 : 0 ≤ value := by omega
  have q4 : value ≤ 2147483647 := by omega
  clear d0q d1q d2q d3q d4q
  go_wp2_with fail
  refine (look06_any A c l w1 (EvS.below h hb1) (by omega)).mono ?_
  rintro e w2 ⟨rv, wv, rfl, hr, hw, hb2⟩
  have B2 := hb1.trans (hb2.mono hb1.size)
  obtain ⟨A1, c1, rfl⟩ := ItS.form hr
  obtain ⟨A2, c2, rfl⟩ := ItS.form hw
  rcases lookR_two l with ⟨i, hi, x, hx, hlk⟩ | ⟨hall, hx0⟩
  · rw [hlk] at hr hw ⊢
    simp only [List.length_nil]
    go_wp2
    go_ret
    exact ⟨by simp, B2.alloc B2.size _⟩
  · clear hx0
    have hlk := lookR_right hall
    have hR16 := rng_len (fR l l.length)
    have hW16 := rng_len (fW l l.length)
    rw [hlk] at hr hw ⊢
    simp only at hr hw ⊢
    obtain ⟨kn, rfl⟩ := Int.eq_ofNat_of_zero_le (show 0 ≤ key by omega)
    have hkn : kn < 16 := by omega
    replace hall := hide hall
    have sR := hide (scan_rng (fR l l.length) hkn)
    have sW := hide (scan_rng (fW l l.length) hkn)
    have hrR := hide (rng_upd_len (fR l l.length) hkn value)
    generalize hRd : rng (fR l l.length) = rd at *
    generalize hWr : rng (fW l l.length) = wr at *
    have hup : Below w2.heap.size w2 (w2.alloc (.cells #[.slice A1 rd.length c1, .slice A2 wr.length c2] 34)) := (Below.refl _ _).alloc (Nat.le_refl _) _
    have kF : Blk (w2.alloc (.cells #[.slice A1 rd.length c1, .slice A2 wr.length c2] 34)) w2.heap.size 34 #[.slice A1 rd.length c1, .slice A2 wr.length c2] := Blk.new _ _ _
    have hr2 : ItS w2 (Old w2) _ _ := ItS.fit hr (fun b hb => hb.2)
    have hw2 : ItS w2 (Old w2) _ _ := ItS.fit hw (fun b hb => hb.2)
    replace hr2 := ItS.below hr2 hup
    replace hw2 := ItS.below hw2 hup
    have BW := B2.trans (hup.mono B2.size)
    clear hr hw hup hb2 hb1 B2
    go_wp2
    generalize hW : (w2.alloc (.cells #[.slice A1 rd.length c1, .slice A2 wr.length c2] 34)) = W at *
    clear hW
    have f0 := kF.cell 0
    have f1 := kF.cell 1
    simp at f0 f1
    replace hlk := hide hlk
    have l1 : (rd.length : Int) ≤ 16 := by omega
    have l2 : (wr.length : Int) ≤ 16 := by omega
    have hkn2 : (kn : Int) < 16 := by omega
    go_loop [11, 13, 14] (fun s11 s13 s14 => ∃ i : Nat, i ≤ rd.length ∧ s14 = .int .i64 i ∧ s11 = .bool (scanI rd kn i).isSome ∧ s13 = .int .i64 ((scanI rd kn i).getD 0)) (fun _ _ s => rd.length - (intOf s).toNat)
    case atStart => exact ⟨0, Nat.zero_le _, by go_num, rfl, rfl⟩
    case round =>
      obtain ⟨i, hi, rfl, rfl, rfl⟩ := hrel
      by_cases hil : i < rd.length
      · obtain ⟨b, off, rfl, _, c0, c1⟩ := ItS.at_ hr2 hil
        have hss := hide (scanI_succ (k := (kn : Int)) (List.getElem?_eq_getElem hil))
        have hi1 : (0 : Int) ≤ (i : Int) := Int.natCast_nonneg _
        have hi2 : (i : Int) < (rd.length : Int) := by omega
        generalize rd[i] = x at *
        by_cases hk : x.a = kn
        · have hk' : (x.a == (kn : Int)) = true := by simp [hk]
          have hs : Hid (scanI rd kn (i + 1) = some x.b) := by unfold Hid; rw [hss.out, if_pos hk]
          clear hss hk
          generalize scanI rd kn i = ff at *
          go_wp2
          go_round
          case rel => exact ⟨i + 1, by omega, by go_num, by rw [hs.out]; rfl, by rw [hs.out]; rfl⟩
          case measure => simp [intOf]; omega
        · have hk' : (x.a == (kn : Int)) = false := by simp [hk]
          have hs : Hid (scanI rd kn (i + 1) = scanI rd kn i) := by unfold Hid; rw [hss.out, if_neg hk]
          clear hss hk
          generalize scanI rd kn i = ff at *
          go_wp2
          go_round
          case rel => exact ⟨i + 1, by omega, by go_num, by rw [hs.out], by rw [hs.out]⟩
          case measure => simp [intOf]; omega
      · have : i = rd.length := by omega
        subst this
        rw [sR.out]
        generalize hrk : fR l l.length kn = rk at *
        replace hrk := hide hrk
        go_wp2
        go_loop [11, 12, 13, 15] (fun s11 s12 s13 s15 => ∃ i : Nat, i ≤ wr.length ∧ s15 = .int .i64 i ∧ s11 = .bool (rk.isSome || (scanI wr kn i).isSome) ∧ s12 = .bool (scanI wr kn i).isSome ∧ s13 = .int .i64 ((scanI wr kn i).getD (rk.getD 0))) (fun _ _ _ s => wr.length - (intOf s).toNat)
        case atStart => exact ⟨0, Nat.zero_le _, by go_num, by simp [scanI], rfl, rfl⟩
        case round =>
          obtain ⟨i, hi, rfl, rfl, rfl, rfl⟩ := hrel
          by_cases hil : i < wr.length
          · obtain ⟨b, off, rfl, _, c0, c1⟩ := ItS.at_ hw2 hil
            have hss := hide (scanI_succ (k := (kn : Int)) (List.getElem?_eq_getElem hil))
            have hi1 : (0 : Int) ≤ (i : Int) := Int.natCast_nonneg _
            have hi2 : (i : Int) < (wr.length : Int) := by omega
            generalize wr[i] = x at *
            by_cases hk : x.a = kn
            · have hk' : (x.a == (kn : Int)) = true := by simp [hk]
              have hs : Hid (scanI wr kn (i + 1) = some x.b) := by unfold Hid; rw [hss.out, if_pos hk]
              clear hss hk
              generalize scanI wr kn i = ff at *
              go_wp2
              go_round
              case rel => exact ⟨i + 1, by omega, by go_num, by rw [hs.out]; simp, by rw [hs.out]; rfl, by rw [hs.out]; rfl⟩
              case measure => simp [intOf]; omega
            · have hk' : (x.a == (kn : Int)) = false := by simp [hk]
              have hs : Hid (scanI wr kn (i + 1) = scanI wr kn i) := by unfold Hid; rw [hss.out, if_neg hk]
              clear hss hk
              generalize scanI wr kn i = ff at *
              go_wp2
              go_round
              case rel => exact ⟨i + 1, by omega, by go_num, by rw [hs.out], by rw [hs.out], by rw [hs.out]⟩
              case measure => simp [intOf]; omega
          · have : i = wr.length := by omega
            subst this
            rw [sW.out]
            generalize hwk : fW l l.length kn = wk at *
            replace hwk := hide hwk
            have hE0 : EvS W (Old w) (.slice A l.length c) l := EvS.keep h (Agree.below BW fun _ h => h) (fun _ h => h)
            have hsz := BW.size
            go_wp2_with (first | (at_builtin; refine wpList_append_flat (enc := Ev.enc) rfl (.tmp 93) (.tmp 94) 22 rfl W.heap.size 41 i0 _ 4 32 Try.underlying22 hi0 hz0 hz1 hz2 rfl (by decide) (.slice none 0 0) (Old w) [] rfl (World.ownsRow_nil _ _ _ _) (fun _ => rfl) _ l rfl hE0 ev_one (by simp [maxLen]; omega) (by simp; omega) (Nat.le_refl _) ?_; intro v1 W1 hown1 hgrow1 hat1) | (at_builtin; refine wpList_append_flat (enc := Ev.enc) rfl (.tmp 96) (.tmp 100) 22 rfl W.heap.size 41 i0 _ 4 32 Try.underlying22 hi0 hz0 hz1 hz2 rfl (by decide) v1 (fun b => b = W1.heap.size) ([] ++ l) rfl (hown1.alloc _) (fun _ => rfl) _ [⟨1, 0, kn, value⟩] rfl (SlR.one (Blk.new _ _ _) rfl rfl rfl) ev_one (by simp [maxLen]; omega) (by simp; omega) (by have := hgrow1.size; simp; omega) ?_; intro v2 W2 hown2 hgrow2 hat2) | fail)
            simp only [List.nil_append] at hown2
            have s1 := hgrow1.size
            have s2 := hgrow2.size
            simp at s2
            have BX : Below W.heap.size W W2 := (((Below.refl _ W).grown hgrow1 (Nat.le_refl _) (fun g hg => by simp [Value.ownBlock] at hg)).alloc (by omega) _).grown hgrow2 (by simp; omega) (fun g hg => (hown1.lt g hg).1)
            have hE2 : EvS W2 (Old W2) v2 (l ++ [⟨1, 0, kn, value⟩]) := SlR.of_flat hown2 rfl (fun _ => rfl) (fun g _ h2 => h2)
            obtain ⟨A3, c3, rfl⟩ := EvS.form hE2
            have B2 := BW.trans (BX.mono BW.size)
            have k2 := kF.below BX kF.lt
            have hr4 : ItS W2 (Old W2) _ _ := ItS.below hr2 BX
            have hw4 : ItS W2 (Old W2) _ _ := ItS.below hw2 BX
            have hev : Ev.right ⟨1, 0, kn, value⟩ = true := by
              simp [Ev.right, belowB, itemB]
              omega
            have hlook := hide (look_more (e := ⟨1, 0, kn, value⟩) hall.out hev rfl)
            replace hlook := hide (by have := hlook.out; rw [hwk.out, hrk.out] at this; exact this)
            clear hat1 hat2 hgrow1 hgrow2 hown1 hown2 f0 f1 kF hr2 hw2 BX h hE0 s2
            have hlen : Hid ((l ++ [(⟨1, 0, kn, value⟩ : Ev)]).length = l.length + 1) := by unfold Hid; simp
            generalize hL : l ++ [(⟨1, 0, kn, value⟩ : Ev)] = L at *
            clear hL
            have hLn : L.length ≤ 1000000 := by have := hlen.out; omega
            rcases wk with _ | own
            · rcases rk with _ | old
              · have hlen3 := hide (hrR.out rfl)
                have hb : (rng (upd (fR l l.length) (↑kn) value)).length ≤ 16 := rng_len _
                generalize hru : rng (upd (fR l l.length) (↑kn) value) = ru at *
                have hlm : Hid (lookR L = ⟨ru, wr, 0, 0⟩) := by unfold Hid; rw [hlook.out, ← hru, hWr]
                clear hlook
                refine (look06_any A3 c3 L W2 hE2 hLn).mono ?_
                rintro e w3 ⟨rv3, wv3, rfl, hr3, hw3, hb3⟩
                rw [hlm.out] at hr3 hw3 ⊢
                simp only at hr3 hw3 ⊢
                have B3 := B2.trans (hb3.mono B2.size)
                have k3 := k2.below hb3 k2.lt
                have s3 := k3.lt
                have g0 := k3.cell 0
                have g1 := k3.cell 1
                simp at g0 g1
                have hr5 : ItS w3 (Old w3) _ _ := ItS.below hr4 hb3
                have hw5 : ItS w3 (Old w3) _ _ := ItS.below hw4 hb3
                obtain ⟨A5, c5, rfl⟩ := ItS.form hr3
                obtain ⟨A6, c6, rfl⟩ := ItS.form hw3
                have hr6 : ItS w3 (Old w3) _ _ := ItS.fit hr3 (fun b hb => hb.2)
                have hw6 : ItS w3 (Old w3) _ _ := ItS.fit hw3 (fun b hb => hb.2)
                clear hr3 hw3 hr4 hw4 k2 hb3 hE2
                clear hru
                have hlen4 := hide hlen3.out
                have hq : ((ru.length : Int) == (rd.length : Int) + 1) = true := by rw [hlen3.out]; simp
                go_wp2
                go_ret
                exact ⟨by simp, B3.alloc B3.size _⟩
              · by_cases hv : value = old
                · have hv' : (value == old) = true := by simp [hv]
                  have hlm : Hid (lookR L = ⟨rd, wr, 0, 0⟩) := by unfold Hid; rw [hlook.out]; simp only; rw [if_pos hv.symm, hlk.out]
                  clear hlook
                  refine (look06_any A3 c3 L W2 hE2 hLn).mono ?_
                  rintro e w3 ⟨rv3, wv3, rfl, hr3, hw3, hb3⟩
                  rw [hlm.out] at hr3 hw3 ⊢
                  simp only at hr3 hw3 ⊢
                  have B3 := B2.trans (hb3.mono B2.size)
                  have k3 := k2.below hb3 k2.lt
                  have s3 := k3.lt
                  have g0 := k3.cell 0
                  have g1 := k3.cell 1
                  simp at g0 g1
                  have hr5 : ItS w3 (Old w3) _ _ := ItS.below hr4 hb3
                  have hw5 : ItS w3 (Old w3) _ _ := ItS.below hw4 hb3
                  obtain ⟨A5, c5, rfl⟩ := ItS.form hr3
                  obtain ⟨A6, c6, rfl⟩ := ItS.form hw3
                  have hr6 : ItS w3 (Old w3) _ _ := ItS.fit hr3 (fun b hb => hb.2)
                  have hw6 : ItS w3 (Old w3) _ _ := ItS.fit hw3 (fun b hb => hb.2)
                  clear hr3 hw3 hr4 hw4 k2 hb3 hE2
                  clear hv
                  go_wp2_with fail
                  have hup : Below w3.heap.size w3 (w3.alloc (.cells #[.slice A5 rd.length c5, .slice A6 wr.length c6] 34)) := (Below.refl _ _).alloc (Nat.le_refl _) _
                  refine (sameFace_any _ _ _ _ rd wr rd wr _ (ItS.below hr5 hup) (ItS.below hw5 hup) (ItS.below hr6 hup) (ItS.below hw6 hup) (by omega) (by omega) (by omega) (by omega)).mono ?_
                  rintro e w7 ⟨rfl, hb7⟩
                  have B8 := (B3.trans (hup.mono B3.size)).trans (hb7.mono (B3.trans (hup.mono B3.size)).size)
                  simp only [decide_true, Bool.and_self]
                  go_wp2
                  go_ret
                  exact ⟨by simp, B8⟩
                · have hv' : (value == old) = false := by simp [hv]
                  have hlm : Hid (lookR L = ⟨[], [], l.length, 11⟩) := by unfold Hid; rw [hlook.out]; simp only; rw [if_neg (fun e => hv e.symm)]
                  clear hlook
                  refine (look06_any A3 c3 L W2 hE2 hLn).mono ?_
                  rintro e w3 ⟨rv3, wv3, rfl, hr3, hw3, hb3⟩
                  rw [hlm.out] at hr3 hw3 ⊢
                  simp only at hr3 hw3 ⊢
                  have B3 := B2.trans (hb3.mono B2.size)
                  have k3 := k2.below hb3 k2.lt
                  have s3 := k3.lt
                  have g0 := k3.cell 0
                  have g1 := k3.cell 1
                  simp at g0 g1
                  have hr5 : ItS w3 (Old w3) _ _ := ItS.below hr4 hb3
                  have hw5 : ItS w3 (Old w3) _ _ := ItS.below hw4 hb3
                  obtain ⟨A5, c5, rfl⟩ := ItS.form hr3
                  obtain ⟨A6, c6, rfl⟩ := ItS.form hw3
                  have hr6 : ItS w3 (Old w3) _ _ := ItS.fit hr3 (fun b hb => hb.2)
                  have hw6 : ItS w3 (Old w3) _ _ := ItS.fit hw3 (fun b hb => hb.2)
                  clear hr3 hw3 hr4 hw4 k2 hb3 hE2
                  simp only [List.length_nil]
                  go_wp2
                  go_ret
                  exact ⟨by simp, B3.alloc B3.size _⟩
            · by_cases hv : value = own
              · have hv' : (value == own) = true := by simp [hv]
                have hlm : Hid (lookR L = ⟨rd, wr, 0, 0⟩) := by unfold Hid; rw [hlook.out]; simp only; rw [if_pos hv.symm, hlk.out]
                clear hlook
                refine (look06_any A3 c3 L W2 hE2 hLn).mono ?_
                rintro e w3 ⟨rv3, wv3, rfl, hr3, hw3, hb3⟩
                rw [hlm.out] at hr3 hw3 ⊢
                simp only at hr3 hw3 ⊢
                have B3 := B2.trans (hb3.mono B2.size)
                have k3 := k2.below hb3 k2.lt
                have s3 := k3.lt
                have g0 := k3.cell 0
                have g1 := k3.cell 1
                simp at g0 g1
                have hr5 : ItS w3 (Old w3) _ _ := ItS.below hr4 hb3
                have hw5 : ItS w3 (Old w3) _ _ := ItS.below hw4 hb3
                obtain ⟨A5, c5, rfl⟩ := ItS.form hr3
                obtain ⟨A6, c6, rfl⟩ := ItS.form hw3
                have hr6 : ItS w3 (Old w3) _ _ := ItS.fit hr3 (fun b hb => hb.2)
                have hw6 : ItS w3 (Old w3) _ _ := ItS.fit hw3 (fun b hb => hb.2)
                clear hr3 hw3 hr4 hw4 k2 hb3 hE2
                clear hv
                go_wp2_with fail
                have hup : Below w3.heap.size w3 (w3.alloc (.cells #[.slice A5 rd.length c5, .slice A6 wr.length c6] 34)) := (Below.refl _ _).alloc (Nat.le_refl _) _
                refine (sameFace_any _ _ _ _ rd wr rd wr _ (ItS.below hr5 hup) (ItS.below hw5 hup) (ItS.below hr6 hup) (ItS.below hw6 hup) (by omega) (by omega) (by omega) (by omega)).mono ?_
                rintro e w7 ⟨rfl, hb7⟩
                have B8 := (B3.trans (hup.mono B3.size)).trans (hb7.mono (B3.trans (hup.mono B3.size)).size)
                simp only [decide_true, Bool.and_self]
                go_wp2
                go_ret
                exact ⟨by simp, B8⟩
              · have hv' : (value == own) = false := by simp [hv]
                have hlm : Hid (lookR L = ⟨[], [], l.length, 10⟩) := by unfold Hid; rw [hlook.out]; simp only; rw [if_neg (fun e => hv e.symm)]
                clear hlook
                refine (look06_any A3 c3 L W2 hE2 hLn).mono ?_
                rintro e w3 ⟨rv3, wv3, rfl, hr3, hw3, hb3⟩
                rw [hlm.out] at hr3 hw3 ⊢
                simp only at hr3 hw3 ⊢
                have B3 := B2.trans (hb3.mono B2.size)
                have k3 := k2.below hb3 k2.lt
                have s3 := k3.lt
                have g0 := k3.cell 0
                have g1 := k3.cell 1
                simp at g0 g1
                have hr5 : ItS w3 (Old w3) _ _ := ItS.below hr4 hb3
                have hw5 : ItS w3 (Old w3) _ _ := ItS.below hw4 hb3
                obtain ⟨A5, c5, rfl⟩ := ItS.form hr3
                obtain ⟨A6, c6, rfl⟩ := ItS.form hw3
                have hr6 : ItS w3 (Old w3) _ _ := ItS.fit hr3 (fun b hb => hb.2)
                have hw6 : ItS w3 (Old w3) _ _ := ItS.fit hw3 (fun b hb => hb.2)
                clear hr3 hw3 hr4 hw4 k2 hb3 hE2
                simp only [List.length_nil]
                go_wp2
                go_ret
                exact ⟨by simp, B3.alloc B3.size _⟩
end Go.Proofs.Yteddcpblpkhoeaa
