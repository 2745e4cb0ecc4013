/-
  Walks: InnerFront.
-/
import Derived.Test.YteddcpblpkhoeaaMore
set_option linter.unusedVariables false
set_option linter.unusedSimpArgs false
namespace Go.Proofs.Yteddcpblpkhoeaa
open Go.RowKit Go.Inq
set_option maxHeartbeats 4000000
attribute [local go_sem ↓] Go.wp_at_zero Go.wp_at_succ
theorem sameEv_any (A A' : Option Addr) (c c' : Nat) (l : List Ev) (w : World) (h : EvS w (Old w) (.slice A l.length c) l) (h' : EvS w (Old w) (.slice A' l.length c') l) (hn : l.length ≤ 1000000) :
    Calls Try.prog 18 #[.slice A l.length c, .slice A' l.length c'] w fun e w' => e = .returned (.bool true) ∧ Below w.heap.size w w' := by
  go_enter Try.func18, Try.ntmps18
  go_wp2
  go_loopw [5] (fun s5 wr => ∃ i : Nat, i ≤ l.length ∧ s5 = .int .i64 i ∧ Below w.heap.size w wr) (fun s5 _ => l.length - (intOf s5).toNat)
  case atStart => exact ⟨0, Nat.zero_le _, by go_num, Below.refl _ _⟩
  case round =>
    obtain ⟨i, hi, rfl, hb⟩ := hrel
    by_cases hlt : i < l.length
    · have hw := EvS.below h hb
      have hw' := EvS.below h' hb
      obtain ⟨b, off, rfl, hbK, c0, c1, c2, c3⟩ := EvS.at_ hw hlt
      obtain ⟨b', off', rfl, hbK', d0, d1, d2, d3⟩ := EvS.at_ hw' hlt
      have hi1 : (0 : Int) ≤ (i : Int) := Int.natCast_nonneg _
      have hi2 : (i : Int) < (l.length : Int) := by omega
      generalize l[i] = x at *
      go_wp2
      go_quiet (fail)
      go_wp2
      go_roundw
      case rel => exact ⟨i + 1, by omega, by go_num, ⟨hb.os, hb.tape, hb.output, hb.size, hb.block⟩⟩
      case measure => simp [intOf]; omega
    · go_wp2
      go_ret
      exact ⟨rfl, hb⟩

set_option maxRecDepth 100000 in
theorem front_any (A : Option Addr) (c : Nat) (l : List Ev) (key value : Int) (w : World) (h : EvS w (Old w) (.slice A l.length c) l) (hn : l.length ≤ maxLen) :
    Calls Try.prog 6 #[.slice A l.length c, .int .i64 key, .int .i64 value] w fun e w' => e = .returned (.bool true) ∧ Below w.heap.size w w' := by
  have hn2 : l.length ≤ 9223372036854775807 := hn
  obtain ⟨i0, hi0, hz0, hz1, hz2⟩ := info_parts infoEv
  go_enter Try.func6, Try.ntmps6
  go_wp2_with fail
  refine (awake_any _).mono ?_
  rintro e w1 ⟨rfl, hb1⟩
  by_cases d0q : (200 : Int) < (l.length : Int)
  · have d0 : decide ((200 : Int) < (l.length : Int)) = true := by simpa using d0q
    go_wp2
    go_ret
    exact ⟨by simp, hb1⟩
  have d0 : decide ((200 : Int) < (l.length : Int)) = false := by simpa using d0q
  by_cases d1q : key < 0
  · have d1 : decide (key < 0) = true := by simpa using d1q
    go_wp2
    go_ret
    exact ⟨by simp, hb1⟩
  have d1 : decide (key < 0) = false := by simpa using d1q
  by_cases d2q : 16 ≤ key
  · have d2 : decide (16 ≤ key) = true := by simpa using d2q
    go_wp2
    go_ret
    exact ⟨by simp, hb1⟩
  have d2 : decide (16 ≤ key) = false := by simpa using d2q
  by_cases d3q : value < 0
  · have d3 : decide (value < 0) = true := by simpa using d3q
    go_wp2
    go_ret
    exact ⟨by simp, hb1⟩
  have d3 : decide (value < 0) = false := by simpa using d3q
  by_cases d4q : 2147483647 < value
  · have d4 : decide (2147483647 < value) = true := by simpa using d4q
    go_wp2
    go_ret
    exact ⟨by simp, hb1⟩
  have d4 : decide (2147483647 < value) = false := by simpa using d4q
  have q0 : l.length ≤ 200 := by omega
  have q1 : 0 ≤ key := by omega
  have q2 : key < 16 := by omega
  have q3 : 0 ≤ value := by omega
  have q4 : value ≤ 2147483647 := by omega
  clear d0q d1q d2q d3q d4q
  go_wp2_with fail
  refine (look06_any A c l w1 (EvS.below h hb1) (by omega)).mono ?_
  rintro e w2 ⟨rv, wv, rfl, hr, hw, hb2⟩
  have B2 := hb1.trans (hb2.mono hb1.size)
  obtain ⟨A1, c1, rfl⟩ := ItS.form hr
  obtain ⟨A2, c2, rfl⟩ := ItS.form hw
  rcases lookR_two l with ⟨i, hi, x, hx, hlk⟩ | ⟨hall, hx0⟩
  · rw [hlk] at hr hw ⊢
    simp only [List.length_nil]
    go_wp2
    go_ret
    exact ⟨by simp, B2.alloc B2.size _⟩
  · clear hx0
    have hlk := lookR_right hall
    have hR16 := rng_len (fR l l.length)
    have hW16 := rng_len (fW l l.length)
    rw [hlk] at hr hw ⊢
    simp only at hr hw ⊢
    obtain ⟨kn, rfl⟩ := Int.eq_ofNat_of_zero_le (show 0 ≤ key by omega)
    have hkn : kn < 16 := by omega
    replace hall := hide hall
    have sR := hide (scan_rng (fR l l.length) hkn)
    have sW := hide (scan_rng (fW l l.length) hkn)
    have hrR := hide (rng_upd_len (fR l l.length) hkn value)
    generalize hRd : rng (fR l l.length) = rd at *
    generalize hWr : rng (fW l l.length) = wr at *
    have hup : Below w2.heap.size w2 (w2.alloc (.cells #[.slice A1 rd.length c1, .slice A2 wr.length c2] 34)) := (Below.refl _ _).alloc (Nat.le_refl _) _
    have kF : Blk (w2.alloc (.cells #[.slice A1 rd.length c1, .slice A2 wr.length c2] 34)) w2.heap.size 34 #[.slice A1 rd.length c1, .slice A2 wr.length c2] := Blk.new _ _ _
    have hr2 : ItS w2 (Old w2) _ _ := ItS.fit hr (fun b hb => hb.2)
    have hw2 : ItS w2 (Old w2) _ _ := ItS.fit hw (fun b hb => hb.2)
    replace hr2 := ItS.below hr2 hup
    replace hw2 := ItS.below hw2 hup
    have BW := B2.trans (hup.mono B2.size)
    clear hr hw hup hb2 hb1 B2
    have f0 := kF.cell 0
    have f1 := kF.cell 1
    simp at f0 f1
    replace hlk := hide hlk
    have l1 : (rd.length : Int) ≤ 16 := by omega
    have l2 : (wr.length : Int) ≤ 16 := by omega
    have hkn2 : (kn : Int) < 16 := by omega
    have hEf : ∀ W1, ((w2.alloc (.cells #[.slice A1 rd.length c1, .slice A2 wr.length c2] 34)).alloc (.cells #[.int .i64 1, .int .i64 0, .int .i64 kn, .int .i64 value] 41)).grownBy W1 none → Below (w2.alloc (.cells #[.slice A1 rd.length c1, .slice A2 wr.length c2] 34)).heap.size (w2.alloc (.cells #[.slice A1 rd.length c1, .slice A2 wr.length c2] 34)) W1 := fun W1 hg => ((Below.refl _ _).alloc (Nat.le_refl _) _).grown hg (by simp) (fun g hg => by cases hg)
    have hEe : ∀ W1, ((w2.alloc (.cells #[.slice A1 rd.length c1, .slice A2 wr.length c2] 34)).alloc (.cells #[.int .i64 1, .int .i64 0, .int .i64 kn, .int .i64 value] 41)).grownBy W1 none → EvS W1 (Old w) (.slice A l.length c) l := fun W1 hg => EvS.keep h (Agree.below (BW.trans ((hEf W1 hg).mono BW.size)) fun _ h => h) (fun _ h => h)
    have hsE : SlR 4 (Flat Ev.enc) ((w2.alloc (.cells #[.slice A1 rd.length c1, .slice A2 wr.length c2] 34)).alloc (.cells #[.int .i64 1, .int .i64 0, .int .i64 kn, .int .i64 value] 41)) (fun b => b = w2.heap.size + 1) (.slice (some ⟨w2.heap.size + 1, 0, none⟩) 1 1) [(⟨1, 0, kn, value⟩ : Ev)] := by
      have hn := Blk.new (w2.alloc (.cells #[.slice A1 rd.length c1, .slice A2 wr.length c2] 34)) 41 #[.int .i64 1, .int .i64 0, .int .i64 kn, .int .i64 value]
      simp only [World.size_alloc] at hn
      exact SlR.one hn rfl rfl rfl
    replace hsE := hide hsE
    replace hEf := hide hEf
    replace hEe := hide hEe
    go_wp2_with (first | (at_builtin; refine wpList_append_flat (enc := Ev.enc) rfl (.tmp 48) (.tmp 52) 22 rfl (w2.heap.size + 1) 41 i0 _ 4 32 Try.underlying22 hi0 hz0 hz1 hz2 rfl (by decide) (.slice none 0 0) (fun b => b = w2.heap.size + 1) [] rfl (World.ownsRow_nil _ _ _ _) (fun _ => rfl) _ [⟨1, 0, kn, value⟩] rfl hsE.out ev_one (by simp [maxLen]) (by simp) (by simp) ?_; intro v1 W1 hown1 hgrow1 hat1) | (at_builtin; refine wpList_append_flat (enc := Ev.enc) rfl (.tmp 54) (.tmp 55) 22 rfl (w2.heap.size + 1) 41 i0 _ 4 32 Try.underlying22 hi0 hz0 hz1 hz2 rfl (by decide) v1 (Old w) ([] ++ [⟨1, 0, kn, value⟩]) rfl hown1 (fun _ => rfl) _ l rfl (hEe.out W1 hgrow1) ev_one (by simp [maxLen]; omega) (by simp; omega) (by have := hgrow1.size; simp at this; omega) ?_; intro v2 W2 hown2 hgrow2 hat2) | fail)
    simp only [List.nil_append, List.cons_append] at hown2
    have s1 := hgrow1.size
    have s2 := hgrow2.size
    simp at s1 s2
    have BX := (hEf.out W1 hgrow1).grown hgrow2 (by simp; omega) (fun g hg => by have := (hown1.lt g hg).1; simpa using this)
    have hE2 : EvS W2 (Old W2) v2 (⟨1, 0, kn, value⟩ :: l) := SlR.of_flat hown2 rfl (fun _ => rfl) (fun g _ h2 => h2)
    have hE0 : EvS W2 (Old W2) (.slice A l.length c) l := EvS.keep h (Agree.below (BW.trans (BX.mono BW.size)) fun _ h => h) (fun b hb => by have h1 : b < w.heap.size := hb; have h2 := BW.size; have h3 := BX.size; show b < W2.heap.size; omega)
    obtain ⟨A3, c3, rfl⟩ := EvS.form hE2
    have B2 := BW.trans (BX.mono BW.size)
    have k2 := kF.below BX kF.lt
    have hw4 : ItS W2 (Old W2) _ _ := ItS.below hw2 BX
    have hev : Ev.right ⟨1, 0, kn, value⟩ = true := by
      simp [Ev.right, belowB, itemB]
      omega
    have hlook := hide (look_front (e := ⟨1, 0, kn, value⟩) hall.out hev rfl)
    have hfut : Hid (future (⟨1, 0, (kn : Int), value⟩ :: l) 0 kn value = l.any fun x => x.kind == 2 && x.key == (kn : Int) && x.val == value) := rfl
    have hlen : Hid ((⟨1, 0, (kn : Int), value⟩ :: l : List Ev).length = l.length + 1) := by unfold Hid; simp
    have hlen2 : (⟨1, 0, (kn : Int), value⟩ :: l : List Ev).length ≤ 1000000 := by simp; omega
    obtain ⟨bb, oo, rfl, -, -, -, -, -⟩ := EvS.at_ hE2 (i := 0) (by simp)
    have hdrop : ∃ A', (if c3 = 1 then (some ⟨bb, oo, none⟩ : Option Addr) else some ⟨bb, oo + 4, none⟩) = A' ∧ EvS W2 (Old W2) (.slice A' l.length (c3 - 1)) l := by
      refine ⟨_, rfl, ?_⟩
      have hd := SlR.drop hE2 (k := 1) (by simp)
      simp only [List.length_cons, Nat.add_sub_cancel, List.drop_succ_cons, List.drop_zero, Option.map_some, Addr.add_lit, Nat.one_mul] at hd
      exact hd
    obtain ⟨A', hA', hdr⟩ := hdrop
    clear hEf hEe hat1 hat2 hgrow1 hgrow2 hown1 hown2 f0 f1 kF hr2 hw2 BX h s1 s2 hrR sR sW hRd
    have hlenm : Hid ((⟨1, 0, (kn : Int), value⟩ :: l : List Ev).length - 1 = l.length) := by unfold Hid; simp
    generalize hL : (⟨1, 0, (kn : Int), value⟩ :: l : List Ev) = L at *
    clear hL
    have hL1 : (1 : Int) ≤ (L.length : Int) := by have := hlen.out; omega
    refine (look06_any (some ⟨bb, oo, none⟩) c3 L W2 hE2 hlen2).mono ?_
    rintro e w3 ⟨rv3, wv3, rfl, hr3, hw3, hb3⟩
    obtain ⟨k1, k2', k3'⟩ := hlook.out
    dsimp only at k1 k2' k3'
    rw [hWr] at k3'
    clear hlook hWr hsE hlk
    generalize lookR L = LL at *
    obtain ⟨r3, w3l, pa, pe⟩ := LL
    simp only at hr3 hw3 ⊢
    have m1 : Hid (future L 0 kn value = true → pe = 9 ∧ pa = 0) := fun h => by have := k1 h; injection this with _ _ h1 h2; exact ⟨h2, h1⟩
    have m2 : Hid (future L 0 kn value = false → 0 ≤ firstD l kn 0 → kindAt l (firstD l kn 0) = 1 → valAt l (firstD l kn 0) ≠ value → pe = 11 ∧ pa = firstD l kn 0 + 1) := fun h h2 h3 h4 => by have := k2' h h2 h3 h4; injection this with _ _ h1 h2; exact ⟨h2, h1⟩
    have m3 : Hid (future L 0 kn value = false → ¬ (0 ≤ firstD l kn 0 ∧ kindAt l (firstD l kn 0) = 1 ∧ valAt l (firstD l kn 0) ≠ value) → w3l = wr ∧ pe = 0 ∧ pa = 0) := fun h h2 => by obtain ⟨rd, h3⟩ := k3' h h2; injection h3 with _ h0 h1 h2; exact ⟨h0, h2, h1⟩
    clear k1 k2' k3'
    have B3 := B2.trans (hb3.mono B2.size)
    have k3 := k2.below hb3 k2.lt
    have s3 := k3.lt
    have hw5 : ItS w3 (Old w3) _ _ := ItS.below hw4 hb3
    have hE3 : EvS w3 (Old w3) _ _ := EvS.below hE0 hb3
    have hdr3 : EvS w3 (Old w3) _ _ := EvS.below hdr hb3
    obtain ⟨A5, c5, rfl⟩ := ItS.form hr3
    obtain ⟨A6, c6, rfl⟩ := ItS.form hw3
    have hw6 : ItS w3 (Old w3) _ _ := ItS.fit hw3 (fun b hb => hb.2)
    have hup : Below w3.heap.size w3 (w3.alloc (.cells #[.slice A5 r3.length c5, .slice A6 w3l.length c6] 34)) := (Below.refl _ _).alloc (Nat.le_refl _) _
    have k4 := k3.below hup s3
    have k5 : Blk (w3.alloc (.cells #[.slice A5 r3.length c5, .slice A6 w3l.length c6] 34)) w3.heap.size 34 #[.slice A5 r3.length c5, .slice A6 w3l.length c6] := Blk.new _ _ _
    have B4 := B3.trans (hup.mono B3.size)
    replace hw5 := ItS.below hw5 hup
    replace hw6 := ItS.below hw6 hup
    replace hE3 := EvS.below hE3 hup
    replace hdr3 := EvS.below hdr3 hup
    clear hr3 hw3 hw4 k2 hb3 hE2 hE0 hdr k3 hup B3 B2
    go_wp2
    generalize (w3.alloc (.cells #[.slice A5 r3.length c5, .slice A6 w3l.length c6] 34)) = V at *
    have g0 := k4.cell 0
    have g1 := k4.cell 1
    have e0 := k5.cell 0
    have e1 := k5.cell 1
    simp at g0 g1 e0 e1
    go_loop [15, 16] (fun s15 s16 => ∃ i : Nat, i ≤ l.length ∧ s16 = .int .i64 i ∧ s15 = .int .i64 (firstA l kn i) ∧ Hid (∀ j (hj : j < l.length), j < i → ¬ (l[j].kind = 2 ∧ l[j].key = kn ∧ l[j].val = value))) (fun _ s => l.length - (intOf s).toNat)
    case atStart => exact ⟨0, Nat.zero_le _, by go_num, rfl, fun j _ h => absurd h (by omega)⟩
    case round =>
      obtain ⟨i, hi, rfl, rfl, hno⟩ := hrel
      by_cases hil : i < l.length
      · obtain ⟨b, off, rfl, _, c0, c1, c2, c3⟩ := EvS.at_ hE3 hil
        have hl : Hid (l[i]? = some l[i]) := List.getElem?_eq_getElem hil
        have hmem : Hid (l[i] ∈ l) := List.getElem_mem hil
        have hi1 : (0 : Int) ≤ (i : Int) := Int.natCast_nonneg _
        have hi2 : (i : Int) < (l.length : Int) := by omega
        have hfs := hide (firstA_succ (k := (kn : Int)) hl.out)
        have hnx : Hid (¬ (l[i].kind = 2 ∧ l[i].key = kn ∧ l[i].val = value) → ∀ j (hj : j < l.length), j < i + 1 → ¬ (l[j].kind = 2 ∧ l[j].key = kn ∧ l[j].val = value)) := fun h j hj hji => by
          by_cases hjq : j = i
          · subst hjq; exact h
          · exact hno.out j hj (by omega)
        generalize l[i] = x at *
        by_cases hk : x.key = kn
        · have hk' : (x.key == (kn : Int)) = true := by simp [hk]
          by_cases hw : x.kind = 2 ∧ x.val = value
          · have hf : future L 0 kn value = true := by
              rw [hfut.out, List.any_eq_true]
              exact ⟨x, hmem.out, by simp [hw.1, hw.2, hk]⟩
            obtain ⟨rfl, rfl⟩ := m1.out hf
            have h2' : (x.kind == 2) = true := by simp [hw.1]
            have h3' : (x.val == value) = true := by simp [hw.2]
            clear hf hw hk
            go_wp2
            go_ret
            exact ⟨by simp, B4⟩
          · have hnx2 := hide (hnx.out (fun e => hw ⟨e.1, e.2.2⟩))
            have h2' : ((x.kind == 2) && (x.val == value)) = false := by simpa using fun e => fun e2 => hw ⟨e, e2⟩
            by_cases hf : firstA l kn i < 0
            · have hfn : Hid (firstA l kn (i + 1) = i) := by unfold Hid; rw [hfs.out, if_pos ⟨hf, hk⟩]
              clear hfs hk hnx hno
              generalize firstA l kn i = ff at *
              by_cases h2q : x.kind = 2
              · have h2r : (x.kind == 2) = true := by simp [h2q]
                have h3r : (x.val == value) = false := by simpa using fun e => hw ⟨h2q, e⟩
                clear hw h2q h2'
                go_wp2
                go_round
                case rel => exact ⟨i + 1, by omega, by go_num, by rw [hfn.out], hnx2⟩
                case measure => simp [intOf]; omega
              · have h2r : (x.kind == 2) = false := by simp [h2q]
                clear hw h2q h2'
                go_wp2
                go_round
                case rel => exact ⟨i + 1, by omega, by go_num, by rw [hfn.out], hnx2⟩
                case measure => simp [intOf]; omega
            · have hfn : Hid (firstA l kn (i + 1) = firstA l kn i) := by unfold Hid; rw [hfs.out, if_neg (fun e => hf e.1)]
              clear hfs hk hnx hno
              generalize firstA l kn i = ff at *
              by_cases h2q : x.kind = 2
              · have h2r : (x.kind == 2) = true := by simp [h2q]
                have h3r : (x.val == value) = false := by simpa using fun e => hw ⟨h2q, e⟩
                clear hw h2q h2'
                go_wp2
                go_round
                case rel => exact ⟨i + 1, by omega, by go_num, by rw [hfn.out], hnx2⟩
                case measure => simp [intOf]; omega
              · have h2r : (x.kind == 2) = false := by simp [h2q]
                clear hw h2q h2'
                go_wp2
                go_round
                case rel => exact ⟨i + 1, by omega, by go_num, by rw [hfn.out], hnx2⟩
                case measure => simp [intOf]; omega
        · have hk' : (x.key == (kn : Int)) = false := by simp [hk]
          have hnx2 := hide (hnx.out (fun e => hk e.2.1))
          have hfn : Hid (firstA l kn (i + 1) = firstA l kn i) := by unfold Hid; rw [hfs.out, if_neg (fun e => hk e.2)]
          clear hfs hnx hno hk
          generalize firstA l kn i = ff at *
          go_wp2
          go_round
          case rel => exact ⟨i + 1, by omega, by go_num, by rw [hfn.out], hnx2⟩
          case measure => simp [intOf]; omega
      · have : i = l.length := by omega
        subst this
        rw [firstA_all]
        have hf : future L 0 kn value = false := by
          rw [hfut.out, List.any_eq_false]
          intro x hx hc
          obtain ⟨j, hj, rfl⟩ := List.getElem_of_mem hx
          exact hno.out j hj hj (by simpa [and_assoc] using hc)
        have fb := firstD_lt l kn
        replace m2 := hide (m2.out hf)
        replace m3 := hide (m3.out hf)
        clear m1 hno hf hfut
        generalize firstD l kn 0 = ff at *
        by_cases g0 : 0 ≤ ff
        · obtain ⟨j, rfl⟩ := Int.eq_ofNat_of_zero_le g0
          have hj : j < l.length := by omega
          have hka : Hid (kindAt l j = l[j].kind) := by unfold Hid kindAt; rw [Int.toNat_natCast, List.getElem?_eq_getElem hj]; rfl
          have hva : Hid (valAt l j = l[j].val) := by unfold Hid valAt; rw [Int.toNat_natCast, List.getElem?_eq_getElem hj]; rfl
          have hj1 : (0 : Int) ≤ (j : Int) := Int.natCast_nonneg _
          have hj2 : (j : Int) < (l.length : Int) := by omega
          replace m2 := hide (by have := m2.out; rw [hka.out, hva.out] at this; exact this)
          replace m3 := hide (by have := m3.out; rw [hka.out, hva.out] at this; exact this)
          obtain ⟨b, off, rfl, _, c0, c1, c2, c3⟩ := EvS.at_ hE3 hj
          clear hka hva
          generalize l[j] = x at *
          by_cases h1 : x.kind = 1
          · have h1' : (x.kind == 1) = true := by simp [h1]
            by_cases h2 : x.val = value
            · have h2' : (x.val == value) = true := by simp [h2]
              have h2'' : (x.val != value) = false := by simp [h2]
              obtain ⟨rfl, rfl, rfl⟩ := m3.out (fun e => e.2.2 h2)
              clear h1 h2 m2 m3
              go_wp2_with fail
              refine (eqIt_any _ _ _ _ w3l w3l V hw5 hw6 (by omega) (by omega)).mono ?_
              rintro e w5 ⟨rfl, hb5⟩
              have B5 := B4.trans (hb5.mono B4.size)
              have hE5 := EvS.below hE3 hb5
              have hdr5 := EvS.below hdr3 hb5
              simp only [decide_true]
              go_wp2_with fail
              all_goals
                rw [hlenm.out]
                refine (sameEv_any _ _ _ _ l w5 hdr5 hE5 (by omega)).mono ?_
                rintro e w7 ⟨rfl, hb7⟩
                have B7 := B5.trans (hb7.mono B5.size)
                go_wp2
                go_ret
                exact ⟨by simp, B7⟩
            · have h2' : (x.val == value) = false := by simp [h2]
              have h2'' : (x.val != value) = true := by simp [h2]
              obtain ⟨rfl, rfl⟩ := m2.out (by omega) h1 h2
              clear h1 h2 m2 m3
              go_wp2
              go_ret
              exact ⟨by simp, B4⟩
          · have h1' : (x.kind == 1) = false := by simp [h1]
            obtain ⟨rfl, rfl, rfl⟩ := m3.out (fun e => h1 e.2.1)
            clear h1 m2 m3
            go_wp2_with fail
            refine (eqIt_any _ _ _ _ w3l w3l V hw5 hw6 (by omega) (by omega)).mono ?_
            rintro e w5 ⟨rfl, hb5⟩
            have B5 := B4.trans (hb5.mono B4.size)
            have hE5 := EvS.below hE3 hb5
            have hdr5 := EvS.below hdr3 hb5
            simp only [decide_true]
            go_wp2_with fail
            all_goals
              rw [hlenm.out]
              refine (sameEv_any _ _ _ _ l w5 hdr5 hE5 (by omega)).mono ?_
              rintro e w7 ⟨rfl, hb7⟩
              have B7 := B5.trans (hb7.mono B5.size)
              go_wp2
              go_ret
              exact ⟨by simp, B7⟩
        · have g0' : decide (0 ≤ ff) = false := by simpa using g0
          obtain ⟨rfl, rfl, rfl⟩ := m3.out (fun e => g0 e.1)
          clear m2 m3
          go_wp2_with fail
          refine (eqIt_any _ _ _ _ w3l w3l V hw5 hw6 (by omega) (by omega)).mono ?_
          rintro e w5 ⟨rfl, hb5⟩
          have B5 := B4.trans (hb5.mono B4.size)
          have hE5 := EvS.below hE3 hb5
          have hdr5 := EvS.below hdr3 hb5
          simp only [decide_true]
          go_wp2_with fail
          all_goals
            rw [hlenm.out]
            refine (sameEv_any _ _ _ _ l w5 hdr5 hE5 (by omega)).mono ?_
            rintro e w7 ⟨rfl, hb7⟩
            have B7 := B5.trans (hb7.mono B5.size)
            go_wp2
            go_ret
            exact ⟨by simp, B7⟩
end Go.Proofs.Yteddcpblpkhoeaa
