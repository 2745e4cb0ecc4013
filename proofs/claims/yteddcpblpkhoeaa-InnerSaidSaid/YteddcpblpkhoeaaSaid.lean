/-
  Walks: InnerSaid.
-/
import Derived.Test.YteddcpblpkhoeaaLook06
import Derived.Test.YteddcpblpkhoeaaSaidP
set_option linter.unusedVariables false
set_option linter.unusedSimpArgs false
namespace Go.Proofs.Yteddcpblpkhoeaa
open Go.RowKit Go.Inq
set_option maxHeartbeats 4000000
attribute [local go_sem ↓] Go.wp_at_zero Go.wp_at_succ

set_option maxRecDepth 100000 in
theorem said_any (A : Option Addr) (c : Nat) (l : List Ev) (w : World) (h : EvS w (Old w) (.slice A l.length c) l) (hn : l.length ≤ maxLen) :
    Calls Try.prog 4 #[.slice A l.length c] w fun e w' => e = .returned (.bool true) ∧ Below w.heap.size w w' := by
  have hn2 : l.length ≤ 9223372036854775807 := hn
  go_enter Try.func4, Try.ntmps4
  go_wp2_with fail
  refine (awake_any _).mono ?_
  rintro e w1 ⟨rfl, hb1⟩
  by_cases hlong : 200 < l.length
  · have hl2 : (200 : Int) < (l.length : Int) := by omega
    go_wp2
    go_ret
    exact ⟨by simp, hb1⟩
  · have hl2 : ¬ (200 : Int) < (l.length : Int) := by omega
    go_wp2_with fail
    refine (look06_any A c l w1 (EvS.below h hb1) (by omega)).mono ?_
    rintro e w2 ⟨rv, wv, rfl, hr, hw, hb2⟩
    have B2 := hb1.trans (hb2.mono hb1.size)
    obtain ⟨A1, c1, rfl⟩ := ItS.form hr
    obtain ⟨A2, c2, rfl⟩ := ItS.form hw
    rcases lookR_two l with ⟨i, hi, x, hx, hlk⟩ | ⟨hall, hlk⟩
    · rw [hlk] at hr hw ⊢
      have hlt : (i : Int) < (l.length : Int) := by omega
      have hi0 : (0 : Int) ≤ (i : Int) := Int.natCast_nonneg _
      simp only [List.length_nil]
      go_wp2
      go_ret
      exact ⟨by simp, B2.alloc B2.size _⟩
    · rw [hlk] at hr hw ⊢
      simp only at hr hw ⊢
      have hup : Below w2.heap.size w2 (w2.alloc (.cells #[.slice A1 (readsTo l 16).length c1, .slice A2 (writesTo l 16).length c2] 34)) := (Below.refl _ _).alloc (Nat.le_refl _) _
      have kF : Blk (w2.alloc (.cells #[.slice A1 (readsTo l 16).length c1, .slice A2 (writesTo l 16).length c2] 34)) w2.heap.size 34 #[.slice A1 (readsTo l 16).length c1, .slice A2 (writesTo l 16).length c2] := Blk.new _ _ _
      have hr2 : ItS w2 (Old w2) _ _ := ItS.fit hr (fun b hb => hb.2)
      have hw2 : ItS w2 (Old w2) _ _ := ItS.fit hw (fun b hb => hb.2)
      replace hr2 := ItS.below hr2 hup
      replace hw2 := ItS.below hw2 hup
      have hE := EvS.below (EvS.below h hb1) hb2
      replace hE := EvS.below hE hup
      have BW := B2.trans (hup.mono B2.size)
      clear hr hw hup hb2 hb1 B2 h
      go_wp2
      generalize hW : (w2.alloc (.cells #[.slice A1 (readsTo l 16).length c1, .slice A2 (writesTo l 16).length c2] 34)) = W at *
      clear hW
      have f0 := kF.cell 0
      have f1 := kF.cell 1
      simp at f0 f1
      have lenR := readsTo_len l 16
      have lenW := writesTo_len l 16
      have hbadR : ∀ n : Nat, (readsTo l n).length ≤ n := readsTo_len l
      have hbadW : ∀ n : Nat, (writesTo l n).length ≤ n := writesTo_len l
      have hall := hide hall
      clear hlk hlong
      go_loopg [7, 8, 9, 10, 11, 12] 16 (fun gk s7 s8 s9 _ _ _ wx => ∃ n : Nat, n + gk = 16 ∧ s9 = .int .i64 n ∧ s7 = .int .i64 (readsTo l n).length ∧ s8 = .int .i64 (writesTo l n).length ∧ ∃ q, wx = W.drewN q)
      case atStart => exact ⟨0, by omega, by go_num, by simp [readsTo], by simp [writesTo], 0, rfl⟩
      case round =>
        obtain ⟨n, hng, rfl, rfl, rfl, q, rfl⟩ := hrel
        by_cases hlt : n < 16
        · have hd : (n : Int) < 16 := by omega
          go_wp2
          go_loop [10, 11, 12] (fun s10 s11 s12 => ∃ i : Nat, i ≤ l.length ∧ s12 = .int .i64 i ∧ s10 = .int .i64 (firstA l n i) ∧ s11 = .int .i64 (aheadN l 2 n i)) (fun _ _ s => l.length - (intOf s).toNat)
          case atStart => exact ⟨0, Nat.zero_le _, by go_num, rfl, rfl⟩
          case round =>
            obtain ⟨i, hi, rfl, rfl, rfl⟩ := hrel
            by_cases hil : i < l.length
            · have hl : Hid (l[i]? = some l[i]) := List.getElem?_eq_getElem hil
              obtain ⟨b, off, rfl, hbK, c0, c1, c2, c3⟩ := EvS.at_ hE hil
              have hi1 : (0 : Int) ≤ (i : Int) := Int.natCast_nonneg _
              have hi2 : (i : Int) < (l.length : Int) := by omega
              have hfs := hide (firstA_succ (k := (n : Int)) hl.out)
              generalize l[i] = x at *
              by_cases hk : x.key = n
              · have hk' : (x.key == (n : Int)) = true := by simp [hk]
                by_cases h2 : x.kind = 2
                · have hah : Hid (aheadN l 2 n (i + 1) = i) := aheadN_hit hl.out h2 hk
                  by_cases hf : firstA l n i < 0
                  · have hfn : Hid (firstA l n (i + 1) = i) := by unfold Hid; rw [hfs.out, if_pos ⟨hf, hk⟩]
                    clear hfs hk
                    generalize firstA l n i = ff at *
                    generalize aheadN l 2 n i = aa at *
                    go_wp2
                    go_round
                    case rel => exact ⟨i + 1, by omega, by go_num, by rw [hfn.out], by rw [hah.out]⟩
                    case measure => simp [intOf]; omega
                  · have hfn : Hid (firstA l n (i + 1) = firstA l n i) := by unfold Hid; rw [hfs.out, if_neg (fun e => hf e.1)]
                    clear hfs hk
                    generalize firstA l n i = ff at *
                    generalize aheadN l 2 n i = aa at *
                    go_wp2
                    go_round
                    case rel => exact ⟨i + 1, by omega, by go_num, by rw [hfn.out], by rw [hah.out]⟩
                    case measure => simp [intOf]; omega
                · have hah : Hid (aheadN l 2 n (i + 1) = aheadN l 2 n i) := aheadN_miss hl.out (fun e => h2 e.1)
                  have h2' : (x.kind == 2) = false := by simp [h2]
                  by_cases hf : firstA l n i < 0
                  · have hfn : Hid (firstA l n (i + 1) = i) := by unfold Hid; rw [hfs.out, if_pos ⟨hf, hk⟩]
                    clear hfs hk
                    generalize firstA l n i = ff at *
                    generalize aheadN l 2 n i = aa at *
                    go_wp2
                    go_round
                    case rel => exact ⟨i + 1, by omega, by go_num, by rw [hfn.out], by rw [hah.out]⟩
                    case measure => simp [intOf]; omega
                  · have hfn : Hid (firstA l n (i + 1) = firstA l n i) := by unfold Hid; rw [hfs.out, if_neg (fun e => hf e.1)]
                    clear hfs hk
                    generalize firstA l n i = ff at *
                    generalize aheadN l 2 n i = aa at *
                    go_wp2
                    go_round
                    case rel => exact ⟨i + 1, by omega, by go_num, by rw [hfn.out], by rw [hah.out]⟩
                    case measure => simp [intOf]; omega
              · have hk' : (x.key == (n : Int)) = false := by simp [hk]
                have hah : Hid (aheadN l 2 n (i + 1) = aheadN l 2 n i) := aheadN_miss hl.out (fun e => hk e.2)
                have hfn : Hid (firstA l n (i + 1) = firstA l n i) := by unfold Hid; rw [hfs.out, if_neg (fun e => hk e.2)]
                clear hfs
                generalize firstA l n i = ff at *
                generalize aheadN l 2 n i = aa at *
                go_wp2
                go_round
                case rel => exact ⟨i + 1, by omega, by go_num, by rw [hfn.out], by rw [hah.out]⟩
                case measure => simp [intOf]; omega
            · have : i = l.length := by omega
              subst this
              rw [firstA_all]
              have hR : Hid (∀ x, readOf l n = some x → (readsTo l 16)[(readsTo l n).length]? = some x) := fun x hx => readsTo_at hlt hx
              have hWr : Hid (∀ x, writeOf l n = some x → (writesTo l 16)[(writesTo l n).length]? = some x) := fun x hx => writesTo_at hlt hx
              have sR := hide (readsTo_succ l n)
              have sW := hide (writesTo_succ l n)
              have hf := firstD_lt l n
              have ha := aheadN_lt l 2 n l.length
              have hro : Hid (readOf l n = if 0 ≤ firstD l n 0 ∧ kindAt l (firstD l n 0) = 1 then some ⟨n, valAt l (firstD l n 0)⟩ else none) := rfl
              have hwo : Hid (writeOf l n = if 0 ≤ aheadN l 2 n l.length then some ⟨n, valAt l (aheadN l 2 n l.length)⟩ else none) := rfl
              generalize firstD l n 0 = fi at *
              generalize aheadN l 2 n l.length = la at *
              by_cases h0 : 0 ≤ fi
              · by_cases hk1 : kindAt l fi = 1
                · obtain ⟨j, rfl⟩ := Int.eq_ofNat_of_zero_le h0
                  have hj : j < l.length := by omega
                  have hka : Hid (kindAt l j = l[j].kind) := by unfold Hid kindAt; rw [Int.toNat_natCast, List.getElem?_eq_getElem hj]; rfl
                  have hva : Hid (valAt l j = l[j].val) := by unfold Hid valAt; rw [Int.toNat_natCast, List.getElem?_eq_getElem hj]; rfl
                  have hx : readOf l n = some ⟨n, l[j].val⟩ := by rw [hro.out, if_pos ⟨by omega, hk1⟩, hva.out]
                  have hit := hR.out _ hx
                  have hrl : (readsTo l n).length < (readsTo l 16).length := by
                    rcases Nat.lt_or_ge (readsTo l n).length (readsTo l 16).length with h | h
                    · exact h
                    · rw [List.getElem?_eq_none h] at hit; cases hit
                  obtain ⟨b1, o1, rfl, _, i0, i1⟩ := ItS.at_ hr2 hrl
                  rw [List.getElem?_eq_getElem hrl] at hit
                  injection hit with hit
                  rw [hit] at i0 i1
                  obtain ⟨b, off, rfl, _, c0, c1, c2, c3⟩ := EvS.at_ hE hj
                  have hlen1 : Hid ((readsTo l (n + 1)).length = (readsTo l n).length + 1) := by unfold Hid; rw [sR.out, hx]; simp
                  have hjk : l[j].kind = 1 := by rw [← hka.out]; exact hk1
                  rw [hjk] at c0
                  clear hka hva hx hit hro hR hjk hk1
                  generalize l[j] = x at *
                  have hj1 : (0 : Int) ≤ (j : Int) := Int.natCast_nonneg _
                  have hj2 : (j : Int) < (l.length : Int) := by omega
                  have hrl2 : ((readsTo l n).length : Int) < ((readsTo l 16).length : Int) := by omega
                  have hrl3 : (0 : Int) ≤ ((readsTo l n).length : Int) := Int.natCast_nonneg _
                  by_cases g0 : 0 ≤ la
                  · obtain ⟨m, rfl⟩ := Int.eq_ofNat_of_zero_le g0
                    have hm : m < l.length := by omega
                    have hva : Hid (valAt l m = l[m].val) := by unfold Hid valAt; rw [Int.toNat_natCast, List.getElem?_eq_getElem hm]; rfl
                    have hx : writeOf l n = some ⟨n, l[m].val⟩ := by rw [hwo.out, if_pos (by omega), hva.out]
                    have hit := hWr.out _ hx
                    have hwl : (writesTo l n).length < (writesTo l 16).length := by
                      rcases Nat.lt_or_ge (writesTo l n).length (writesTo l 16).length with h | h
                      · exact h
                      · rw [List.getElem?_eq_none h] at hit; cases hit
                    obtain ⟨b2, o2, rfl, _, k0, k1⟩ := ItS.at_ hw2 hwl
                    rw [List.getElem?_eq_getElem hwl] at hit
                    injection hit with hit
                    rw [hit] at k0 k1
                    obtain ⟨_, d0, d1, d2, d3⟩ := EvS.cells hE hm
                    have hlen2 : Hid ((writesTo l (n + 1)).length = (writesTo l n).length + 1) := by unfold Hid; rw [sW.out, hx]; simp
                    clear hva hx hit hwo hWr
                    generalize l[m] = y at *
                    have hm1 : (0 : Int) ≤ (m : Int) := Int.natCast_nonneg _
                    have hm2 : (m : Int) < (l.length : Int) := by omega
                    have hwl2 : ((writesTo l n).length : Int) < ((writesTo l 16).length : Int) := by omega
                    have hwl3 : (0 : Int) ≤ ((writesTo l n).length : Int) := Int.natCast_nonneg _
                    go_wp2
                    go_quiet (fail)
                    go_wp2
                    go_quiet (fail)
                    go_wp2
                    go_roundg (15 - n)
                    case measure => omega
                    case rel => exact ⟨n + 1, by omega, by go_num, by rw [hlen1.out] <;> go_num, by rw [hlen2.out] <;> go_num, _, rfl⟩
                  · have hx : writeOf l n = none := by rw [hwo.out, if_neg g0]
                    have hlen2 : Hid ((writesTo l (n + 1)).length = (writesTo l n).length) := by unfold Hid; rw [sW.out, hx]; simp
                    clear hx hwo hWr
                    go_wp2
                    go_quiet (fail)
                    go_wp2
                    go_roundg (15 - n)
                    case measure => omega
                    case rel => exact ⟨n + 1, by omega, by go_num, by rw [hlen1.out] <;> go_num, by rw [hlen2.out] <;> go_num, _, rfl⟩
                · obtain ⟨j, rfl⟩ := Int.eq_ofNat_of_zero_le h0
                  have hj : j < l.length := by omega
                  have hx : readOf l n = none := by rw [hro.out, if_neg (fun e => hk1 e.2)]
                  have hka : Hid (kindAt l j = l[j].kind) := by unfold Hid kindAt; rw [Int.toNat_natCast, List.getElem?_eq_getElem hj]; rfl
                  have hjk : (l[j].kind == 1) = false := by rw [← hka.out]; simp [hk1]
                  obtain ⟨b, off, rfl, _, c0, c1, c2, c3⟩ := EvS.at_ hE hj
                  have hlen1 : Hid ((readsTo l (n + 1)).length = (readsTo l n).length) := by unfold Hid; rw [sR.out, hx]; simp
                  clear hx hro hR hka hk1
                  generalize l[j] = x at *
                  have hj1 : (0 : Int) ≤ (j : Int) := Int.natCast_nonneg _
                  have hj2 : (j : Int) < (l.length : Int) := by omega
                  by_cases g0 : 0 ≤ la
                  · obtain ⟨m, rfl⟩ := Int.eq_ofNat_of_zero_le g0
                    have hm : m < l.length := by omega
                    have hva : Hid (valAt l m = l[m].val) := by unfold Hid valAt; rw [Int.toNat_natCast, List.getElem?_eq_getElem hm]; rfl
                    have hx : writeOf l n = some ⟨n, l[m].val⟩ := by rw [hwo.out, if_pos (by omega), hva.out]
                    have hit := hWr.out _ hx
                    have hwl : (writesTo l n).length < (writesTo l 16).length := by
                      rcases Nat.lt_or_ge (writesTo l n).length (writesTo l 16).length with h | h
                      · exact h
                      · rw [List.getElem?_eq_none h] at hit; cases hit
                    obtain ⟨b2, o2, rfl, _, k0, k1⟩ := ItS.at_ hw2 hwl
                    rw [List.getElem?_eq_getElem hwl] at hit
                    injection hit with hit
                    rw [hit] at k0 k1
                    obtain ⟨_, d0, d1, d2, d3⟩ := EvS.cells hE hm
                    have hlen2 : Hid ((writesTo l (n + 1)).length = (writesTo l n).length + 1) := by unfold Hid; rw [sW.out, hx]; simp
                    clear hva hx hit hwo hWr
                    generalize l[m] = y at *
                    have hm1 : (0 : Int) ≤ (m : Int) := Int.natCast_nonneg _
                    have hm2 : (m : Int) < (l.length : Int) := by omega
                    have hwl2 : ((writesTo l n).length : Int) < ((writesTo l 16).length : Int) := by omega
                    have hwl3 : (0 : Int) ≤ ((writesTo l n).length : Int) := Int.natCast_nonneg _
                    go_wp2
                    go_quiet (fail)
                    go_wp2
                    go_roundg (15 - n)
                    case measure => omega
                    case rel => exact ⟨n + 1, by omega, by go_num, by rw [hlen1.out] <;> go_num, by rw [hlen2.out] <;> go_num, _, rfl⟩
                  · have hx : writeOf l n = none := by rw [hwo.out, if_neg g0]
                    have hlen2 : Hid ((writesTo l (n + 1)).length = (writesTo l n).length) := by unfold Hid; rw [sW.out, hx]; simp
                    clear hx hwo hWr
                    go_wp2
                    go_roundg (15 - n)
                    case measure => omega
                    case rel => exact ⟨n + 1, by omega, by go_num, by rw [hlen1.out] <;> go_num, by rw [hlen2.out] <;> go_num, _, rfl⟩
              · have hx : readOf l n = none := by rw [hro.out, if_neg (fun e => h0 e.1)]
                have hlen1 : Hid ((readsTo l (n + 1)).length = (readsTo l n).length) := by unfold Hid; rw [sR.out, hx]; simp
                clear hx hro hR
                by_cases g0 : 0 ≤ la
                · obtain ⟨m, rfl⟩ := Int.eq_ofNat_of_zero_le g0
                  have hm : m < l.length := by omega
                  have hva : Hid (valAt l m = l[m].val) := by unfold Hid valAt; rw [Int.toNat_natCast, List.getElem?_eq_getElem hm]; rfl
                  have hx : writeOf l n = some ⟨n, l[m].val⟩ := by rw [hwo.out, if_pos (by omega), hva.out]
                  have hit := hWr.out _ hx
                  have hwl : (writesTo l n).length < (writesTo l 16).length := by
                    rcases Nat.lt_or_ge (writesTo l n).length (writesTo l 16).length with h | h
                    · exact h
                    · rw [List.getElem?_eq_none h] at hit; cases hit
                  obtain ⟨b2, o2, rfl, _, k0, k1⟩ := ItS.at_ hw2 hwl
                  rw [List.getElem?_eq_getElem hwl] at hit
                  injection hit with hit
                  rw [hit] at k0 k1
                  obtain ⟨b, off, rfl, _, d0, d1, d2, d3⟩ := EvS.at_ hE hm
                  have hlen2 : Hid ((writesTo l (n + 1)).length = (writesTo l n).length + 1) := by unfold Hid; rw [sW.out, hx]; simp
                  clear hva hx hit hwo hWr
                  generalize l[m] = y at *
                  have hm1 : (0 : Int) ≤ (m : Int) := Int.natCast_nonneg _
                  have hm2 : (m : Int) < (l.length : Int) := by omega
                  have hwl2 : ((writesTo l n).length : Int) < ((writesTo l 16).length : Int) := by omega
                  have hwl3 : (0 : Int) ≤ ((writesTo l n).length : Int) := Int.natCast_nonneg _
                  go_wp2
                  go_quiet (fail)
                  go_wp2
                  go_roundg (15 - n)
                  case measure => omega
                  case rel => exact ⟨n + 1, by omega, by go_num, by rw [hlen1.out] <;> go_num, by rw [hlen2.out] <;> go_num, _, rfl⟩
                · have hx : writeOf l n = none := by rw [hwo.out, if_neg g0]
                  have hlen2 : Hid ((writesTo l (n + 1)).length = (writesTo l n).length) := by unfold Hid; rw [sW.out, hx]; simp
                  clear hx hwo hWr
                  go_wp2
                  go_roundg (15 - n)
                  case measure => omega
                  case rel => exact ⟨n + 1, by omega, by go_num, by rw [hlen1.out] <;> go_num, by rw [hlen2.out] <;> go_num, _, rfl⟩
        · have : n = 16 := by omega
          subst this
          go_wp2
          go_ret
          exact ⟨by simp, ⟨BW.os, BW.tape, BW.output, BW.size, BW.block⟩⟩
end Go.Proofs.Yteddcpblpkhoeaa
