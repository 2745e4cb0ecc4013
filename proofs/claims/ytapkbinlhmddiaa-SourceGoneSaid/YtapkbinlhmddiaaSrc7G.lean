/-
  Walks: SourceGone.
-/
import Derived.Test.YtapkbinlhmddiaaSrc7X
set_option linter.unusedVariables false
set_option linter.unusedSimpArgs false
namespace Go.Proofs.Ytapkbinlhmddiaa
open Go.RowKit Go.Inq
set_option maxHeartbeats 4000000
attribute [local go_sem ↓] Go.wp_at_zero Go.wp_at_succ

theorem kept_step {l : List Tx} {i : Nat} (hi : i < l.length) : kept (l.take (i + 1)) = kept (l.take i) ++ if l[i].done = true then [l[i]] else [] := by
  unfold kept
  rw [List.take_succ_eq_append_getElem hi, List.filter_append]
  congr 1
  by_cases h : l[i].done = true <;> simp [h]
theorem kept_le (l : List Tx) : (kept l).length ≤ l.length := by unfold kept; exact List.length_filter_le _ _
def okG (e : Ev) : Prop := e.val < 7000000

set_option maxRecDepth 100000 in
theorem gone7_any (A : Option Addr) (c : Nat) (l : List Tx) (key : Int) (w : World) (h : TxS w (Old w) (.slice A l.length c) l) (hn : l.length ≤ maxLen) :
    Calls Try.prog 6 #[.slice A l.length c, .int .i64 key] w fun e w' => e = .returned (.bool true) ∧ Below w.heap.size w w' := by
  obtain ⟨ig, hig, hig1, hig2, hig3⟩ := info_parts infoG7
  go_enter Try.func6, Try.ntmps6
  go_wp2_with fail
  refine (awake7_any _).mono ?_
  rintro e w1 ⟨rfl, hb1⟩
  have h1 := TxS.below h hb1
  dsimp only
  go_wp2_with fail
  refine (few7_any l A c w1 h1 hn).mono ?_
  rintro e w2 ⟨rfl, rfl⟩
  cases hf : fewB l with
  | false =>
    go_wp2
    go_ret
    exact ⟨rfl, hb1⟩
  | true =>
    have hsm := few_small hf
    have hn1 : l.length ≤ 1000 := hsm.1
    clear hf hn h
    go_wp2_with fail
    refine (hist7_any l A c w1 h1 hsm).mono ?_
    rintro e w2 ⟨v, rfl, hS, hb2⟩
    have hsH := histR_smallH l
    rcases histR_ways l with ⟨hz1, ia, hz2, hz3, hz4⟩ | ⟨hz1, hl32, g1, g2, g3, g4⟩
    · generalize histR l = r at *
      obtain ⟨rt, ra, re⟩ := r
      dsimp only at hz1 hz2 hz4 hS ⊢
      subst hz1 hz2
      obtain ⟨Av, cv, rfl⟩ := SlR.form hS
      have hb3 := hb1.trans (hb2.mono hb1.size)
      have hre : (re != 0) = true := by simpa using hz4
      simp only [List.length_nil] at hS ⊢
      clear hz4 hz3 hS hsH hb1 hb2 h1
      go_wp2
      go_ret
      exact ⟨by simp, hb3.alloc hb3.size _⟩
    · have hG : GoodT l := ⟨hl32, g1, g2, g3, g4⟩
      obtain ⟨hGk, hkT⟩ := good_kept hG
      rw [hz1] at hS hsH ⊢
      dsimp only at hS hsH ⊢
      clear hz1 g1 g2 g3 g4 hG
      generalize txnsTo l l.length = rt at *
      obtain ⟨Av, cv, rfl⟩ := SlR.form hS
      have hT : TxS w2 (Old w2) (.slice A l.length c) l := TxS.below h1 hb2
      have hS1 : TxnS w2 (Old w2) (.slice Av rt.length cv) rt := TxnS.fit hS (fun b h => h.2)
      have hb3 := hb1.trans (hb2.mono hb1.size)
      have hup : Below w2.heap.size w2 (w2.alloc (.cells #[.slice Av rt.length cv] 27)) := (Below.refl _ _).alloc (Nat.le_refl _) _
      have k0 : Blk (w2.alloc (.cells #[.slice Av rt.length cv] 27)) w2.heap.size 27 #[.slice Av rt.length cv] := Blk.new _ _ _
      replace hT := TxS.below hT hup
      replace hS1 := TxnS.below hS1 hup
      replace hb3 := hb3.trans (hup.mono hb3.size)
      replace hsH := hide hsH
      have hsm2 := hide hsm.2
      have hGk := hide hGk
      have hkT := hide hkT
      have hks := hide (fun i (hi : i < l.length) => kept_step hi)
      clear hS hb2 hup hb1 h1
      go_wp2_with fail
      generalize w2.alloc (.cells #[.slice Av rt.length cv] 27) = V at *
      generalize w2.heap.size = g at *
      have hwB := hb3.size
      generalize hB : V.heap.size = B at *
      replace hB := hide hB
      go_loopw [10, 11] (fun s10 s11 wr => ∃ (i : Nat) (v : Value), i ≤ l.length ∧ s11 = .int .i64 i ∧ v = s10 ∧ OwnR 4 TxR wr (fun b => b < wr.heap.size ∧ v.ownBlock ≠ some b) B 37 v (kept (l.take i)) ∧
        Hid (∀ j (hj : j < l.length), j < i → ∀ e ∈ l[j].ops, okG e) ∧ Below B V wr) (fun _ s11 _ => l.length - (intOf s11).toNat)
      case atStart => exact ⟨0, _, Nat.zero_le _, by go_num, rfl, OwnR.nil _ _ _ _ _ _, fun j _ h => absurd h (by omega), Below.refl _ _⟩
      case round =>
        obtain ⟨i, v, hi, rfl, rfl, hown, hall, hb⟩ := hrel
        have hi1 : (0 : Int) ≤ (i : Int) := Int.natCast_nonneg _
        have hBs : B ≤ wr.heap.size := by have := hb.size; have := hB.out; omega
        by_cases hlt : i < l.length
        · have hi2 : (i : Int) < (l.length : Int) := by omega
          obtain ⟨b, off, A', c', rfl, hbK0, d0, d1, d2, d3, hev⟩ := TxS.at_ (TxS.keep hT (Agree.below hb fun b h => by unfold Old at h; have := hB.out; omega) (fun b h => h)) hlt
          have hbK : b < B := by unfold Old at hbK0; have := hB.out; omega
          have hks2 := hks.out i hlt
          have hst : (∀ e ∈ l[i].ops, okG e) → ∀ j (hj : j < l.length), j < i + 1 → ∀ e ∈ l[j].ops, okG e := fun g j hj hji => by
            by_cases hjj : j = i
            · subst hjj; exact g
            · exact hall.out j hj (by omega)
          have hxl := hsm2.out _ (List.getElem_mem hlt)
          have hkl := kept_le (l.take i)
          have hkl2 : (l.take i).length ≤ i := List.length_take_le _ _
          generalize l[i] = t at *
          obtain ⟨ts, td, tf, xo⟩ := t
          dsimp only at *
          generalize hL : kept (l.take i) = L at *
          replace hst := hide hst
          have hLl : L.length ≤ 1000 := by omega
          clear hL hkl hkl2
          cases td with
          | false =>
            rw [if_neg (by simp), List.append_nil] at hks2
            have hownI := hide (show OwnR 4 TxR wr (fun b => b < wr.heap.size ∧ v.ownBlock ≠ some b) B 37 v (kept (l.take (i + 1))) from hks2 ▸ hown)
            have hevI := hev
            have hbI := hb
            have hbE := hb3.trans (hb.mono (by have := hB.out; have := hb3.size; omega))
            clear hks2 hown hall hev hb
            go_wp2_with fail
            go_loop [12] (fun s12 => ∃ k : Nat, k ≤ xo.length ∧ s12 = .int .i64 k ∧ Hid (∀ e ∈ xo.take k, okG e)) (fun s12 => xo.length - (intOf s12).toNat)
            case atStart => exact ⟨0, Nat.zero_le _, by go_num, fun e he => by simp at he⟩
            case round =>
              obtain ⟨k, hk, rfl, hok⟩ := hrel
              have hk1 : (0 : Int) ≤ (k : Int) := Int.natCast_nonneg _
              by_cases hkl : k < xo.length
              · have hk2 : (k : Int) < (xo.length : Int) := by omega
                obtain ⟨be, oe, rfl, hbe, f0, f1, f2, f3⟩ := EvS.at_ hevI hkl
                have hok1 : okG xo[k] → ∀ e ∈ xo.take (k + 1), okG e := fun g e he => by
                  rw [List.take_succ_eq_append_getElem hkl, List.mem_append] at he
                  rcases he with he | he
                  · exact hok.out e he
                  · simp at he; subst he; exact g
                have hoo : okG xo[k] = (xo[k].val < 7000000) := rfl
                rw [hoo] at hok1
                clear hoo
                generalize xo[k] = z at *
                generalize z.val = zv at *
                by_cases hv9 : 7000000 ≤ zv
                · have hvd : decide (7000000 ≤ zv) = true := by simpa using hv9
                  clear hok1 hok
                  go_wp2
                  go_ret
                  exact ⟨by simp, hbE⟩
                · have hvd : decide (7000000 ≤ zv) = false := by simpa using hv9
                  have hok2 := hide (hok1 (by omega))
                  have hv8 : ¬ (7000000 : Int) ≤ zv := hv9
                  clear hok1 hok hv9
                  go_wp2
                  go_round
                  case rel => exact ⟨k + 1, by omega, by go_num, hok2⟩
                  case measure => simp [intOf]; omega
              · have : k = xo.length := by omega
                subst this
                rw [List.take_length] at hok
                have hst2 := hide (hst.out hok.out)
                clear hok hst
                go_wp2
                go_roundw
                case rel => exact ⟨i + 1, v, by omega, by go_num, rfl, hownI.out, hst2, hbI⟩
                case measure => simp [intOf]; omega
          | true =>
            rw [if_pos rfl] at hks2
            replace hks2 := hide hks2
            have hvlt := hide (show ∀ g, v.ownBlock = some g → B ≤ g ∧ g < wr.heap.size from fun g hg => hown.lt g hg)
            have hwz : Below wr.heap.size wr (wr.alloc (.cells #[.int .i64 ts, .bool true, .int .i64 tf, .slice A' xo.length c'] 37)) := (Below.refl _ _).alloc (Nat.le_refl _) _
            have hbz : Below B V (wr.alloc (.cells #[.int .i64 ts, .bool true, .int .i64 tf, .slice A' xo.length c'] 37)) := hb.trans (hwz.mono hBs)
            have hown8 := hide (show OwnR 4 TxR (wr.alloc (.cells #[.int .i64 ts, .bool true, .int .i64 tf, .slice A' xo.length c'] 37)) (fun b => b < (wr.alloc (.cells #[.int .i64 ts, .bool true, .int .i64 tf, .slice A' xo.length c'] 37)).heap.size ∧ v.ownBlock ≠ some b) B 37 v L from
              OwnR.keep TxR.stab hown (Agree.below hwz fun b h => h.1) (fun b h => ⟨by simp; have := h.1; omega, h.2⟩) (fun g hg => hwz.block g (hvlt.out g hg).2))
            have hev8 : EvS (wr.alloc (.cells #[.int .i64 ts, .bool true, .int .i64 tf, .slice A' xo.length c'] 37)) (fun b => b < B) (.slice A' xo.length c') xo := EvS.keep hev (Agree.below hwz fun b h => by unfold Old at h; have := hB.out; omega) (fun b h => by unfold Old at h; have := hB.out; omega)
            have kN := hide (show SlR 4 TxR (wr.alloc (.cells #[.int .i64 ts, .bool true, .int .i64 tf, .slice A' xo.length c'] 37)) (fun b => b < (wr.alloc (.cells #[.int .i64 ts, .bool true, .int .i64 tf, .slice A' xo.length c'] 37)).heap.size ∧ v.ownBlock ≠ some b) (.slice (some ⟨wr.heap.size, 0, none⟩) 1 1) [(⟨ts, true, tf, xo⟩ : Tx)] from
              SlR.one (R := TxR) (size := 4) (x := (⟨ts, true, tf, xo⟩ : Tx)) (Blk.new wr 37 #[.int .i64 ts, .bool true, .int .i64 tf, .slice A' xo.length c']) rfl
                ⟨_, rfl, EvS.keep hev8 (Agree.refl _ _) (fun b h => ⟨by simp; omega, fun e => by have := (hvlt.out _ e).1; omega⟩)⟩
                ⟨by simp, fun e => by have := (hvlt.out _ e).2; omega⟩)
            have hsz8 : B ≤ (wr.alloc (.cells #[.int .i64 ts, .bool true, .int .i64 tf, .slice A' xo.length c'] 37)).heap.size := by simp; omega
            have e0 := (hwz.cell (p := ⟨b, off + i * 4 + 3, none⟩) (show b < wr.heap.size by omega)).trans d3
            clear hown hev
            go_wp2_with (at_builtin; refine wpList_append_list (R := TxR) rfl (.tmp 49) (.tmp 54) 22 rfl B 37 ig _ 4 48 Try.underlying22 hig hig1 hig2 hig3 rfl (by decide) v (fun b => b < (wr.alloc (.cells #[.int .i64 ts, .bool true, .int .i64 tf, .slice A' xo.length c'] 37)).heap.size ∧ v.ownBlock ≠ some b) L rfl hown8.out _ [(⟨ts, true, tf, xo⟩ : Tx)] rfl kN.out (fun cs x hr => TxR.one hr) (by simp [maxLen]; omega) (by simp; omega) hsz8 (fun w' hg cs x hr => TxR.stab _ _ _ _ _ _ hr (Agree.grown hg (fun b hb => ⟨hb.1, fun e => hb.2 e.symm⟩)) (fun _ h => h)) ?_; intro v6 W9 hown9 hgrow9 hat9)
            have hg6 := hgrow9.size
            have hbI := hbz.grown hgrow9 hsz8 (fun g hg => (hvlt.out g hg).1)
            have hownI := hide (show OwnR 4 TxR W9 (fun b => b < W9.heap.size ∧ v6.ownBlock ≠ some b) B 37 v6 (kept (l.take (i + 1))) from by
              rw [hks2.out]
              refine OwnR.keep TxR.stab hown9 (Agree.refl _ _) (fun b h => ⟨by have := h.1; omega, fun e => ?_⟩) (fun g hg => rfl)
              rcases hat9 with h6 | h6
              · exact h.2 (h6.symm.trans e)
              · have := h6.symm.trans e
                injection this with this
                have := h.1
                omega)
            have hevI := EvS.keep hev8 (Agree.grown hgrow9 (fun b h => ⟨by omega, fun e => by have := (hvlt.out _ e.symm).1; omega⟩)) (fun b h => h)
            have x0 := hgrow9.cell e0 (fun e => by have : B ≤ b := (hvlt.out _ e.symm).1; omega)
            have hbE := hb3.trans (hbI.mono (by have := hB.out; have := hb3.size; omega))
            clear hown9 hgrow9 hat9 e0 hown8 hev8 kN hbz hwz d0 d1 d2 d3 hb hall hks2
            generalize hWq : W9 = wq at *
            clear hWq
            go_wp2_with fail
            go_loop [12] (fun s12 => ∃ k : Nat, k ≤ xo.length ∧ s12 = .int .i64 k ∧ Hid (∀ e ∈ xo.take k, okG e)) (fun s12 => xo.length - (intOf s12).toNat)
            case atStart => exact ⟨0, Nat.zero_le _, by go_num, fun e he => by simp at he⟩
            case round =>
              obtain ⟨k, hk, rfl, hok⟩ := hrel
              have hk1 : (0 : Int) ≤ (k : Int) := Int.natCast_nonneg _
              by_cases hkl : k < xo.length
              · have hk2 : (k : Int) < (xo.length : Int) := by omega
                obtain ⟨be, oe, rfl, hbe, f0, f1, f2, f3⟩ := EvS.at_ hevI hkl
                have hok1 : okG xo[k] → ∀ e ∈ xo.take (k + 1), okG e := fun g e he => by
                  rw [List.take_succ_eq_append_getElem hkl, List.mem_append] at he
                  rcases he with he | he
                  · exact hok.out e he
                  · simp at he; subst he; exact g
                have hoo : okG xo[k] = (xo[k].val < 7000000) := rfl
                rw [hoo] at hok1
                clear hoo
                generalize xo[k] = z at *
                generalize z.val = zv at *
                by_cases hv9 : 7000000 ≤ zv
                · have hvd : decide (7000000 ≤ zv) = true := by simpa using hv9
                  clear hok1 hok
                  go_wp2
                  go_ret
                  exact ⟨by simp, hbE⟩
                · have hvd : decide (7000000 ≤ zv) = false := by simpa using hv9
                  have hok2 := hide (hok1 (by omega))
                  have hv8 : ¬ (7000000 : Int) ≤ zv := hv9
                  clear hok1 hok hv9
                  go_wp2
                  go_round
                  case rel => exact ⟨k + 1, by omega, by go_num, hok2⟩
                  case measure => simp [intOf]; omega
              · have : k = xo.length := by omega
                subst this
                rw [List.take_length] at hok
                have hst2 := hide (hst.out hok.out)
                clear hok hst
                go_wp2
                go_roundw
                case rel => exact ⟨i + 1, v6, by omega, by go_num, rfl, hownI.out, hst2, hbI⟩
                case measure => simp [intOf]; omega
        · have : i = l.length := by omega
          subst this
          rw [List.take_length] at hown
          have hvals : ∀ t ∈ kept l, ∀ e ∈ t.ops, e.val < 7000000 := fun t ht => by
            obtain ⟨j, hj, rfl⟩ := List.getElem_of_mem (List.mem_filter.1 ht).1
            exact hall.out j hj hj
          have hkl := kept_le l
          have hsmK : SmallT (kept l) := ⟨by omega, fun t ht => hsm2.out t (List.mem_filter.1 ht).1⟩
          have hkh : histR (kept l) = (rt, 0, 0) := by rw [hGk.out.hist, hkT.out]
          have hlost := hide (fun (h1 : (kept l).length < 32) (h2 : 0 ≤ key ∧ key < 16) => show histR (kept l ++ [lost key]) = (rt, 0, 0) from by
            obtain ⟨q1, q2⟩ := good_lost hGk.out h1 h2 hvals
            rw [q1.hist, q2, hkT.out])
          have hsmL : SmallT (kept l ++ [lost key]) := ⟨by simp; omega, fun t ht => by
            rcases List.mem_append.1 ht with h | h
            · exact hsmK.2 t h
            · simp at h; subst h; simp [lost]⟩
          replace hsmL := hide hsmL
          have hlk := hGk.out.len
          clear hvals hall hGk hkT hks hsm2 hT
          generalize hKL : kept l = KL at *
          clear hKL
          obtain ⟨A', c', rfl⟩ := hown.form
          have hlt2 := hown.lt
          have hVW := hide (fun (W : World) (hW : Below B V W) => And.intro (k0.below hW (by have := k0.lt; have := hB.out; omega)) (TxnS.keep hS1 (Agree.below hW fun b h => by unfold Old at h; have := hB.out; omega) (K' := Old W) (fun b h => by unfold Old at h ⊢; have := hB.out; have := hW.size; omega)))
          have hbV := hide hb
          have hvlt := hide (show ∀ g, (Value.slice A' KL.length c').ownBlock = some g → B ≤ g ∧ g < wr.heap.size from hlt2)
          have hO : TxS wr (Old wr) (.slice A' KL.length c') KL := OwnR.sl (OwnR.keep TxR.stab hown (Agree.refl _ _) (fun b h => h.1) (fun g hg => rfl)) (fun g hg => (hlt2 g hg).2)
          have hS2 := TxnS.keep hS1 (Agree.below hb fun b h => by unfold Old at h; have := hB.out; omega) (K' := Old wr) (fun b h => by unfold Old at h ⊢; have := hB.out; omega)
          have k1 := k0.below hb (by have := k0.lt; have := hB.out; omega)
          have hb4 := hb3.trans (hb.mono (by have := hB.out; have := hb3.size; omega))
          have hcall := hist7_any KL A' c' wr hO hsmK
          rw [hkh] at hcall
          replace hown := hide hown
          clear hlt2 hb hb3 hS1 k0 hkh hO hsmK
          go_wp2_with fail
          refine hcall.mono ?_
          rintro e w2 ⟨v4, rfl, hS4, hb6⟩
          obtain ⟨A4, c4, rfl⟩ := SlR.form hS4
          dsimp only at hS4 ⊢
          have hup : Below w2.heap.size w2 (w2.alloc (.cells #[.slice A4 rt.length c4] 27)) := (Below.refl _ _).alloc (Nat.le_refl _) _
          have hbu := hb6.trans (hup.mono hb6.size)
          have k2 := k1.below hbu k1.lt
          have k3 : Blk (w2.alloc (.cells #[.slice A4 rt.length c4] 27)) w2.heap.size 27 #[.slice A4 rt.length c4] := Blk.new _ _ _
          have hS3 := TxnS.below hS2 hbu
          have hS5 : TxnS (w2.alloc (.cells #[.slice A4 rt.length c4] 27)) (Old (w2.alloc (.cells #[.slice A4 rt.length c4] 27))) (.slice A4 rt.length c4) rt := TxnS.below (TxnS.fit hS4 (fun b h => h.2)) hup
          have hb7 := hb4.trans (hbu.mono hb4.size)
          have x1 := k2.cell 0
          simp only [List.getElem?_toArray, List.getElem?_cons_zero] at x1
          clear k1 k3 hS2 hS4 hb6 hup hb4 hcall
          go_wp2_with fail
          generalize w2.alloc (.cells #[.slice A4 rt.length c4] 27) = V2 at *
          refine (same07_any A4 Av c4 cv rt rt _ hS5 hS3 hsH.out hsH.out).mono ?_
          rintro e w5 ⟨rfl, hb9⟩
          have hb10 := hb7.trans (hb9.mono hb7.size)
          have hbv := hbu.trans (hb9.mono hbu.size)
          have k4 := k2.below hb9 k2.lt
          have hS6 := TxnS.below hS3 hb9
          simp only [decide_true]
          clear hb9 hb7 hS3 hS5 k2 x1 hbu
          by_cases hk32 : 32 ≤ KL.length
          · have hkd : (32 : Int) ≤ (KL.length : Int) := by omega
            have hkd2 : decide ((32 : Int) ≤ (KL.length : Int)) = true := by simpa using hkd
            clear hk32
            go_wp2
            go_ret
            exact ⟨by simp, hb10⟩
          · have hkd : ¬ (32 : Int) ≤ (KL.length : Int) := by omega
            have hkd2 : decide ((32 : Int) ≤ (KL.length : Int)) = false := by simpa using hkd
            have hkd3 : decide (32 ≤ KL.length) = false := by simpa using hk32
            by_cases hk0 : key < 0
            · have hd0 : decide (key < 0) = true := by simpa using hk0
              clear hk32 hk0
              go_wp2
              go_ret
              exact ⟨by simp, hb10⟩
            · have hd0 : decide (key < 0) = false := by simpa using hk0
              by_cases hk16 : 16 ≤ key
              · have hd16 : decide (16 ≤ key) = true := by simpa using hk16
                clear hk32 hk0 hk16
                go_wp2
                go_ret
                exact ⟨by simp, hb10⟩
              · have hd16 : decide (16 ≤ key) = false := by simpa using hk16
                have hfin := hlost.out (by omega) ⟨by omega, by omega⟩
                have hKB : B ≤ w5.heap.size := by have := hbv.size; omega
                clear hlost hk32 hk0 hk16
                have hwz : Below w5.heap.size w5 ((w5.alloc (.cells #[.int .i64 2, .int .i64 0, .int .i64 key, .int .i64 7000000] 45)).alloc (.cells #[.int .i64 0, .bool false, .int .i64 0, .slice (some ⟨w5.heap.size, 0, none⟩) 1 1] 37)) := ((Below.refl _ _).alloc (Nat.le_refl _) _).alloc (by simp) _
                have hbz : Below wr.heap.size wr ((w5.alloc (.cells #[.int .i64 2, .int .i64 0, .int .i64 key, .int .i64 7000000] 45)).alloc (.cells #[.int .i64 0, .bool false, .int .i64 0, .slice (some ⟨w5.heap.size, 0, none⟩) 1 1] 37)) := hbv.trans (hwz.mono hbv.size)
                have hown8 := hide (show OwnR 4 TxR ((w5.alloc (.cells #[.int .i64 2, .int .i64 0, .int .i64 key, .int .i64 7000000] 45)).alloc (.cells #[.int .i64 0, .bool false, .int .i64 0, .slice (some ⟨w5.heap.size, 0, none⟩) 1 1] 37)) (fun b => b < ((w5.alloc (.cells #[.int .i64 2, .int .i64 0, .int .i64 key, .int .i64 7000000] 45)).alloc (.cells #[.int .i64 0, .bool false, .int .i64 0, .slice (some ⟨w5.heap.size, 0, none⟩) 1 1] 37)).heap.size ∧ (Value.slice A' KL.length c').ownBlock ≠ some b) B 37 (.slice A' KL.length c') KL from
                  OwnR.keep TxR.stab hown.out (Agree.below hbz fun b h => h.1) (fun b h => ⟨by simp; have := h.1; have := hbv.size; omega, h.2⟩) (fun g hg => hbz.block g (hvlt.out g hg).2))
                have kE : Blk ((w5.alloc (.cells #[.int .i64 2, .int .i64 0, .int .i64 key, .int .i64 7000000] 45)).alloc (.cells #[.int .i64 0, .bool false, .int .i64 0, .slice (some ⟨w5.heap.size, 0, none⟩) 1 1] 37)) w5.heap.size 45 #[.int .i64 2, .int .i64 0, .int .i64 key, .int .i64 7000000] := (Blk.new _ _ _).alloc _
                have hws := hbv.size
                have kN := hide (show SlR 4 TxR ((w5.alloc (.cells #[.int .i64 2, .int .i64 0, .int .i64 key, .int .i64 7000000] 45)).alloc (.cells #[.int .i64 0, .bool false, .int .i64 0, .slice (some ⟨w5.heap.size, 0, none⟩) 1 1] 37)) (fun b => b < ((w5.alloc (.cells #[.int .i64 2, .int .i64 0, .int .i64 key, .int .i64 7000000] 45)).alloc (.cells #[.int .i64 0, .bool false, .int .i64 0, .slice (some ⟨w5.heap.size, 0, none⟩) 1 1] 37)).heap.size ∧ (Value.slice A' KL.length c').ownBlock ≠ some b) (.slice (some ⟨w5.heap.size + 1, 0, none⟩) 1 1) [lost key] from by
                  have := SlR.one (R := TxR) (size := 4) (K := (fun b => b < ((w5.alloc (.cells #[.int .i64 2, .int .i64 0, .int .i64 key, .int .i64 7000000] 45)).alloc (.cells #[.int .i64 0, .bool false, .int .i64 0, .slice (some ⟨w5.heap.size, 0, none⟩) 1 1] 37)).heap.size ∧ (Value.slice A' KL.length c').ownBlock ≠ some b)) (x := lost key) (Blk.new (w5.alloc (.cells #[.int .i64 2, .int .i64 0, .int .i64 key, .int .i64 7000000] 45)) 37 #[.int .i64 0, .bool false, .int .i64 0, .slice (some ⟨w5.heap.size, 0, none⟩) 1 1]) rfl
                    ⟨_, rfl, SlR.one (x := (⟨2, 0, key, 7000000⟩ : Ev)) kE rfl rfl ⟨by simp; omega, fun e => by have := (hvlt.out _ e).2; omega⟩⟩
                    ⟨by simp, fun e => by have := (hvlt.out _ e).2; simp at this; omega⟩
                  rwa [show (w5.alloc (.cells #[.int .i64 2, .int .i64 0, .int .i64 key, .int .i64 7000000] 45)).heap.size = w5.heap.size + 1 by simp] at this)
                have hbq := hide ((hbV.out.trans (hbv.mono hBs)).trans (hwz.mono hKB))
                have hsz8 : B ≤ ((w5.alloc (.cells #[.int .i64 2, .int .i64 0, .int .i64 key, .int .i64 7000000] 45)).alloc (.cells #[.int .i64 0, .bool false, .int .i64 0, .slice (some ⟨w5.heap.size, 0, none⟩) 1 1] 37)).heap.size := by simp; omega
                have k5 := k4.below hwz k4.lt
                have hS7 := TxnS.below hS6 hwz
                have hb11 := hb10.trans (hwz.mono hb10.size)
                have hb10s := hb10.size
                clear kE hown k4 hS6 hb10 hwz hbz
                go_wp2_with (at_builtin; refine wpList_append_list (R := TxR) rfl (.tmp 101) (.tmp 106) 22 rfl B 37 ig _ 4 48 Try.underlying22 hig hig1 hig2 hig3 rfl (by decide) (.slice A' KL.length c') (fun b => b < ((w5.alloc (.cells #[.int .i64 2, .int .i64 0, .int .i64 key, .int .i64 7000000] 45)).alloc (.cells #[.int .i64 0, .bool false, .int .i64 0, .slice (some ⟨w5.heap.size, 0, none⟩) 1 1] 37)).heap.size ∧ (Value.slice A' KL.length c').ownBlock ≠ some b) KL rfl hown8.out _ [lost key] rfl kN.out (fun cs x hr => TxR.one hr) (by simp [maxLen]; omega) (by simp; omega) hsz8 (fun w' hg cs x hr => TxR.stab _ _ _ _ _ _ hr (Agree.grown hg (fun b hb => ⟨hb.1, fun e => hb.2 e.symm⟩)) (fun _ h => h)) ?_; intro v6 W9 hown9 hgrow9 hat9; generalize KL ++ [lost key] = K2 at *; obtain ⟨A9, c9, rfl⟩ := hown9.form)
                have hlt9 := hown9.lt
                have hO9 : TxS W9 (Old W9) (.slice A9 K2.length c9) K2 := OwnR.sl (OwnR.keep TxR.stab hown9 (Agree.refl _ _) (fun b h => by have := h.1; have := hgrow9.size; show b < _; omega) (fun g hg => rfl)) (fun g hg => (hlt9 g hg).2)
                obtain ⟨k9, hS9⟩ := hVW.out W9 (hbq.out.grown hgrow9 hsz8 (fun g hg => (hvlt.out g hg).1))
                have hb12 := hb11.grown hgrow9 (by omega) (fun g hg => by have := (hvlt.out g hg).1; omega)
                have hcall := hist7_any K2 A9 c9 W9 hO9 hsmL.out
                rw [hfin] at hcall
                clear hown9 hgrow9 hat9 hlt9 hO9 hb11 hown8 kN k5 hS7
                refine hcall.mono ?_
                rintro e w6 ⟨v7, rfl, hS8, hb13⟩
                obtain ⟨A7, c7, rfl⟩ := SlR.form hS8
                dsimp only at hS8 ⊢
                have hup : Below w6.heap.size w6 (w6.alloc (.cells #[.slice A7 rt.length c7] 27)) := (Below.refl _ _).alloc (Nat.le_refl _) _
                have hbu := hb13.trans (hup.mono hb13.size)
                have k2 := k9.below hbu k9.lt
                have hS3 := TxnS.below hS9 hbu
                have hS5 : TxnS (w6.alloc (.cells #[.slice A7 rt.length c7] 27)) (Old (w6.alloc (.cells #[.slice A7 rt.length c7] 27))) (.slice A7 rt.length c7) rt := TxnS.below (TxnS.fit hS8 (fun b h => h.2)) hup
                have hb14 := hb12.trans (hbu.mono hb12.size)
                have x1 := k2.cell 0
                simp only [List.getElem?_toArray, List.getElem?_cons_zero] at x1
                clear k9 hS9 hS8 hb13 hup hb12 hcall
                go_wp2_with fail
                generalize w6.alloc (.cells #[.slice A7 rt.length c7] 27) = V3 at *
                refine (same07_any A7 Av c7 cv rt rt _ hS5 hS3 hsH.out hsH.out).mono ?_
                rintro e w8 ⟨rfl, hb15⟩
                have hb16 := hb14.trans (hb15.mono hb14.size)
                simp only [decide_true]
                clear hb15 hb14 hS3 hS5 k2 x1 hbu
                go_wp2
                go_ret
                exact ⟨by simp, hb16⟩
end Go.Proofs.Ytapkbinlhmddiaa
