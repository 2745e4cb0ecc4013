/-
  Walks: the reference of layer 7: from.
-/
import Derived.Test.YtapkbinlhmddiaaSrc07U
import Derived.Test.YtapkbinlhmddiaaRef06L
set_option linter.unusedVariables false
set_option linter.unusedSimpArgs false
namespace Go.Proofs.Ytapkbinlhmddiaa
open Go.RowKit Go.Inq
set_option maxHeartbeats 4000000
attribute [local go_sem ↓] Go.wp_at_zero Go.wp_at_succ

theorem look_len (l : List Ev) : (lookR l).reads.length ≤ 16 ∧ (lookR l).writes.length ≤ 16 := by
  unfold lookR
  split
  · simp
  · have := readsTo_len l 16
    have := writesTo_len l 16
    exact ⟨by assumption, by assumption⟩
theorem who_hit {l : List Tx} {x : It} {i : Nat} (hi : i < l.length) (h : ∀ k (hk : k < l.length), k < i → wrT l[k] x = 0) (hp : 0 < wrT l[i] x) : whoR l x = some i := by
  unfold whoR
  rw [List.findIdx?_eq_some_iff_getElem]
  refine ⟨hi, by simpa using hp, fun j hj => ?_⟩
  have := h j (by omega) hj
  simp [this]
theorem who_miss {l : List Tx} {x : It} (h : ∀ k (hk : k < l.length), wrT l[k] x = 0) : whoR l x = none := by
  unfold whoR
  rw [List.findIdx?_eq_none_iff]
  intro t ht
  obtain ⟨j, hj, rfl⟩ := List.getElem_of_mem ht
  simp [h j hj]
theorem from_zero {l : List Tx} {x : It} (h : x.b = 0) : fromR l x = (-1, 0) := by unfold fromR; rw [if_pos h]
theorem from_none {l : List Tx} {x : It} (h : x.b ≠ 0) (hw : whoR l x = none) : fromR l x = (0, 12) := by unfold fromR; rw [if_neg h, hw]
theorem from_some {l : List Tx} {x : It} {i : Nat} (h : x.b ≠ 0) (hi : i < l.length) (hw : whoR l x = some i) :
    fromR l x = if l[i].done = false then (0, 13) else if middleB (lookR l[i].ops).writes x = true then (0, 14) else ((numR7 l i : Int), 0) := by
  unfold fromR
  rw [if_neg h, hw]
  dsimp only
  rw [List.getElem?_eq_getElem hi]
theorem middle_hit {ws : List It} {x : It} {m : Nat} (hm : m < ws.length) (h1 : ws[m].a = x.a) (h2 : ws[m].b ≠ x.b) : middleB ws x = true := by
  unfold middleB
  rw [List.any_eq_true]
  exact ⟨ws[m], List.getElem_mem hm, by simp [h1, h2]⟩
theorem middle_miss {ws : List It} {x : It} (h : ∀ m (hm : m < ws.length), ¬ (ws[m].a = x.a ∧ ws[m].b ≠ x.b)) : middleB ws x = false := by
  unfold middleB
  rw [List.any_eq_false]
  intro y hy
  obtain ⟨j, hj, rfl⟩ := List.getElem_of_mem hy
  have := h j hj
  simp
  intro g
  exact Decidable.of_not_not fun g2 => this ⟨g, g2⟩

set_option maxRecDepth 100000 in
theorem from7_any (l : List Tx) (A : Option Addr) (c : Nat) (x : It) (w : World) (h : TxS w (Old w) (.slice A l.length c) l) (hs : SmallT l) :
    Calls Try.prog 32 #[.slice A l.length c, .int .i64 x.a, .int .i64 x.b] w fun e w' => e = .returned (.tuple #[.int .i64 (fromR l x).1, .int .i64 (fromR l x).2]) ∧ Below w.heap.size w w' := by
  by_cases hx0 : x.b = 0
  · have hr := hide (from_zero (l := l) hx0)
    have hxb : (x.b == 0) = true := by simpa using hx0
    clear hx0
    go_enter Try.func32, Try.ntmps32
    go_wp2
    go_ret2
    exact ⟨by rw [hr.out]; rfl, Below.refl _ _⟩
  · have hxb : (x.b == 0) = false := by simpa using hx0
    have hn := hs.1
    have hsm := hide hs.2
    have hnone := hide (fun hw => from_none (l := l) hx0 hw)
    have hsome := hide (fun i hi hw => from_some (l := l) (x := x) (i := i) hx0 hi hw)
    have hhit := hide (fun i hi => who_hit (l := l) (x := x) (i := i) hi)
    have hmiss := hide (who_miss (l := l) (x := x))
    clear hs hx0
    go_enter Try.func32, Try.ntmps32
    go_wp2_with fail
    go_loopw [8, 9, 10, 11, 12] (fun s8 _ _ _ _ wr => ∃ i : Nat, i ≤ l.length ∧ s8 = .int .i64 i ∧ Hid (∀ k (hk : k < l.length), k < i → wrT l[k] x = 0) ∧ Below w.heap.size w wr) (fun s8 _ _ _ _ _ => l.length - (intOf s8).toNat)
    case atStart => exact ⟨0, Nat.zero_le _, by go_num, fun k _ h => absurd h (by omega), Below.refl _ _⟩
    case round =>
      obtain ⟨i, hi, rfl, hall, hq⟩ := hrel
      have hi1 : (0 : Int) ≤ (i : Int) := Int.natCast_nonneg _
      by_cases hlt : i < l.length
      · have hi2 : (i : Int) < (l.length : Int) := by omega
        obtain ⟨b, off, A2, c2, rfl, hbK, v0, v1, v2, v3, hev2⟩ := TxS.at_ h hlt
        have hv0 := hide (show ∀ W, Below w.heap.size w W → W.cell? ⟨b, off + i * 4, none⟩ = some (.int .i64 l[i].sess) from fun W hW => (hW.cell (p := ⟨b, _, none⟩) hbK).trans v0)
        have hv1 := hide (show ∀ W, Below w.heap.size w W → W.cell? ⟨b, off + i * 4 + 1, none⟩ = some (.bool l[i].done) from fun W hW => (hW.cell (p := ⟨b, _, none⟩) hbK).trans v1)
        have hv2 := hide (show ∀ W, Below w.heap.size w W → W.cell? ⟨b, off + i * 4 + 2, none⟩ = some (.int .i64 l[i].first) from fun W hW => (hW.cell (p := ⟨b, _, none⟩) hbK).trans v2)
        have hv3 := hide (show ∀ W, Below w.heap.size w W → W.cell? ⟨b, off + i * 4 + 3, none⟩ = some (.slice A2 l[i].ops.length c2) from fun W hW => (hW.cell (p := ⟨b, _, none⟩) hbK).trans v3)
        have hls := hsm.out _ (List.getElem_mem hlt)
        have hwk := hide (fun (W : World) (hW : Below w.heap.size w W) => writes7_any l[i] A2 c2 l[i].ops.length x W (EvS.keep hev2 (Agree.below hW fun _ h => h) (fun b hb => Nat.lt_of_lt_of_le hb hW.size)) (Nat.le_refl _) (by omega))
        have hlk := hide (fun (W : World) (hW : Below w.heap.size w W) => rlook_any A2 c2 l[i].ops W (EvS.keep hev2 (Agree.below hW fun _ h => h) (fun b hb => Nat.lt_of_lt_of_le hb hW.size)) (by omega))
        have hst : wrT l[i] x = 0 → ∀ k (hk : k < l.length), k < i + 1 → wrT l[k] x = 0 := fun g k hk hki => by
          by_cases hkk : k = i
          · subst hkk; exact g
          · exact hall.out k hk (by omega)
        have hsm2 := hide (fun g : 0 < wrT l[i] x => hsome.out i hlt (hhit.out i hlt hall.out g))
        have hwT : wrT l[i] x = Go.Inq.wr l[i].ops l[i].ops.length x := rfl
        have hnum := hide (fun (W : World) (hW : Below w.heap.size w W) => number7_any l (some ⟨b, off, none⟩) c i W (TxS.keep h (Agree.below hW fun _ h => h) (fun b hb => Nat.lt_of_lt_of_le hb hW.size)) (by omega) (by omega))
        have hwle := wr_le l[i].ops l[i].ops.length x
        rw [hwT] at hst hsm2
        clear v0 v1 v2 v3 hev2 hwT hall hnone hsome hhit hmiss
        have hll := look_len l[i].ops
        generalize l[i] = y at *
        obtain ⟨xs, xd, xf, xo⟩ := y
        dsimp only at *
        generalize Go.Inq.wr xo xo.length x = n2 at *
        generalize lookR xo = lk at *
        obtain ⟨lr, lw, lat, ler⟩ := lk
        dsimp only at *
        go_wp2_with fail
        replace hst := hide hst
        refine wp_region_float (fun W => Below w.heap.size w W) (by kernel_rfl) (by kernel_rfl) hq.drew ?_
        refine ⟨.slice (some ⟨b, off, none⟩) l.length c, fun W hW => (by go_wp2), ?_⟩
        refine ⟨.int .i64 i, fun W hW => (by go_wp2), ?_⟩
        refine ⟨.pointer (some ⟨b, off + i * 4, none⟩), fun W hW => (by go_wp2), ?_⟩
        refine ⟨.agg #[.int .i64 xs, .bool xd, .int .i64 xf, .slice A2 xo.length c2], fun W hW => (by have v0 := hv0.out W hW; have v1 := hv1.out W hW; have v2 := hv2.out W hW; have v3 := hv3.out W hW; go_wp2), ?_⟩
        refine ⟨.slice (some ⟨b, off, none⟩) l.length c, fun W hW => (by go_wp2), ?_⟩
        refine ⟨.int .i64 i, fun W hW => (by go_wp2), ?_⟩
        refine ⟨.pointer (some ⟨b, off + i * 4, none⟩), fun W hW => (by go_wp2), ?_⟩
        refine ⟨.pointer (some ⟨b, off + i * 4 + 3, none⟩), fun W hW => (by go_wp2), ?_⟩
        refine ⟨.slice A2 xo.length c2, fun W hW => (by have v3 := hv3.out W hW; go_wp2), ?_⟩
        refine ⟨.int .i64 xo.length, fun W hW => (by go_wp2), ?_⟩
        refine ⟨.int .i64 x.a, fun W hW => (by go_wp2), ?_⟩
        refine ⟨.int .i64 x.b, fun W hW => (by go_wp2), ?_⟩
        refine ⟨.int .i64 n2, fun W hW => (by go_wp2_with (go_at_call 29; refine (hwk.out W hW).mono ?_; rintro e' w' ⟨rfl, hb'⟩; replace hW := hW.trans (hb'.mono hW.size))), ?_⟩
        refine ⟨.bool ((n2 : Int) == 0), fun W hW => (by go_wp2), ?_⟩
        intro w4 hw4
        simp only [Act.put, List.setIfInBounds_toArray, List.set_cons_zero, List.set_cons_succ]
        clear hv0 hv2 hwk
        by_cases hz : n2 = 0
        · have hst2 := hide (hst.out hz)
          have hzt : ((n2 : Int) == 0) = true := by rw [hz]; rfl
          clear hst hsm2 hv1 hv3 hlk hnum hz
          go_wp2
          go_roundw
          case rel => exact ⟨i + 1, by omega, by go_num, hst2, hw4⟩
          case measure => simp [intOf]; omega
        · have hr := hsm2.out (by omega)
          have hzb : ((n2 : Int) == 0) = false := by simp; omega
          clear hst hsm2 hz
          have u1 := hv1.out w4 hw4
          have u3 := hv3.out w4 hw4
          cases hd : xd with
          | false =>
            rw [if_pos hd] at hr
            rw [hd] at u1
            replace hr := hide hr
            clear hd
            go_wp2
            go_ret2
            exact ⟨by rw [hr.out]; rfl, hw4⟩
          | true =>
            rw [if_neg (by simp [hd])] at hr
            rw [hd] at u1
            replace hr := hide hr
            clear hd
            go_wp2_with fail
            refine (hlk.out w4 hw4).mono ?_
            rintro e w5 ⟨rv, wv, rfl, hrv, hwv, hb5⟩
            obtain ⟨Aw, cw, rfl⟩ := SlR.form hwv
            obtain ⟨Ar, cr, rfl⟩ := SlR.form hrv
            have hw5 := hw4.trans (hb5.mono hw4.size)
            have hF : Below w5.heap.size w5 (w5.alloc (.cells #[.slice Ar lr.length cr, .slice Aw lw.length cw] 69)) := (Below.refl _ _).alloc (Nat.le_refl _) _
            have kF : Blk (w5.alloc (.cells #[.slice Ar lr.length cr, .slice Aw lw.length cw] 69)) w5.heap.size 69 _ := Blk.new _ _ _
            have hw6 := hw5.trans (hF.mono hw5.size)
            replace hwv : ItS (w5.alloc (.cells #[.slice Ar lr.length cr, .slice Aw lw.length cw] 69)) (Old (w5.alloc (.cells #[.slice Ar lr.length cr, .slice Aw lw.length cw] 69))) (.slice Aw lw.length cw) lw := ItS.below (ItS.fit hwv (fun b hb => hb.2)) hF
            clear hF hrv hb5 hlk u1 u3
            have f1 := kF.cell 1
            simp only [List.getElem?_toArray, List.getElem?_cons_zero, List.getElem?_cons_succ] at f1
            go_wp2_with fail
            generalize w5.alloc (.cells #[.slice Ar lr.length cr, .slice Aw lw.length cw] 69) = W5 at *
            have hmh := hide (fun m hm => middle_hit (ws := lw) (x := x) (m := m) hm)
            have hmm := hide (middle_miss (ws := lw) (x := x))
            go_loop [12] (fun s12 => ∃ m : Nat, m ≤ lw.length ∧ s12 = .int .i64 m ∧ Hid (∀ k (hk : k < lw.length), k < m → ¬ (lw[k].a = x.a ∧ lw[k].b ≠ x.b))) (fun s12 => lw.length - (intOf s12).toNat)
            case atStart => exact ⟨0, Nat.zero_le _, by go_num, fun k _ h => absurd h (by omega)⟩
            case round =>
              obtain ⟨m, hm, rfl, hmall⟩ := hrel
              have hm1 : (0 : Int) ≤ (m : Int) := Int.natCast_nonneg _
              by_cases hml : m < lw.length
              · have hm2 : (m : Int) < (lw.length : Int) := by omega
                obtain ⟨bw, ow, rfl, hbw, d0, d1⟩ := ItS.at_ hwv hml
                have hms := hmh.out m hml
                have hmst : ¬ (lw[m].a = x.a ∧ lw[m].b ≠ x.b) → ∀ k (hk : k < lw.length), k < m + 1 → ¬ (lw[k].a = x.a ∧ lw[k].b ≠ x.b) := fun g k hk hkm => by
                  by_cases hkk : k = m
                  · subst hkk; exact g
                  · exact hmall.out k hk (by omega)
                generalize lw[m] = z at *
                by_cases g1 : z.a = x.a
                · have g1b : (z.a == x.a) = true := by simpa using g1
                  by_cases g2 : z.b = x.b
                  · have g2b : (z.b != x.b) = false := by simpa using g2
                    have hmst2 := hide (hmst (fun h => h.2 g2))
                    clear hmst hms g1 g2
                    go_wp2
                    go_round
                    case rel => exact ⟨m + 1, by omega, by go_num, hmst2⟩
                    case measure => simp [intOf]; omega
                  · have g2b : (z.b != x.b) = true := by simpa using g2
                    have hr2 := hr.out
                    rw [if_pos (hms g1 g2)] at hr2
                    replace hr2 := hide hr2
                    clear hmst hms g1 g2
                    go_wp2
                    go_ret2
                    exact ⟨by rw [hr2.out]; rfl, hw6⟩
                · have g1b : (z.a == x.a) = false := by simpa using g1
                  have hmst2 := hide (hmst (fun h => g1 h.1))
                  clear hmst hms g1
                  go_wp2
                  go_round
                  case rel => exact ⟨m + 1, by omega, by go_num, hmst2⟩
                  case measure => simp [intOf]; omega
              · have : m = lw.length := by omega
                subst this
                have hr2 := hr.out
                rw [if_neg (by rw [hmm.out fun k hk => hmall.out k hk hk]; simp)] at hr2
                replace hr2 := hide hr2
                go_wp2_with fail
                refine (hnum.out W5 hw6).mono ?_
                rintro e w7 ⟨rfl, rfl⟩
                go_wp2
                go_ret2
                exact ⟨by rw [hr2.out]; rfl, hw6⟩
      · have : i = l.length := by omega
        subst this
        have hr := hide (hnone.out (hmiss.out fun k hk => hall.out k hk hk))
        go_wp2
        go_ret2
        exact ⟨by rw [hr.out]; rfl, hq⟩
end Go.Proofs.Ytapkbinlhmddiaa
