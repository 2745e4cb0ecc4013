/-
  Walks: SourceNames.
-/
import Derived.Test.YtapkbinlhmddiaaSrc7A
import Derived.Test.YtapkbinlhmddiaaSrc7S
set_option linter.unusedVariables false
set_option linter.unusedSimpArgs false
namespace Go.Proofs.Ytapkbinlhmddiaa
open Go.RowKit Go.Inq
set_option maxHeartbeats 4000000
attribute [local go_sem ↓] Go.wp_at_zero Go.wp_at_succ

theorem infoE7 : (Try.prog.info? 45).map (fun i => (i.zero, i.size, i.bytes)) = some (some (.agg #[.int .i64 0, .int .i64 0, .int .i64 0, .int .i64 0]), 4, 32) := by kernel_rfl
theorem infoG7 : (Try.prog.info? 37).map (fun i => (i.zero, i.size, i.bytes)) = some (some (.agg #[.int .i64 0, .bool false, .int .i64 0, .slice none 0 0]), 4, 48) := by kernel_rfl
theorem encE1 : ∀ (x : Ev), ∀ u ∈ x.enc, u.oneCell' = true := by
  intro x u hu; unfold Ev.enc at hu; simp at hu; rcases hu with rfl | rfl | rfl | rfl <;> rfl
def okV (e : Ev) : Prop := 0 ≤ e.val ∧ e.val ≤ 1000000

set_option maxRecDepth 100000 in
theorem names7_any (A : Option Addr) (c : Nat) (l : List Tx) (by_ : Int) (w : World) (h : TxS w (Old w) (.slice A l.length c) l) (hn : l.length ≤ maxLen) :
    Calls Try.prog 5 #[.slice A l.length c, .int .i64 by_] w fun e w' => e = .returned (.bool true) ∧ Below w.heap.size w w' := by
  obtain ⟨ie, hie, hie1, hie2, hie3⟩ := info_parts infoE7
  obtain ⟨ig, hig, hig1, hig2, hig3⟩ := info_parts infoG7
  go_enter Try.func5, Try.ntmps5
  go_wp2_with fail
  refine (awake7_any _).mono ?_
  rintro e w1 ⟨rfl, hb1⟩
  have h1 := TxS.below h hb1
  dsimp only
  go_wp2_with fail
  refine (few7_any l A c w1 h1 hn).mono ?_
  rintro e w2 ⟨rfl, rfl⟩
  cases hf : fewB l with
  | false =>
    go_wp2
    go_ret
    exact ⟨rfl, hb1⟩
  | true =>
    have hsm := few_small hf
    have hn1 : l.length ≤ 1000 := hsm.1
    clear hf hn h
    by_cases hb0 : by_ < 0
    · have hd0 : decide (by_ < 0) = true := by simpa using hb0
      go_wp2
      go_ret
      exact ⟨by simp, hb1⟩
    · by_cases hb9 : 1000000 < by_
      · have hd0 : decide (by_ < 0) = false := by simpa using hb0
        have hd9 : decide (1000000 < by_) = true := by simpa using hb9
        go_wp2
        go_ret
        exact ⟨by simp, hb1⟩
      · have hd0 : decide (by_ < 0) = false := by simpa using hb0
        have hd9 : decide (1000000 < by_) = false := by simpa using hb9
        have hy0 : 0 ≤ by_ := by omega
        have hy1 : by_ ≤ 1000000 := by omega
        clear hb0 hb9
        have hsm2 := hide hsm.2
        go_wp2_with fail
        clear hd0 hd9
        generalize hB : w1.heap.size = B at *
        replace hB := hide hB
        go_loopw [7, 8] (fun s7 s8 wr => ∃ (i : Nat) (v : Value), i ≤ l.length ∧ s8 = .int .i64 i ∧ v = s7 ∧ OwnR 4 TxR wr (fun b => B ≤ b ∧ b < wr.heap.size ∧ v.ownBlock ≠ some b) B 37 v ((l.take i).map (renT by_)) ∧
          Hid (∀ j (hj : j < l.length), j < i → ∀ e ∈ l[j].ops, okV e) ∧ Below B w1 wr) (fun _ s8 _ => l.length - (intOf s8).toNat)
        case atStart => exact ⟨0, _, Nat.zero_le _, by go_num, rfl, OwnR.nil _ _ _ _ _ _, fun j _ h => absurd h (by omega), Below.refl _ _⟩
        case round =>
          obtain ⟨i, v, hi, rfl, rfl, hown, hall, hb⟩ := hrel
          have hi1 : (0 : Int) ≤ (i : Int) := Int.natCast_nonneg _
          have hBs : B ≤ wr.heap.size := by have := hb.size; have := hB.out; omega
          by_cases hlt : i < l.length
          · have hi2 : (i : Int) < (l.length : Int) := by omega
            obtain ⟨b, off, A', c', rfl, hbK0, d0, d1, d2, d3, hev⟩ := TxS.at_ (TxS.keep h1 (Agree.below hb fun b h => by unfold Old at h; have := hB.out; omega) (fun b h => h)) hlt
            have hbK : b < wr.heap.size := by unfold Old at hbK0; have := hB.out; omega
            have htk : (l.take (i + 1)).map (renT by_) = (l.take i).map (renT by_) ++ [renT by_ l[i]] := by rw [List.take_succ_eq_append_getElem hlt, List.map_append]; rfl
            have htl : ((l.take i).map (renT by_)).length = i := by rw [List.length_map, List.length_take]; omega
            have hst : (∀ e ∈ l[i].ops, okV e) → ∀ j (hj : j < l.length), j < i + 1 → ∀ e ∈ l[j].ops, okV e := fun g j hj hji => by
              by_cases hjj : j = i
              · subst hjj; exact g
              · exact hall.out j hj (by omega)
            have hxl := hsm2.out _ (List.getElem_mem hlt)
            generalize l[i] = t at *
            obtain ⟨ts, td, tf, xo⟩ := t
            dsimp only at *
            generalize (l.take i).map (renT by_) = L at *
            replace htk := hide htk
            replace htl := hide htl
            replace hst := hide hst
            have hb6x : Below wr.heap.size wr (wr.alloc (.cells #[.int .i64 ts, .bool td, .int .i64 tf, .slice none 0 0] 37)) := (Below.refl _ _).alloc (Nat.le_refl _) _
            have kX : Blk (wr.alloc (.cells #[.int .i64 ts, .bool td, .int .i64 tf, .slice none 0 0] 37)) wr.heap.size 37 #[.int .i64 ts, .bool td, .int .i64 tf, .slice none 0 0] := Blk.new _ _ _
            have hs6 : wr.heap.size + 1 ≤ (wr.alloc (.cells #[.int .i64 ts, .bool td, .int .i64 tf, .slice none 0 0] 37)).heap.size := by simp
            have hb6 := hide (hb.trans (hb6x.mono hBs))
            have hlt6 := hide (fun g (hg : v.ownBlock = some g) => hown.lt g hg)
            have hown6 := hide (show OwnR 4 TxR (wr.alloc (.cells #[.int .i64 ts, .bool td, .int .i64 tf, .slice none 0 0] 37)) (fun b => B ≤ b ∧ b < wr.heap.size ∧ v.ownBlock ≠ some b) B 37 v L from OwnR.keep TxR.stab hown (Agree.below hb6x fun b h => h.2.1) (fun b h => h) (fun g hg => hb6x.block g (hlt6.out g hg).2))
            have hev6 := hide (EvS.keep hev (K' := fun b => b < wr.heap.size) (Agree.below hb6x fun b h => by unfold Old at h; have := hB.out; omega) (fun b h => by unfold Old at h; have := hB.out; omega))
            have u3 := (hb6x.cell (p := ⟨b, off + i * 4 + 3, none⟩) hbK).trans d3
            clear hown hb hb6x hev
            go_wp2_with fail
            generalize (wr.alloc (.cells #[.int .i64 ts, .bool td, .int .i64 tf, .slice none 0 0] 37)) = W6 at *
            generalize wr.heap.size = N at *
            clear d0 d1 d2 d3
            go_loopw [10, 11] (fun s10 _ wq => ∃ (m : Nat) (u : Value), m ≤ xo.length ∧ s10 = .int .i64 m ∧ Blk wq N 37 #[.int .i64 ts, .bool td, .int .i64 tf, u] ∧
              wq.ownsRow (N + 1) 45 4 u ((xo.take m).map (renE by_)).length (((xo.take m).map (renE by_)).map Ev.enc).flatten ∧ Hid (∀ e ∈ xo.take m, okV e) ∧ Below N W6 wq ∧ N + 1 ≤ wq.heap.size) (fun s10 _ _ => xo.length - (intOf s10).toNat)
            case atStart => exact ⟨0, .slice none 0 0, Nat.zero_le _, by go_num, kX, World.ownsRow_nil _ _ _ _, fun e he => by simp at he, Below.refl _ _, hs6⟩
            case round =>
              clear kX hs6
              obtain ⟨m, u, hm, rfl, jX, hown, hok, hq, hsq⟩ := hrel
              have hm1 : (0 : Int) ≤ (m : Int) := Int.natCast_nonneg _
              have x0 := (hq.cell (p := ⟨b, off + i * 4 + 3, none⟩) hbK).trans u3
              by_cases hml : m < xo.length
              · have hm2 : (m : Int) < (xo.length : Int) := by omega
                obtain ⟨be, oe, rfl, hbe, f0, f1, f2, f3⟩ := EvS.at_ (EvS.keep hev6.out (Agree.below hq fun b h => h) (fun b h => h)) hml
                have htk2 : (xo.take (m + 1)).map (renE by_) = (xo.take m).map (renE by_) ++ [renE by_ xo[m]] := by rw [List.take_succ_eq_append_getElem hml, List.map_append]; rfl
                have htl2 : ((xo.take m).map (renE by_)).length = m := by rw [List.length_map, List.length_take]; omega
                have hok1 : okV xo[m] → ∀ e ∈ xo.take (m + 1), okV e := fun g e he => by
                  rw [List.take_succ_eq_append_getElem hml, List.mem_append] at he
                  rcases he with he | he
                  · exact hok.out e he
                  · simp at he; subst he; exact g
                generalize xo[m] = z at *
                obtain ⟨zk, zs, zy, zv⟩ := z
                dsimp only at f0 f1 f2 f3
                generalize (xo.take m).map (renE by_) = M at *
                replace htl2 := hide htl2
                replace hok1 := hide hok1
                by_cases hv0 : zv < 0
                · have hvd : decide (zv < 0) = true := by simpa using hv0
                  have hbE := hb1.trans ((hb6.out.trans ((hq.alloc (by omega) (.cells #[.int .i64 zk, .int .i64 zs, .int .i64 zy, .int .i64 zv] 45)).mono hBs)).mono (by have := hB.out; have := hb1.size; omega))
                  clear htk2 hown jX hq hok
                  go_wp2
                  go_ret
                  exact ⟨by simp, hbE⟩
                · by_cases hv9 : 1000000 < zv
                  · have hvd : decide (zv < 0) = false := by simpa using hv0
                    have hvd9 : decide (1000000 < zv) = true := by simpa using hv9
                    have hbE := hb1.trans ((hb6.out.trans ((hq.alloc (by omega) (.cells #[.int .i64 zk, .int .i64 zs, .int .i64 zy, .int .i64 zv] 45)).mono hBs)).mono (by have := hB.out; have := hb1.size; omega))
                    clear htk2 hown jX hq hok
                    go_wp2
                    go_ret
                    exact ⟨by simp, hbE⟩
                  · have hvd : decide (zv < 0) = false := by simpa using hv0
                    have hvd9 : decide (1000000 < zv) = false := by simpa using hv9
                    have hz0 : 0 ≤ zv := by omega
                    have hz9 : zv ≤ 1000000 := by omega
                    have hok2 := hide (hok1.out ⟨hz0, hz9⟩)
                    clear hok hok1 hv0 hv9
                    by_cases hvp : 0 < zv
                    · have hre : renE by_ ⟨zk, zs, zy, zv⟩ = ⟨zk, zs, zy, zv + by_⟩ := by simp only [renE, ren, if_pos hvp]
                      rw [hre] at htk2
                      replace htk2 := hide htk2
                      have hz2 : zv + by_ ≤ 2000000 := by omega
                      have hz3 : 0 ≤ zv + by_ := by omega
                      clear hre
                      have hoff := hide (show ∀ g, u.ownBlock = some g → N + 1 ≤ g from fun g hg => (hown.lt g hg).1)
                      have mX1 : Blk (wr.alloc (.cells #[.int .i64 zk, .int .i64 zs, .int .i64 zy, .int .i64 (zv + by_)] 45)) N 37 #[.int .i64 ts, .bool td, .int .i64 tf, u] := jX.alloc _
                      have mX : Blk ((wr.alloc (.cells #[.int .i64 zk, .int .i64 zs, .int .i64 zy, .int .i64 (zv + by_)] 45)).alloc (.cells #[.int .i64 zk, .int .i64 zs, .int .i64 zy, .int .i64 (zv + by_)] 45)) N 37 #[.int .i64 ts, .bool td, .int .i64 tf, u] := mX1.alloc _
                      have hownX : ((wr.alloc (.cells #[.int .i64 zk, .int .i64 zs, .int .i64 zy, .int .i64 (zv + by_)] 45)).alloc (.cells #[.int .i64 zk, .int .i64 zs, .int .i64 zy, .int .i64 (zv + by_)] 45)).ownsRow (N + 1) 45 4 u M.length (M.map Ev.enc).flatten := (hown.alloc _).alloc _
                      have kN := hide (show SlR 4 (Flat Ev.enc) ((wr.alloc (.cells #[.int .i64 zk, .int .i64 zs, .int .i64 zy, .int .i64 (zv + by_)] 45)).alloc (.cells #[.int .i64 zk, .int .i64 zs, .int .i64 zy, .int .i64 (zv + by_)] 45)) (fun _ => True) (.slice (some ⟨wr.heap.size + 1, 0, none⟩) 1 1) [(⟨zk, zs, zy, (zv + by_)⟩ : Ev)] by
                        have := SlR.one (R := Flat Ev.enc) (size := 4) (K := fun _ => True) (x := (⟨zk, zs, zy, (zv + by_)⟩ : Ev)) (Blk.new (wr.alloc (.cells #[.int .i64 zk, .int .i64 zs, .int .i64 zy, .int .i64 (zv + by_)] 45)) 45 #[.int .i64 zk, .int .i64 zs, .int .i64 zy, .int .i64 (zv + by_)]) rfl rfl trivial
                        rwa [show (wr.alloc (.cells #[.int .i64 zk, .int .i64 zs, .int .i64 zy, .int .i64 (zv + by_)] 45)).heap.size = wr.heap.size + 1 by simp] at this)
                      have x3 := mX.cell 3
                      have x3' := mX1.cell 3
                      simp only [List.getElem?_toArray, List.getElem?_cons_zero, List.getElem?_cons_succ] at x3 x3'
                      have hbX : Below N W6 ((wr.alloc (.cells #[.int .i64 zk, .int .i64 zs, .int .i64 zy, .int .i64 (zv + by_)] 45)).alloc (.cells #[.int .i64 zk, .int .i64 zs, .int .i64 zy, .int .i64 (zv + by_)] 45)) := (hq.alloc (by omega) _).alloc (by simp; omega) _
                      clear hown jX mX1 hq
                      go_wp2_with (at_builtin; refine wpList_append_flat (enc := Ev.enc) rfl (.tmp 79) (.tmp 81) 35 rfl (N + 1) 45 ie _ 4 32 Try.underlying35 hie hie1 hie2 hie3 rfl (by decide) u (fun _ => True) M rfl hownX (fun _ => rfl) _ [(⟨zk, zs, zy, (zv + by_)⟩ : Ev)] rfl kN.out encE1 (by have := htl2.out; simp [maxLen]; omega) (by have := htl2.out; simp; omega) (by simp; omega) ?_; intro v6 W7 hown7 hgrow7 hat7; obtain ⟨A7, c7, rfl⟩ := own_slice hown7; have nX := mX.grown hgrow7 (fun e => by have := hoff.out _ e.symm; omega); have tc := nX.cell 3; have tf := nX.frozen 3; simp only [List.getElem?_toArray, List.getElem?_cons_zero, List.getElem?_cons_succ] at tc)
                      go_roundw
                      case rel =>
                        refine ⟨m + 1, _, by omega, by go_num, nX.set_ 3 _, ?_, hok2, ?_, ?_⟩
                        · rw [htk2.out]
                          have hq := own_setCell hown7 (p := ⟨N, 3, none⟩) (fun e => by have : N + 1 ≤ N := (hown7.lt _ e).1; omega) (.slice A7 (M.length + 1) c7)
                          rw [List.length_append] at hq ⊢
                          exact hq
                        · exact (hbX.grown hgrow7 (by simp; omega) (fun g hg => by have := hoff.out g hg; omega)).setCell (p := ⟨N, 3, none⟩) (by simp) _
                        · have h1 := hgrow7.size
                          rw [World.size_setCell]
                          simp at h1
                          omega
                      case measure => simp [intOf]; omega
                    · have hre : renE by_ ⟨zk, zs, zy, zv⟩ = ⟨zk, zs, zy, zv⟩ := by simp only [renE, ren, if_neg hvp]
                      rw [hre] at htk2
                      replace htk2 := hide htk2
                      clear hre
                      have hoff := hide (show ∀ g, u.ownBlock = some g → N + 1 ≤ g from fun g hg => (hown.lt g hg).1)
                      have mX1 : Blk (wr.alloc (.cells #[.int .i64 zk, .int .i64 zs, .int .i64 zy, .int .i64 zv] 45)) N 37 #[.int .i64 ts, .bool td, .int .i64 tf, u] := jX.alloc _
                      have mX : Blk ((wr.alloc (.cells #[.int .i64 zk, .int .i64 zs, .int .i64 zy, .int .i64 zv] 45)).alloc (.cells #[.int .i64 zk, .int .i64 zs, .int .i64 zy, .int .i64 zv] 45)) N 37 #[.int .i64 ts, .bool td, .int .i64 tf, u] := mX1.alloc _
                      have hownX : ((wr.alloc (.cells #[.int .i64 zk, .int .i64 zs, .int .i64 zy, .int .i64 zv] 45)).alloc (.cells #[.int .i64 zk, .int .i64 zs, .int .i64 zy, .int .i64 zv] 45)).ownsRow (N + 1) 45 4 u M.length (M.map Ev.enc).flatten := (hown.alloc _).alloc _
                      have kN := hide (show SlR 4 (Flat Ev.enc) ((wr.alloc (.cells #[.int .i64 zk, .int .i64 zs, .int .i64 zy, .int .i64 zv] 45)).alloc (.cells #[.int .i64 zk, .int .i64 zs, .int .i64 zy, .int .i64 zv] 45)) (fun _ => True) (.slice (some ⟨wr.heap.size + 1, 0, none⟩) 1 1) [(⟨zk, zs, zy, zv⟩ : Ev)] by
                        have := SlR.one (R := Flat Ev.enc) (size := 4) (K := fun _ => True) (x := (⟨zk, zs, zy, zv⟩ : Ev)) (Blk.new (wr.alloc (.cells #[.int .i64 zk, .int .i64 zs, .int .i64 zy, .int .i64 zv] 45)) 45 #[.int .i64 zk, .int .i64 zs, .int .i64 zy, .int .i64 zv]) rfl rfl trivial
                        rwa [show (wr.alloc (.cells #[.int .i64 zk, .int .i64 zs, .int .i64 zy, .int .i64 zv] 45)).heap.size = wr.heap.size + 1 by simp] at this)
                      have x3 := mX.cell 3
                      have x3' := mX1.cell 3
                      simp only [List.getElem?_toArray, List.getElem?_cons_zero, List.getElem?_cons_succ] at x3 x3'
                      have hbX : Below N W6 ((wr.alloc (.cells #[.int .i64 zk, .int .i64 zs, .int .i64 zy, .int .i64 zv] 45)).alloc (.cells #[.int .i64 zk, .int .i64 zs, .int .i64 zy, .int .i64 zv] 45)) := (hq.alloc (by omega) _).alloc (by simp; omega) _
                      clear hown jX mX1 hq
                      go_wp2_with (at_builtin; refine wpList_append_flat (enc := Ev.enc) rfl (.tmp 79) (.tmp 81) 35 rfl (N + 1) 45 ie _ 4 32 Try.underlying35 hie hie1 hie2 hie3 rfl (by decide) u (fun _ => True) M rfl hownX (fun _ => rfl) _ [(⟨zk, zs, zy, zv⟩ : Ev)] rfl kN.out encE1 (by have := htl2.out; simp [maxLen]; omega) (by have := htl2.out; simp; omega) (by simp; omega) ?_; intro v6 W7 hown7 hgrow7 hat7; obtain ⟨A7, c7, rfl⟩ := own_slice hown7; have nX := mX.grown hgrow7 (fun e => by have := hoff.out _ e.symm; omega); have tc := nX.cell 3; have tf := nX.frozen 3; simp only [List.getElem?_toArray, List.getElem?_cons_zero, List.getElem?_cons_succ] at tc)
                      go_roundw
                      case rel =>
                        refine ⟨m + 1, _, by omega, by go_num, nX.set_ 3 _, ?_, hok2, ?_, ?_⟩
                        · rw [htk2.out]
                          have hq := own_setCell hown7 (p := ⟨N, 3, none⟩) (fun e => by have : N + 1 ≤ N := (hown7.lt _ e).1; omega) (.slice A7 (M.length + 1) c7)
                          rw [List.length_append] at hq ⊢
                          exact hq
                        · exact (hbX.grown hgrow7 (by simp; omega) (fun g hg => by have := hoff.out g hg; omega)).setCell (p := ⟨N, 3, none⟩) (by simp) _
                        · have h1 := hgrow7.size
                          rw [World.size_setCell]
                          simp at h1
                          omega
                      case measure => simp [intOf]; omega
              · have : m = xo.length := by omega
                subst this
                rw [List.take_length] at hown hok
                obtain ⟨AW, cW, rfl⟩ := own_slice hown
                have hE : EvS wr (fun b => N + 1 ≤ b ∧ b < wr.heap.size) (.slice AW (xo.map (renE by_)).length cW) (xo.map (renE by_)) := SlR.of_flat hown rfl (fun _ => rfl) (fun g h1 h2 => ⟨h1, h2⟩)
                have htk3 := hide (show (l.take (i + 1)).map (renT by_) = L ++ [(⟨ts, td, tf, xo.map (renE by_)⟩ : Tx)] from htk.out)
                have hst2 := hide (hst.out hok.out)
                have hXO : (xo.map (renE by_)).length = xo.length := List.length_map _
                clear hown htk hst hok
                generalize xo.map (renE by_) = XO at *
                replace hXO := hide hXO
                have y0 := jX.cell 0
                have y1 := jX.cell 1
                have y2 := jX.cell 2
                have y3 := jX.cell 3
                simp only [List.getElem?_toArray, List.getElem?_cons_zero, List.getElem?_cons_succ] at y0 y1 y2 y3
                have hwz : Below wr.heap.size wr (wr.alloc (.cells #[.int .i64 ts, .bool td, .int .i64 tf, .slice AW XO.length cW] 37)) := (Below.refl _ _).alloc (Nat.le_refl _) _
                have hqz : Below N W6 (wr.alloc (.cells #[.int .i64 ts, .bool td, .int .i64 tf, .slice AW XO.length cW] 37)) := hq.trans (hwz.mono (by omega))
                have hbz : Below B w1 (wr.alloc (.cells #[.int .i64 ts, .bool td, .int .i64 tf, .slice AW XO.length cW] 37)) := hb6.out.trans (hqz.mono hBs)
                have hown8 := hide (show OwnR 4 TxR (wr.alloc (.cells #[.int .i64 ts, .bool td, .int .i64 tf, .slice AW XO.length cW] 37)) (fun b => B ≤ b ∧ b < (wr.alloc (.cells #[.int .i64 ts, .bool td, .int .i64 tf, .slice AW XO.length cW] 37)).heap.size ∧ v.ownBlock ≠ some b) B 37 v L from OwnR.keep TxR.stab hown6.out (Agree.below hqz fun b h => h.2.1) (fun b h => ⟨h.1, by simp; have := h.2.1; omega, h.2.2⟩) (fun g hg => hqz.block g (hlt6.out g hg).2))
                have kN := hide (show SlR 4 TxR (wr.alloc (.cells #[.int .i64 ts, .bool td, .int .i64 tf, .slice AW XO.length cW] 37)) (fun b => B ≤ b ∧ b < (wr.alloc (.cells #[.int .i64 ts, .bool td, .int .i64 tf, .slice AW XO.length cW] 37)).heap.size ∧ v.ownBlock ≠ some b) (.slice (some ⟨wr.heap.size, 0, none⟩) 1 1) [(⟨ts, td, tf, XO⟩ : Tx)] from
                  SlR.one (R := TxR) (size := 4) (x := (⟨ts, td, tf, XO⟩ : Tx)) (Blk.new wr 37 #[.int .i64 ts, .bool td, .int .i64 tf, .slice AW XO.length cW]) rfl
                    ⟨_, rfl, EvS.keep hE (Agree.below hwz fun b h => h.2) (fun b h => ⟨by omega, by simp; omega, fun e => by have := (hlt6.out _ e).2; omega⟩)⟩
                    ⟨by omega, by simp, fun e => by have := (hlt6.out _ e).2; omega⟩)
                have hsz8 : B ≤ (wr.alloc (.cells #[.int .i64 ts, .bool td, .int .i64 tf, .slice AW XO.length cW] 37)).heap.size := by simp; omega
                clear hwz hqz hq jX hE hown6 hb6
                go_wp2_with (at_builtin; refine wpList_append_list (R := TxR) rfl (.tmp 84) (.tmp 86) 22 rfl B 37 ig _ 4 48 Try.underlying22 hig hig1 hig2 hig3 rfl (by decide) v (fun b => B ≤ b ∧ b < (wr.alloc (.cells #[.int .i64 ts, .bool td, .int .i64 tf, .slice AW XO.length cW] 37)).heap.size ∧ v.ownBlock ≠ some b) L rfl hown8.out _ [(⟨ts, td, tf, XO⟩ : Tx)] rfl kN.out (fun cs x hr => TxR.one hr) (by have := htl.out; simp [maxLen]; omega) (by have := htl.out; simp; omega) hsz8 (fun w' hg cs x hr => TxR.stab _ _ _ _ _ _ hr (Agree.grown hg (fun b hb => ⟨hb.2.1, fun e => hb.2.2 e.symm⟩)) (fun _ h => h)) ?_; intro v6 W9 hown9 hgrow9 hat9)
                go_roundw
                case rel =>
                  have hg6 := hgrow9.size
                  refine ⟨i + 1, v6, by omega, by go_num, rfl, ?_, hst2, hbz.grown hgrow9 hsz8 (fun g hg => (hlt6.out g hg).1)⟩
                  rw [htk3.out]
                  refine OwnR.keep TxR.stab hown9 (Agree.refl _ _) (fun b h => ⟨h.1, by have := h.2.1; omega, fun e => ?_⟩) (fun g hg => rfl)
                  rcases hat9 with h6 | h6
                  · exact h.2.2 (h6.symm.trans e)
                  · have := h6.symm.trans e
                    injection this with this
                    have := h.2.1
                    omega
                case measure => simp [intOf]; omega
          · have : i = l.length := by omega
            subst this
            rw [List.take_length] at hown
            obtain ⟨A', c', rfl⟩ := hown.form
            have hlt2 := hown.lt
            have hO : TxS wr (Old wr) (.slice A' (l.map (renT by_)).length c') (l.map (renT by_)) := OwnR.sl (OwnR.keep TxR.stab hown (Agree.refl _ _) (fun b h => h.2.1) (fun g hg => rfl)) (fun g hg => (hlt2 g hg).2)
            have hvals : ∀ t ∈ l, ∀ e ∈ t.ops, okV e := fun t ht => by
              obtain ⟨j, hj, rfl⟩ := List.getElem_of_mem ht
              exact hall.out j hj hj
            have hren := hist_ren hy0 (fun t ht e he => (hvals t ht e he).1) (fun t ht e he => (hvals t ht e he).2) hy1
            have hsmO : SmallT (l.map (renT by_)) := ⟨by rw [List.length_map]; exact hn1, fun t ht => by
              obtain ⟨u, hu, rfl⟩ := List.mem_map.1 ht
              show (u.ops.map (renE by_)).length ≤ 1000
              rw [List.length_map]
              exact hsm2.out u hu⟩
            have hTw : TxS wr (Old wr) (.slice A l.length c) l := TxS.keep h1 (Agree.below hb fun b h => by unfold Old at h; have := hB.out; omega) (fun b h => by unfold Old at h ⊢; have := hB.out; omega)
            have hbw := hb1.trans (hb.mono (by have := hb1.size; have := hB.out; omega))
            have hcall := hide (fun (W : World) (hW : TxS W (Old W) (.slice A' (l.map (renT by_)).length c') (l.map (renT by_))) => hren ▸ hist7_any (l.map (renT by_)) A' c' W hW hsmO)
            have hsH := hide (histR_smallH l)
            clear hown hlt2 hvals hren hall hsm2 h1 hb hb1
            generalize l.map (renT by_) = LO at *
            go_wp2_with fail
            refine (hist7_any l A c wr hTw hsm).mono ?_
            rintro e w2 ⟨v, rfl, hS, hb2⟩
            generalize histR l = r at *
            obtain ⟨rt, ra, re⟩ := r
            obtain ⟨Av, cv, rfl⟩ := SlR.form hS
            dsimp only at hS ⊢
            have hO2 := TxS.below hO hb2
            have hS1 : TxnS w2 (Old w2) (.slice Av rt.length cv) rt := TxnS.fit hS (fun b h => h.2)
            have hb3 := hbw.trans (hb2.mono hbw.size)
            have hup : Below w2.heap.size w2 (w2.alloc (.cells #[.slice Av rt.length cv] 27)) := (Below.refl _ _).alloc (Nat.le_refl _) _
            have k0 : Blk (w2.alloc (.cells #[.slice Av rt.length cv] 27)) w2.heap.size 27 #[.slice Av rt.length cv] := Blk.new _ _ _
            replace hO2 := TxS.below hO2 hup
            replace hS1 := TxnS.below hS1 hup
            replace hb3 := hb3.trans (hup.mono hb3.size)
            clear hS hb2 hup hbw hO hTw
            go_wp2_with fail
            generalize w2.alloc (.cells #[.slice Av rt.length cv] 27) = V at *
            refine (hcall.out V hO2).mono ?_
            rintro e w4 ⟨v4, rfl, hS4, hb6⟩
            obtain ⟨A4, c4, rfl⟩ := SlR.form hS4
            dsimp only at hS4 ⊢
            have k2 := k0.below hb6 k0.lt
            have hS3 := TxnS.below hS1 hb6
            have hb7 := hb3.trans (hb6.mono hb3.size)
            have hS5 : TxnS w4 (Old w4) (.slice A4 rt.length c4) rt := TxnS.fit hS4 (fun b h => h.2)
            have hup : Below w4.heap.size w4 (w4.alloc (.cells #[.slice A4 rt.length c4] 27)) := (Below.refl _ _).alloc (Nat.le_refl _) _
            have k3 := k2.below hup k2.lt
            replace hS3 := TxnS.below hS3 hup
            replace hS5 := TxnS.below hS5 hup
            have hb8 := hb7.trans (hup.mono hb7.size)
            have x1 := k3.cell 0
            simp only [List.getElem?_toArray, List.getElem?_cons_zero] at x1
            clear k0 k2 hS1 hb6 hb3 hS4 hup hb7 hcall hO2
            by_cases h1e : re = 1
            · have h1d : (re == 1) = true := by simpa using h1e
              clear h1e
              go_wp2
              go_ret
              exact ⟨by simp, hb8⟩
            · have h1d : (re == 1) = false := by simpa using h1e
              clear h1e
              go_wp2_with fail
              refine (same07_any Av A4 cv c4 rt rt _ hS3 hS5 hsH.out hsH.out).mono ?_
              rintro e w5 ⟨rfl, hb9⟩
              have hb10 := hb8.trans (hb9.mono hb8.size)
              simp only [decide_true]
              clear hb9 hb8 hS3 hS5 k3 x1 hsH
              go_wp2
              go_ret
              exact ⟨by simp, hb10⟩
end Go.Proofs.Ytapkbinlhmddiaa
