/-
  Walks: the reference of layer 7: one.
-/
import Derived.Laws.Rows
import Derived.Test.YtphcebgpllecjaaGreatDoorC28
set_option linter.unusedVariables false
set_option linter.unusedSimpArgs false
namespace Go.Proofs.YtphcebgpllecjaaGreatDoor
open Go.RowKit Go.Inq
set_option maxHeartbeats 4000000
attribute [local go_sem ↓] Go.wp_at_zero Go.wp_at_succ

theorem infoI7 : (Tryz.prog.info? 3).map (fun i => (i.zero, i.size, i.bytes)) = some (some (.int .i64 0), 1, 8) := by kernel_rfl
theorem infoT7 : (Tryz.prog.info? 40).map (fun i => (i.zero, i.size, i.bytes)) = some (some (.agg #[.int .i64 0, .int .i64 0]), 2, 16) := by kernel_rfl
theorem encI1 : ∀ (x : Int), ∀ u ∈ encI x, u.oneCell' = true := by
  intro x u hu; unfold encI at hu; simp at hu; subst hu; rfl
theorem encIt1 : ∀ (x : It), ∀ u ∈ x.enc, u.oneCell' = true := by
  intro x u hu; unfold It.enc at hu; simp at hu; rcases hu with rfl | rfl <;> rfl
/-- What one hands back. -/
def OneOut (r : Txn × Int) (w : World) (e : Ending) (w' : World) : Prop :=
  ∃ vw vr, e = .returned (.tuple #[.agg #[.int .i64 r.1.sess, vw, vr], .int .i64 r.2]) ∧ IntS w' (fun b => w.heap.size ≤ b ∧ b < w'.heap.size) vw r.1.writes ∧ ItS w' (fun b => w.heap.size ≤ b ∧ b < w'.heap.size) vr r.1.reads ∧ Below w.heap.size w w'
theorem results_one {fn : Func} {t u : Tmp} (h : fn.results = #[.cell t 38, .tmp u]) {tmps : Array Value} {w : World} {g : Nat} {cs : Array Value} (hp : tmps.getD t undef = .pointer (some ⟨g, 0, none⟩))
    (hb : Blk w g 38 cs) (hs : cs.size = 3) : (results fn tmps).run Tryz.prog w = .ok (.tuple #[.agg cs, tmps.getD u undef]) w := by
  have hl := run_loadVar_row (P := Tryz.prog) w g 38 38 cs (0, 0) _ hb Tryz.underlying38 rfl (by rw [hs]; kernel_rfl)
  have hp' : tmps[t]?.getD undef = .pointer (some ⟨g, 0, none⟩) := by simpa using hp
  unfold results
  simp [h, hp', asAddr, hl]
theorem blk_fill3 {w : World} {g : Nat} {t : TypeId} {a b c : Value} (h : Blk w g t #[a, b, c]) (x y z : Value) :
    Blk (((w.setCell ⟨g, 0, none⟩ x).setCell ⟨g, 1, none⟩ y).setCell ⟨g, 2, none⟩ z) g t #[x, y, z] := ((h.set_ 0 x).set_ 1 y).set_ 2 z
theorem below_fill3 {B g : Nat} {a w : World} (h : Below B a w) (hg : B ≤ g) (x y z : Value) :
    Below B a (((w.setCell ⟨g, 0, none⟩ x).setCell ⟨g, 1, none⟩ y).setCell ⟨g, 2, none⟩ z) := ((h.setCell hg _).setCell hg _).setCell hg _
theorem oneR_bad {l : List Tx} {t : Tx} {i : Nat} (hi : i < (lookR t.ops).reads.length) (hj : ∀ j, j < i → readE l (lookR t.ops).reads j = 0) (hb : readE l (lookR t.ops).reads i ≠ 0) :
    oneR l t = (⟨0, [], []⟩, readE l (lookR t.ops).reads i) := by
  unfold oneR
  dsimp only
  rw [firstN_some hi hj hb]
theorem oneR_good {l : List Tx} {t : Tx} (hj : ∀ j, j < (lookR t.ops).reads.length → readE l (lookR t.ops).reads j = 0) :
    oneR l t = (⟨t.sess, (lookR t.ops).writes.map (·.a), (lookR t.ops).reads.map fun r => ⟨r.a, (fromR l r).1⟩⟩, 0) := by
  unfold oneR
  dsimp only
  rw [firstN_none hj]

set_option maxRecDepth 100000 in
theorem one7_any (l : List Tx) (A : Option Addr) (c : Nat) (at_ : Nat) (w : World) (h : TxS w (Old w) (.slice A l.length c) l) (hat : at_ < l.length) (hs : SmallT l) :
    Calls Tryz.prog 43 #[.slice A l.length c, .int .i64 at_] w (OneOut (oneR l l[at_]) w) := by
  obtain ⟨ii, hii, hii1, hii2, hii3⟩ := info_parts infoI7
  obtain ⟨it, hit, hit1, hit2, hit3⟩ := info_parts infoT7
  have hn := hs.1
  have hfr := hide (fun (x : It) (W : World) (hW : Below w.heap.size w W) => from7_any l A c x W (TxS.keep h (Agree.below hW fun _ h => h) (fun b hb => Nat.lt_of_lt_of_le hb hW.size)) hs)
  have hops := hs.2 _ (List.getElem_mem hat)
  have hbd := hide (fun i => oneR_bad (l := l) (t := l[at_]) (i := i))
  have hgd := hide (oneR_good (l := l) (t := l[at_]))
  have hll := look_len l[at_].ops
  have ha1 : (0 : Int) ≤ (at_ : Int) := Int.natCast_nonneg _
  have ha2 : (at_ : Int) < (l.length : Int) := by omega
  obtain ⟨b, off, A2, c2, rfl, hbK, v0, v1, v2, v3, hev2⟩ := TxS.at_ h hat
  have hv0 := hide (show ∀ W, Below w.heap.size w W → W.cell? ⟨b, off + at_ * 4, none⟩ = some (.int .i64 l[at_].sess) from fun W hW => (hW.cell (p := ⟨b, _, none⟩) hbK).trans v0)
  have hv3 := hide (show ∀ W, Below w.heap.size w W → W.cell? ⟨b, off + at_ * 4 + 3, none⟩ = some (.slice A2 l[at_].ops.length c2) from fun W hW => (hW.cell (p := ⟨b, _, none⟩) hbK).trans v3)
  have hlk := hide (fun (W : World) (hW : Below w.heap.size w W) => rlook_any A2 c2 l[at_].ops W (EvS.keep hev2 (Agree.below hW fun _ h => h) (fun b hb => Nat.lt_of_lt_of_le hb hW.size)) (by omega))
  clear v0 v1 v2 v3 hev2 hs
  generalize oneR l l[at_] = ro at *
  generalize l[at_] = y at *
  obtain ⟨xs, xd, xf, xo⟩ := y
  dsimp only at *
  generalize lookR xo = lk at *
  obtain ⟨lr, lw, lat, ler⟩ := lk
  dsimp only at *
  have k0 : Blk (w.alloc (.cells #[.int .i64 0, .slice none 0 0, .slice none 0 0] 38)) w.heap.size 38 #[.int .i64 0, .slice none 0 0, .slice none 0 0] := Blk.new _ _ _
  have hA : Below w.heap.size w (w.alloc (.cells #[.int .i64 0, .slice none 0 0, .slice none 0 0] 38)) := (Below.refl _ _).alloc (Nat.le_refl _) _
  have hg0 : w.heap.size < (w.alloc (.cells #[.int .i64 0, .slice none 0 0, .slice none 0 0] 38)).heap.size := by simp
  have u3 := hv3.out _ hA
  go_enter Tryz.func43, Tryz.ntmps43
  go_wp2_with fail
  generalize w.alloc (.cells #[.int .i64 0, .slice none 0 0, .slice none 0 0] 38) = W0 at *
  refine (hlk.out W0 hA).mono ?_
  rintro e w1 ⟨rv, wv, rfl, hrv, hwv, hb1⟩
  obtain ⟨Aw, cw, rfl⟩ := SlR.form hwv
  obtain ⟨Ar, cr, rfl⟩ := SlR.form hrv
  have hw1 := hA.trans (hb1.mono hA.size)
  have k1 := k0.below hb1 k0.lt
  have hg1 : W0.heap.size ≤ w1.heap.size := hb1.size
  clear hlk k0 hb1 u3
  have hF : Below w1.heap.size w1 ((w1.alloc (.cells #[.slice Ar lr.length cr, .slice Aw lw.length cw] 99)).alloc (.cells #[.int .i64 xs, .slice none 0 0, .slice none 0 0] 38)) := ((Below.refl _ _).alloc (Nat.le_refl _) _).alloc (by simp) _
  have kF : Blk ((w1.alloc (.cells #[.slice Ar lr.length cr, .slice Aw lw.length cw] 99)).alloc (.cells #[.int .i64 xs, .slice none 0 0, .slice none 0 0] 38)) w1.heap.size 99 #[.slice Ar lr.length cr, .slice Aw lw.length cw] := (Blk.new _ _ _).alloc _
  have kT : Blk ((w1.alloc (.cells #[.slice Ar lr.length cr, .slice Aw lw.length cw] 99)).alloc (.cells #[.int .i64 xs, .slice none 0 0, .slice none 0 0] 38)) (w1.heap.size + 1) 38 #[.int .i64 xs, .slice none 0 0, .slice none 0 0] := by
    have := Blk.new (w1.alloc (.cells #[.slice Ar lr.length cr, .slice Aw lw.length cw] 99)) 38 #[.int .i64 xs, .slice none 0 0, .slice none 0 0]
    simpa using this
  have hsF : ((w1.alloc (.cells #[.slice Ar lr.length cr, .slice Aw lw.length cw] 99)).alloc (.cells #[.int .i64 xs, .slice none 0 0, .slice none 0 0] 38)).heap.size = w1.heap.size + 2 := by simp
  have u0 := hv0.out _ (hw1.alloc hw1.size (.cells #[.slice Ar lr.length cr, .slice Aw lw.length cw] 99))
  replace hsF := hide hsF
  go_wp2_with fail
  have k2 := k1.below hF k1.lt
  have hw2 := hw1.trans (hF.mono hw1.size)
  replace hwv : ItS _ (fun b => b < w1.heap.size) _ _ := ItS.keep hwv (Agree.below hF fun b h => h.2) (fun b h => h.2)
  replace hrv : ItS _ (fun b => b < w1.heap.size) _ _ := ItS.keep hrv (Agree.below hF fun b h => h.2) (fun b h => h.2)
  generalize (w1.alloc (.cells #[.slice Ar lr.length cr, .slice Aw lw.length cw] 99)).alloc (.cells #[.int .i64 xs, .slice none 0 0, .slice none 0 0] 38) = W2 at *
  clear hF k1 u0 hw1
  have hg2 : w.heap.size < w1.heap.size := by omega
  generalize w1.heap.size = G at *
  have hs2 := hsF.out
  replace hs2 := hide hs2
  clear hsF
  go_loopw [10] (fun s10 wr => ∃ (i : Nat) (v : Value), i ≤ lw.length ∧ s10 = .int .i64 i ∧ Blk wr w.heap.size 38 #[.int .i64 0, .slice none 0 0, .slice none 0 0] ∧ Blk wr G 99 #[.slice Ar lr.length cr, .slice Aw lw.length cw] ∧
    Blk wr (G + 1) 38 #[.int .i64 xs, v, .slice none 0 0] ∧ wr.ownsRow (G + 2) 3 1 v ((lw.take i).map (·.a)).length (((lw.take i).map (·.a)).map encI).flatten ∧
    ItS wr (fun b => b < G) (.slice Aw lw.length cw) lw ∧ ItS wr (fun b => b < G) (.slice Ar lr.length cr) lr ∧ Below w.heap.size w wr ∧ G + 2 ≤ wr.heap.size) (fun s10 _ => lw.length - (intOf s10).toNat)
  case atStart => exact ⟨0, .slice none 0 0, Nat.zero_le _, by go_num, k2, kF, kT, World.ownsRow_nil _ _ _ _, hwv, hrv, hw2, by have := hs2.out; omega⟩
  case round =>
    obtain ⟨i, v, hi, rfl, j0, jF, jT, hown, hlw, hlr, hb, hsz⟩ := hrel
    clear k2 kF kT hwv hrv hw2
    have hi1 : (0 : Int) ≤ (i : Int) := Int.natCast_nonneg _
    have f1 := jF.cell 1
    have t1 := jT.cell 1
    simp only [List.getElem?_toArray, List.getElem?_cons_zero, List.getElem?_cons_succ] at f1 t1
    by_cases hlt : i < lw.length
    · have hi2 : (i : Int) < (lw.length : Int) := by omega
      obtain ⟨bw, ow, rfl, hbw, d0, d1⟩ := ItS.at_ hlw hlt
      have htk : (lw.take (i + 1)).map (·.a) = (lw.take i).map (·.a) ++ [lw[i].a] := by rw [List.take_succ_eq_append_getElem hlt, List.map_append]; rfl
      have htl : ((lw.take i).map (·.a)).length = i := by rw [List.length_map, List.length_take]; omega
      generalize lw[i] = z at *
      generalize (lw.take i).map (·.a) = L at *
      replace htk := hide htk
      replace htl := hide htl
      have hoff := hide (show ∀ g, v.ownBlock = some g → G + 2 ≤ g from fun g hg => (hown.lt g hg).1)
      go_wp2_with fail
      refine wp_region_plan [0, 1, 2, 3, 4, 5, 6, 7] [8, 9, 10, 11] (by kernel_rfl) (by kernel_rfl) (fun _ _ d _ _ h => by cases d <;> exact h) ?_
      simp only [List.filterMap_cons, List.filterMap_nil, List.getElem?_cons_zero, List.getElem?_cons_succ]
      repeat still_step
      refine wpStill_nil ?_
      have hownX : ((wr.alloc (.cells #[.int .i64 z.a] 3)).drew).ownsRow (G + 2) 3 1 v L.length (L.map encI).flatten := hown.alloc _
      have kN := hide (show SlR 1 (Flat encI) ((wr.alloc (.cells #[.int .i64 z.a] 3)).drew) (fun _ => True) (.slice (some ⟨wr.heap.size, 0, none⟩) 1 1) [z.a] from SlR.one (R := Flat encI) (K := fun _ => True) (x := z.a) (w := (wr.alloc (.cells #[.int .i64 z.a] 3)).drew) (Blk.new wr 3 #[.int .i64 z.a]) rfl rfl trivial)
      have mT : Blk ((wr.alloc (.cells #[.int .i64 z.a] 3)).drew) (G + 1) 38 #[.int .i64 xs, v, .slice none 0 0] := jT.alloc _
      have mF : Blk ((wr.alloc (.cells #[.int .i64 z.a] 3)).drew) G 99 #[.slice Ar lr.length cr, .slice (some ⟨bw, ow, none⟩) lw.length cw] := jF.alloc _
      have m0 : Blk ((wr.alloc (.cells #[.int .i64 z.a] 3)).drew) w.heap.size 38 #[.int .i64 0, .slice none 0 0, .slice none 0 0] := j0.alloc _
      have hbX : Below w.heap.size w ((wr.alloc (.cells #[.int .i64 z.a] 3)).drew) := (hb.alloc hb.size _).drew
      have hlwX : ItS ((wr.alloc (.cells #[.int .i64 z.a] 3)).drew) (fun b => b < G) (.slice (some ⟨bw, ow, none⟩) lw.length cw) lw := ItS.keep hlw (Agree.alloc (fun b h => by omega) _) (fun _ h => h)
      have hlrX : ItS ((wr.alloc (.cells #[.int .i64 z.a] 3)).drew) (fun b => b < G) (.slice Ar lr.length cr) lr := ItS.keep hlr (Agree.alloc (fun b h => by omega) _) (fun _ h => h)
      clear hown j0 jF jT hb hlw hlr f1 t1 d0 d1
      refine wpList_plain rfl (fun K hK => ?_)
      go_simp
      refine hK _ _ ?_
      clear hK K
      refine wpList_append_flat (enc := encI) rfl (.tmp 38) (.tmp 45) 35 rfl (G + 2) 3 ii _ 1 8 Tryz.underlying35 hii hii1 hii2 hii3 rfl (by decide) v (fun _ => True) L rfl hownX (fun _ => rfl) _ [z.a] rfl kN.out encI1 (by have := htl.out; simp [maxLen]; omega) (by have := htl.out; simp; omega) (by simp; omega) ?_
      intro v6 W6 hown6 hgrow6 hat6
      obtain ⟨A6, c6, rfl⟩ := own_slice hown6
      have nT := mT.grown hgrow6 (fun e => by have := hoff.out _ e.symm; omega)
      have tc := nT.cell 1
      have tf := nT.frozen 1
      simp only [List.getElem?_toArray, List.getElem?_cons_zero, List.getElem?_cons_succ] at tc
      go_wp2
      go_roundw
      case rel =>
        have n0 := m0.grown hgrow6 (fun e => by have := hoff.out _ e.symm; omega)
        have nF := mF.grown hgrow6 (fun e => by have := hoff.out _ e.symm; omega)
        have hag : Agree (fun b => b < G) ((wr.alloc (.cells #[.int .i64 z.a] 3)).drew) W6 := Agree.grown hgrow6 (fun b h => ⟨by simp; omega, fun e => by have := hoff.out _ e.symm; omega⟩)
        have hag2 : Agree (fun b => b < G) ((wr.alloc (.cells #[.int .i64 z.a] 3)).drew) (W6.setCell ⟨G + 1, 1, none⟩ (.slice A6 (L.length + 1) c6)) := hag.trans (Agree.setCell _ (by simp) _)
        refine ⟨i + 1, _, by omega, by go_num, n0.far (by simp; omega) _, nF.far (by simp) _, nT.set_ 1 _, ?_, ItS.keep hlwX hag2 (fun _ h => h), ItS.keep hlrX hag2 (fun _ h => h), ?_, ?_⟩
        · rw [htk.out]
          have hq := own_setCell hown6 (p := ⟨G + 1, 1, none⟩) (fun e => by have : G + 2 ≤ G + 1 := (hown6.lt _ e).1; omega) (.slice A6 (L.length + 1) c6)
          rw [List.length_append] at hq ⊢
          exact hq
        · exact (hbX.grown hgrow6 hbX.size (fun g hg => by have := hoff.out g hg; omega)).setCell (p := ⟨G + 1, 1, none⟩) (by simp; omega) _
        · have h1 := hgrow6.size
          rw [World.size_setCell]
          simp at h1
          omega
      case measure => simp [intOf]; omega
    · have : i = lw.length := by omega
      subst this
      rw [List.take_length] at hown
      obtain ⟨AW, cW, rfl⟩ := own_slice hown
      have hIW : IntS wr (fun b => G + 2 ≤ b ∧ b < wr.heap.size) (.slice AW (lw.map (·.a)).length cW) (lw.map (·.a)) := SlR.of_flat hown rfl (fun _ => rfl) (fun g h1 h2 => ⟨h1, h2⟩)
      have hwl : (lw.map (·.a)).length = lw.length := List.length_map ..
      clear hown t1
      generalize lw.map (·.a) = WL at *
      replace hwl := hide hwl
      go_wp2_with fail
      have hNN : wr.heap.size ≤ wr.heap.size := Nat.le_refl _
      generalize hN2 : wr.heap.size = N2 at hIW hsz hNN
      replace hN2 := hide hN2
      go_loopw [11, 12, 13] (fun s11 _ _ wq => ∃ (i : Nat) (v : Value), i ≤ lr.length ∧ s11 = .int .i64 i ∧ Blk wq w.heap.size 38 #[.int .i64 0, .slice none 0 0, .slice none 0 0] ∧ Blk wq G 99 #[.slice Ar lr.length cr, .slice Aw lw.length cw] ∧
        Blk wq (G + 1) 38 #[.int .i64 xs, .slice AW WL.length cW, v] ∧ wq.ownsRow N2 40 2 v ((lr.take i).map fun r => (⟨r.a, (fromR l r).1⟩ : It)).length (((lr.take i).map fun r => (⟨r.a, (fromR l r).1⟩ : It)).map It.enc).flatten ∧
        IntS wq (fun b => G + 2 ≤ b ∧ b < N2) (.slice AW WL.length cW) WL ∧ ItS wq (fun b => b < G) (.slice Ar lr.length cr) lr ∧ Hid (∀ j, j < i → readE l lr j = 0) ∧ Below w.heap.size w wq ∧ N2 ≤ wq.heap.size) (fun s11 _ _ _ => lr.length - (intOf s11).toNat)
      case atStart => exact ⟨0, .slice none 0 0, Nat.zero_le _, by go_num, j0, jF, jT, World.ownsRow_nil _ _ _ _, hIW, hlr, fun j h => absurd h (by omega), hb, by have := hN2.out; omega⟩
      case round =>
        obtain ⟨i, v, hi, rfl, k0, kF, kT, hown, hIV, hlq, hrd, hbq, hszq⟩ := hrel
        clear j0 jF jT hIW hlr hb hlw hN2 hs2 hwl
        have hi1 : (0 : Int) ≤ (i : Int) := Int.natCast_nonneg _
        have f0 := kF.cell 0
        simp only [List.getElem?_toArray, List.getElem?_cons_zero, List.getElem?_cons_succ] at f0
        by_cases hlt : i < lr.length
        · have hi2 : (i : Int) < (lr.length : Int) := by omega
          obtain ⟨br, orr, rfl, hbr, d0, d1⟩ := ItS.at_ hlq hlt
          have htk : (lr.take (i + 1)).map (fun r => (⟨r.a, (fromR l r).1⟩ : It)) = (lr.take i).map (fun r => (⟨r.a, (fromR l r).1⟩ : It)) ++ [⟨lr[i].a, (fromR l lr[i]).1⟩] := by rw [List.take_succ_eq_append_getElem hlt, List.map_append]; rfl
          have htl : ((lr.take i).map fun r => (⟨r.a, (fromR l r).1⟩ : It)).length = i := by rw [List.length_map, List.length_take]; omega
          have hre := readE_at (l := l) hlt
          have hbi := hide (fun hb => hbd.out i hlt hrd.out hb)
          have hrs : readE l lr i = 0 → ∀ j, j < i + 1 → readE l lr j = 0 := fun g j hj => by
            by_cases hji : j = i
            · subst hji; exact g
            · exact hrd.out j (by omega)
          have hfz := hide (hfr.out lr[i])
          rw [hre] at hbi hrs
          generalize lr[i] = z at *
          generalize (lr.take i).map (fun r => (⟨r.a, (fromR l r).1⟩ : It)) = L at *
          generalize fromR l z = fz at *
          obtain ⟨fn, fe⟩ := fz
          dsimp only at htk hbi hrs hfz
          replace htk := hide htk
          replace htl := hide htl
          replace hrs := hide hrs
          clear hre hrd
          have hoff := hide (show ∀ g, v.ownBlock = some g → N2 ≤ g from fun g hg => (hown.lt g hg).1)
          have jF := kF
          have hbr2 : br < wr.heap.size := by omega
          have hbw := hide (fun (W : World) (hW : Below wr.heap.size wr W) => hbq.trans (hW.mono hbq.size))
          go_wp2_with fail
          refine wp_region_float (fun W => Below wr.heap.size wr W) (by kernel_rfl) (by kernel_rfl) (Below.refl _ _).drew ?_
          refine ⟨.slice (some ⟨b, off, none⟩) l.length c, fun W hW => (by go_wp2), ?_⟩
          refine ⟨.pointer (some ⟨G, 0, none⟩), fun W hW => (by go_wp2), ?_⟩
          refine ⟨.slice (some ⟨br, orr, none⟩) lr.length cr, fun W hW => (by have q0 := (jF.below hW jF.lt).cell 0; simp only [List.getElem?_toArray, List.getElem?_cons_zero] at q0; go_wp2), ?_⟩
          refine ⟨.int .i64 i, fun W hW => (by go_wp2), ?_⟩
          refine ⟨.pointer (some ⟨br, orr + i * 2, none⟩), fun W hW => (by go_wp2), ?_⟩
          refine ⟨.pointer (some ⟨br, orr + i * 2, none⟩), fun W hW => (by go_wp2), ?_⟩
          refine ⟨.int .i64 z.a, fun W hW => (by have q1 := (hW.cell (p := ⟨br, orr + i * 2, none⟩) hbr2).trans d0; go_wp2), ?_⟩
          refine ⟨.pointer (some ⟨G, 0, none⟩), fun W hW => (by go_wp2), ?_⟩
          refine ⟨.slice (some ⟨br, orr, none⟩) lr.length cr, fun W hW => (by have q0 := (jF.below hW jF.lt).cell 0; simp only [List.getElem?_toArray, List.getElem?_cons_zero] at q0; go_wp2), ?_⟩
          refine ⟨.int .i64 i, fun W hW => (by go_wp2), ?_⟩
          refine ⟨.pointer (some ⟨br, orr + i * 2, none⟩), fun W hW => (by go_wp2), ?_⟩
          refine ⟨.pointer (some ⟨br, orr + i * 2 + 1, none⟩), fun W hW => (by go_wp2), ?_⟩
          refine ⟨.int .i64 z.b, fun W hW => (by have q1 := (hW.cell (p := ⟨br, orr + i * 2 + 1, none⟩) hbr2).trans d1; go_wp2), ?_⟩
          refine ⟨.tuple #[.int .i64 fn, .int .i64 fe], fun W hW => (by go_wp2_with (go_at_call 66; refine (hfz.out W (hbw.out W hW)).mono ?_; rintro e' w' ⟨rfl, hb'⟩; replace hW := hW.trans (hb'.mono hW.size))), ?_⟩
          refine ⟨.tuple #[.int .i64 fn, .int .i64 fe], fun W hW => (by go_wp2), ?_⟩
          refine ⟨.int .i64 fn, fun W hW => (by go_wp2), ?_⟩
          refine ⟨.int .i64 fe, fun W hW => (by go_wp2), ?_⟩
          refine ⟨.int .i64 fn, fun W hW => (by go_wp2), ?_⟩
          refine ⟨.int .i64 fe, fun W hW => (by go_wp2), ?_⟩
          intro w4 hw4
          simp only [Act.put, List.setIfInBounds_toArray, List.set_cons_zero, List.set_cons_succ]
          have m0 := k0.below hw4 k0.lt
          have mF := kF.below hw4 kF.lt
          have mT := kT.below hw4 kT.lt
          have hown4 := own_below hown hw4 (Nat.le_refl _)
          have hIV4 : IntS w4 (fun b => G + 2 ≤ b ∧ b < N2) (.slice AW WL.length cW) WL := IntS.keep hIV (Agree.below hw4 fun b h => by omega) (fun _ h => h)
          have hlq4 : ItS w4 (fun b => b < G) (.slice (some ⟨br, orr, none⟩) lr.length cr) lr := ItS.keep hlq (Agree.below hw4 fun b h => by omega) (fun _ h => h)
          have hb4 := hbw.out w4 hw4
          have e0 := (hw4.cell (p := ⟨br, orr + i * 2, none⟩) hbr2).trans d0
          have hsz4 : N2 ≤ w4.heap.size := Nat.le_trans hszq hw4.size
          clear hw4 k0 kF kT jF hown hIV hlq d0 d1 hbq hbw hfz hfr f0 hszq hbr2
          have t0 := mT.cell 2
          have g0 := mF.cell 0
          simp only [List.getElem?_toArray, List.getElem?_cons_zero, List.getElem?_cons_succ] at t0 g0
          by_cases hfe : fe = 0
          · have hrs2 := hide (hrs.out hfe)
            have hfb : (fe != 0) = false := by simpa using hfe
            clear hrs hbi hfe
            go_wp2_with fail
            refine wp_region_plan [0, 1, 2, 3, 4, 5, 6, 7, 8, 9] [10, 11, 12, 13] (by kernel_rfl) (by kernel_rfl) (fun _ _ d _ _ h => by cases d <;> exact h) ?_
            simp only [List.filterMap_cons, List.filterMap_nil, List.getElem?_cons_zero, List.getElem?_cons_succ]
            repeat still_step
            refine wpStill_nil ?_
            have hownX : ((w4.alloc (.cells #[.int .i64 z.a, .int .i64 fn] 40)).drew).ownsRow N2 40 2 v L.length (L.map It.enc).flatten := hown4.alloc _
            have kN := hide (show SlR 2 (Flat It.enc) ((w4.alloc (.cells #[.int .i64 z.a, .int .i64 fn] 40)).drew) (fun _ => True) (.slice (some ⟨w4.heap.size, 0, none⟩) 1 1) [(⟨z.a, fn⟩ : It)] from SlR.one (R := Flat It.enc) (K := fun _ => True) (x := (⟨z.a, fn⟩ : It)) (w := ((w4.alloc (.cells #[.int .i64 z.a, .int .i64 fn] 40)).drew)) (Blk.new w4 40 #[.int .i64 z.a, .int .i64 fn]) rfl rfl trivial)
            have nT : Blk ((w4.alloc (.cells #[.int .i64 z.a, .int .i64 fn] 40)).drew) (G + 1) 38 #[.int .i64 xs, .slice AW WL.length cW, v] := mT.alloc _
            have nF : Blk ((w4.alloc (.cells #[.int .i64 z.a, .int .i64 fn] 40)).drew) G 99 #[.slice (some ⟨br, orr, none⟩) lr.length cr, .slice Aw lw.length cw] := mF.alloc _
            have n0 : Blk ((w4.alloc (.cells #[.int .i64 z.a, .int .i64 fn] 40)).drew) w.heap.size 38 #[.int .i64 0, .slice none 0 0, .slice none 0 0] := m0.alloc _
            have hbX : Below w.heap.size w ((w4.alloc (.cells #[.int .i64 z.a, .int .i64 fn] 40)).drew) := (hb4.alloc hb4.size _).drew
            have hIVX : IntS ((w4.alloc (.cells #[.int .i64 z.a, .int .i64 fn] 40)).drew) (fun b => G + 2 ≤ b ∧ b < N2) (.slice AW WL.length cW) WL := IntS.keep hIV4 (Agree.alloc (fun b h => by omega) _) (fun _ h => h)
            have hlqX : ItS ((w4.alloc (.cells #[.int .i64 z.a, .int .i64 fn] 40)).drew) (fun b => b < G) (.slice (some ⟨br, orr, none⟩) lr.length cr) lr := ItS.keep hlq4 (Agree.alloc (fun b h => by omega) _) (fun _ h => h)
            clear hown4 mT mF m0 hb4 hIV4 hlq4 t0 g0 e0
            refine wpList_plain rfl (fun K hK => ?_)
            go_simp
            refine hK _ _ ?_
            clear hK K
            refine wpList_append_flat (enc := It.enc) rfl (.tmp 77) (.tmp 86) 36 rfl N2 40 it _ 2 16 Tryz.underlying36 hit hit1 hit2 hit3 rfl (by decide) v (fun _ => True) L rfl hownX (fun _ => rfl) _ [(⟨z.a, fn⟩ : It)] rfl kN.out encIt1 (by have := htl.out; simp [maxLen]; omega) (by have := htl.out; simp; omega) (by simp; omega) ?_
            intro v6 W6 hown6 hgrow6 hat6
            obtain ⟨A6, c6, rfl⟩ := own_slice hown6
            have pT := nT.grown hgrow6 (fun e => by have := hoff.out _ e.symm; omega)
            have tc := pT.cell 2
            have tf := pT.frozen 2
            simp only [List.getElem?_toArray, List.getElem?_cons_zero, List.getElem?_cons_succ] at tc
            go_wp2
            go_roundw
            case rel =>
              have p0 := n0.grown hgrow6 (fun e => by have := hoff.out _ e.symm; omega)
              have pF := nF.grown hgrow6 (fun e => by have := hoff.out _ e.symm; omega)
              have hagA : Agree (fun b => b < G) ((w4.alloc (.cells #[.int .i64 z.a, .int .i64 fn] 40)).drew) W6 := Agree.grown hgrow6 (fun b h => ⟨by simp; omega, fun e => by have := hoff.out _ e.symm; omega⟩)
              have hagB : Agree (fun b => G + 2 ≤ b ∧ b < N2) ((w4.alloc (.cells #[.int .i64 z.a, .int .i64 fn] 40)).drew) W6 := Agree.grown hgrow6 (fun b h => ⟨by simp; omega, fun e => by have := hoff.out _ e.symm; omega⟩)
              refine ⟨i + 1, _, by omega, by go_num, p0.far (by simp; omega) _, pF.far (by simp) _, pT.set_ 2 _, ?_, IntS.keep hIVX (hagB.trans (Agree.setCell ⟨G + 1, 2, none⟩ (by simp) _)) (fun _ h => h), ItS.keep hlqX (hagA.trans (Agree.setCell ⟨G + 1, 2, none⟩ (by simp) _)) (fun _ h => h), hrs2, ?_, ?_⟩
              · rw [htk.out]
                have hq := own_setCell hown6 (p := ⟨G + 1, 2, none⟩) (fun e => by have : N2 ≤ G + 1 := (hown6.lt _ e).1; omega) (.slice A6 (L.length + 1) c6)
                rw [List.length_append] at hq ⊢
                exact hq
              · exact (hbX.grown hgrow6 hbX.size (fun g hg => by have := hoff.out g hg; omega)).setCell (p := ⟨G + 1, 2, none⟩) (by simp; omega) _
              · have h1 := hgrow6.size
                rw [World.size_setCell]
                simp at h1
                omega
            case measure => simp [intOf]; omega
          · have hr := hide (hbi.out hfe)
            have hfb : (fe != 0) = true := by simpa using hfe
            have y0 := m0.frozen 0
            have y1 := m0.frozen 1
            have y2 := m0.frozen 2
            have x0 := m0.cell 0
            have x1 := m0.cell 1
            have x2 := m0.cell 2
            simp only [List.getElem?_toArray, List.getElem?_cons_zero, List.getElem?_cons_succ] at x0 x1 x2
            clear hrs hbi hfe
            go_wp2
            (try simp only [Exit.inBlock, Exit.then])
            refine bodyPost_ret (results_one rfl rfl (blk_fill3 m0 _ _ _) rfl) rfl ?_
            exact ⟨.slice none 0 0, .slice none 0 0, by rw [hr.out]; rfl, by rw [hr.out]; exact IntS.nil _ _ _ _, by rw [hr.out]; exact SlR.nil _ _ _ _ _ _, below_fill3 hb4 (Nat.le_refl _) _ _ _⟩
        · have : i = lr.length := by omega
          subst this
          rw [List.take_length] at hown
          obtain ⟨AR, cR, rfl⟩ := own_slice hown
          have hr := hide (hgd.out hrd.out)
          have hrl : (lr.map fun r => (⟨r.a, (fromR l r).1⟩ : It)).length = lr.length := List.length_map ..
          generalize lr.map (fun r => (⟨r.a, (fromR l r).1⟩ : It)) = RL7 at *
          replace hrl := hide hrl
          have t0 := kT.cell 0
          have t1 := kT.cell 1
          have t2 := kT.cell 2
          have y0 := k0.frozen 0
          have y1 := k0.frozen 1
          have y2 := k0.frozen 2
          have x0 := k0.cell 0
          have x1 := k0.cell 1
          have x2 := k0.cell 2
          simp only [List.getElem?_toArray, List.getElem?_cons_zero, List.getElem?_cons_succ] at x0 x1 x2 t0 t1 t2
          have hag3 : ∀ (K : Nat → Prop), ¬ K w.heap.size → ∀ a b c, Agree K wr (((wr.setCell ⟨w.heap.size, 0, none⟩ a).setCell ⟨w.heap.size, 1, none⟩ b).setCell ⟨w.heap.size, 2, none⟩ c) := fun K hK a b c =>
            ((Agree.setCell ⟨w.heap.size, 0, none⟩ hK a).trans (Agree.setCell ⟨w.heap.size, 1, none⟩ hK b)).trans (Agree.setCell ⟨w.heap.size, 2, none⟩ hK c)
          have hIR : ItS wr (fun b => N2 ≤ b ∧ b < wr.heap.size) (.slice AR RL7.length cR) RL7 := SlR.of_flat hown rfl (fun _ => rfl) (fun g h1 h2 => ⟨h1, h2⟩)
          replace hag3 := hide hag3
          clear hgd hbd hrd
          go_wp2
          (try simp only [Exit.inBlock, Exit.then])
          refine bodyPost_ret (results_one rfl rfl (blk_fill3 k0 _ _ _) rfl) rfl ?_
          refine ⟨.slice AW WL.length cW, .slice AR RL7.length cR, by rw [hr.out]; rfl, ?_, ?_, below_fill3 hbq (Nat.le_refl _) _ _ _⟩
          · rw [hr.out]
            exact IntS.keep hIV (hag3.out _ (by intro h; omega) _ _ _) (fun b h => ⟨by omega, by simp; omega⟩)
          · rw [hr.out]
            exact ItS.keep hIR (hag3.out _ (by intro h; omega) _ _ _) (fun b h => ⟨by omega, by simp; omega⟩)
end Go.Proofs.YtphcebgpllecjaaGreatDoor
