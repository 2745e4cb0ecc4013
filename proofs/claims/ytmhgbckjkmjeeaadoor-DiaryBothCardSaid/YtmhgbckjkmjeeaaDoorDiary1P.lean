/-
  Walks: diary.Parse.
-/
import Derived.Test.YtmhgbckjkmjeeaaDoorDiary1
set_option linter.unusedVariables false
set_option linter.unusedSimpArgs false
namespace Go.Proofs.YtmhgbckjkmjeeaaDoor
open Go.RowKit Go.Inq
set_option maxHeartbeats 2000000
attribute [local go_sem ↓] Go.wp_at_zero Go.wp_at_succ

theorem three_new (w : World) (v0 v1 v2 : Value) : Blk (((w.alloc (.cells #[v0] 35)).alloc (.cells #[v1] 3)).alloc (.cells #[v2] 25)) w.heap.size 35 #[v0] ∧
    Blk (((w.alloc (.cells #[v0] 35)).alloc (.cells #[v1] 3)).alloc (.cells #[v2] 25)) (w.heap.size + 1) 3 #[v1] ∧
    Blk (((w.alloc (.cells #[v0] 35)).alloc (.cells #[v1] 3)).alloc (.cells #[v2] 25)) (w.heap.size + 2) 25 #[v2] ∧
    Below w.heap.size w (((w.alloc (.cells #[v0] 35)).alloc (.cells #[v1] 3)).alloc (.cells #[v2] 25)) ∧
    (((w.alloc (.cells #[v0] 35)).alloc (.cells #[v1] 3)).alloc (.cells #[v2] 25)).heap.size = w.heap.size + 3 := by
  refine ⟨((Blk.new _ _ _).alloc _).alloc _, ?_, ?_, (((Below.refl _ _).alloc (Nat.le_refl _) _).alloc (by simp) _).alloc (by simp; omega) _, by simp⟩
  · have := (Blk.new (w.alloc (.cells #[v0] 35)) 3 #[v1]).alloc (.cells #[v2] 25)
    rwa [show (w.alloc (.cells #[v0] 35)).heap.size = w.heap.size + 1 by simp] at this
  · have := Blk.new ((w.alloc (.cells #[v0] 35)).alloc (.cells #[v1] 3)) 25 #[v2]
    rwa [show ((w.alloc (.cells #[v0] 35)).alloc (.cells #[v1] 3)).heap.size = w.heap.size + 2 by simp] at this

set_option maxRecDepth 100000 in
theorem dparse_any (s : ByteArray) (w : World) (hs : s.size ≤ 1000000) (henv : Env w) : Calls Tryd.prog 20 #[.string s] w (EvOut (diaryR s.data.toList) w) := by
  obtain ⟨ie, hie, hie1, hie2, hie3⟩ := info_parts infoE
  have hmf : ∀ (fn : Fn) (first cap : Array Value) (w : World), (Instr.makeFunc fn first cap).run Tryd.prog w = .ok (.func fn first cap) w := fun _ _ _ _ => rfl
  obtain ⟨k0, k1, k2, hB, hsz⟩ := three_new w (.slice none 0 0) (.int .i64 0) (.int .i64 0)
  have hE := henv.below hB
  have hsp := lsplit_any s _ hs hE.glob
  generalize hW0 : ((w.alloc (.cells #[.slice none 0 0] 35)).alloc (.cells #[.int .i64 0] 3)).alloc (.cells #[.int .i64 0] 25) = W0 at *
  by_cases h0 : (splitR s.data.toList).2 ≠ 0
  · have hr := hide (diaryR_split h0)
    generalize splitR s.data.toList = sp at *
    obtain ⟨ls, f⟩ := sp
    go_enter_defers Tryd.func20, Tryd.ntmps20
    go_wp2_with fail
    refine hsp.mono ?_
    intro e w1 ho
    obtain ⟨A, c, rfl, -, hb⟩ := RowOut.open ho
    clear ho hsp
    have j0 := k0.below hb k0.lt
    have j1 := k1.below hb k1.lt
    have j2 := k2.below hb k2.lt
    have c2 := j2.cell 0
    have f2 := j2.frozen 0
    simp at c2
    have i0 := j0.far (p := ⟨w.heap.size + 2, 0, none⟩) (by simp) (.int .i64 f)
    have i1 := j1.far (p := ⟨w.heap.size + 2, 0, none⟩) (by simp) (.int .i64 f)
    have i2 := j2.set_ 0 (.int .i64 f)
    have hB2 := (hB.trans (hb.mono hB.size)).setCell (p := ⟨w.heap.size + 2, 0, none⟩) (by simp) (.int .i64 f)
    go_wp2_with fail
    refine (must_bad 0 f h0 _).mono ?_
    rintro e w' ⟨rfl, rfl⟩
    go_wp2
    refine leaves_bad 0 f i0 i1 i2 rfl rfl rfl fun w' hb' => ?_
    exact ⟨.slice none 0 0, by rw [hr.out], by rw [hr.out]; exact EvS.nil _ _ _ _, hB2.trans hb'⟩
  · have h0' : (splitR s.data.toList).2 = 0 := by omega
    have hr := hide (diaryR_rows h0')
    have hlen := splitR_len s.data.toList
    have hszr : ∀ i (h : i < (splitR s.data.toList).1.length), (mk (splitR s.data.toList).1[i]).size ≤ 1000000 := fun i h => by
      have := rows_len h0' (List.getElem_mem h)
      rw [← Lib.size_eq] at this
      rw [mk_size]
      omega
    replace hsp := hsp.mono fun e w1 ho => RowOut.open ho
    rw [h0'] at hsp
    clear h0 h0'
    generalize (splitR s.data.toList).1 = rows at *
    replace hszr := hide hszr
    go_enter_defers Tryd.func20, Tryd.ntmps20
    go_wp2_with fail
    refine hsp.mono ?_
    rintro e w1 ⟨A, c, rfl, hl, hb⟩
    have j0 := k0.below hb k0.lt
    have j1 := k1.below hb k1.lt
    have j2 := k2.below hb k2.lt
    have c2 := j2.cell 0
    have f2 := j2.frozen 0
    simp at c2
    have i0 := j0.far (p := ⟨w.heap.size + 2, 0, none⟩) (by simp) (.int .i64 0)
    have i1 := j1.far (p := ⟨w.heap.size + 2, 0, none⟩) (by simp) (.int .i64 0)
    have i2 := j2.set_ 0 (.int .i64 0)
    have hB2 := (hB.trans (hb.mono hB.size)).setCell (p := ⟨w.heap.size + 2, 0, none⟩) (by simp) (.int .i64 0)
    have hl2 : StrS (w1.setCell ⟨w.heap.size + 2, 0, none⟩ (.int .i64 0)) (fun b => w.heap.size + 3 ≤ b ∧ b < w1.heap.size) (.slice A rows.length c) (rows.map mk) := StrS.keep hl (Agree.setCell _ (by intro h; have := h.1; rw [hsz] at this; simp at this) _) (fun b h => ⟨by have := h.1; omega, h.2⟩)
    have hs2 : w1.heap.size ≤ (w1.setCell ⟨w.heap.size + 2, 0, none⟩ (.int .i64 0)).heap.size := by simp
    have hs1 : w.heap.size + 3 ≤ w1.heap.size := by have := hb.size; omega
    clear k0 k1 k2 hl hsp hW0 hE hB j0 j1 j2
    go_wp2_with fail
    refine (must_ok 0 _).mono ?_
    rintro e w' ⟨rfl, rfl⟩
    clear c2 f2 hb hsz
    generalize w1.setCell ⟨w.heap.size + 2, 0, none⟩ (.int .i64 0) = W2 at *
    generalize w1.heap.size = B1 at *
    go_wp2_with fail
    go_loopw [6, 7, 8, 9, 20] (fun _ _ _ _ s20 wr => ∃ (i : Nat) (v : Value), i ≤ rows.length ∧ s20 = .int .i64 i ∧ Blk wr w.heap.size 35 #[v] ∧ Blk wr (w.heap.size + 1) 3 #[.int .i64 0] ∧ Blk wr (w.heap.size + 2) 25 #[.int .i64 0] ∧
      StrS wr (fun b => w.heap.size + 3 ≤ b ∧ b < B1) (.slice A rows.length c) (rows.map mk) ∧ wr.ownsRow B1 23 4 v (evl (rows.take i)).length ((evl (rows.take i)).map Ev.enc).flatten ∧ Hid (∀ j, j < i → rowE rows j = 0) ∧ Below w.heap.size w wr ∧ B1 ≤ wr.heap.size) (fun _ _ _ _ s20 _ => rows.length - (intOf s20).toNat)
    case atStart => exact ⟨0, .slice none 0 0, Nat.zero_le _, by go_num, i0, i1, i2, hl2, World.ownsRow_nil _ _ _ _, fun j h => absurd h (by omega), hB2, hs2⟩
    case round =>
      obtain ⟨i, v, hi, rfl, k0, k1, k2, hl, hown, hok, hbr, hsb⟩ := hrel
      clear i0 i1 i2 hl2 hB2 hs2
      by_cases hlt : i < rows.length
      · obtain ⟨b, off, rfl, hbK, c0⟩ := StrS.at_ hl (i := i) (by rw [List.length_map]; exact hlt)
        rw [List.getElem_map] at c0
        have hi1 : (0 : Int) ≤ (i : Int) := Int.natCast_nonneg _
        have hi2 : (i : Int) < (rows.length : Int) := by omega
        have hpar := eparse_any (mk rows[i]) wr (hszr.out i hlt) (henv.below hbr)
        rw [mk_bytes] at hpar
        have hrow := rowE_at hlt
        have htk := hide (evl_take hlt)
        have hbad := hide (evsR_bad (rows := rows) (i := i) hlt hok.out)
        have hok2 : (parseR rows[i]).2 = 0 → ∀ j, j < i + 1 → rowE rows j = 0 := fun h j hj => by
          by_cases hji : j = i
          · subst hji; rw [hrow]; exact h
          · exact hok.out j (by omega)
        rw [hrow] at hbad
        have hti : (evl (rows.take i)).length = i := by rw [evl_len, List.length_take]; omega
        have hoff : ∀ b', v.ownBlock = some b' → B1 ≤ b' := fun b' h => (hown.lt b' h).1
        generalize mk rows[i] = tx at *
        generalize parseR rows[i] = pr at *
        obtain ⟨⟨x0, x1, x2, x3⟩, f⟩ := pr
        dsimp only at hbad hok2
        clear hrow hok hbK
        go_wp2_with fail
        refine hpar.mono ?_
        rintro e w2 ⟨rfl, hb2⟩
        have m0 := (k0.below hb2 k0.lt).alloc (.cells #[.int .i64 x0, .int .i64 x1, .int .i64 x2, .int .i64 x3] 23)
        have m1 := (k1.below hb2 k1.lt).alloc (.cells #[.int .i64 x0, .int .i64 x1, .int .i64 x2, .int .i64 x3] 23)
        have m2 := (k2.below hb2 k2.lt).alloc (.cells #[.int .i64 x0, .int .i64 x1, .int .i64 x2, .int .i64 x3] 23)
        have hown3 := (own_below hown hb2 (Nat.le_refl _)).alloc (.cells #[.int .i64 x0, .int .i64 x1, .int .i64 x2, .int .i64 x3] 23)
        have hl3 : StrS (w2.alloc (.cells #[.int .i64 x0, .int .i64 x1, .int .i64 x2, .int .i64 x3] 23)) (fun b => w.heap.size + 3 ≤ b ∧ b < B1) (.slice (some ⟨b, off, none⟩) rows.length c) (rows.map mk) := StrS.keep hl ((Agree.below hb2 (fun b h => Nat.lt_of_lt_of_le h.2 hsb)).trans (Agree.alloc (fun b h => Nat.lt_of_lt_of_le h.2 (Nat.le_trans hsb hb2.size)) _)) (fun _ h => h)
        have hB3 := (hbr.trans (hb2.mono hbr.size)).alloc (hbr.trans (hb2.mono hbr.size)).size (.cells #[.int .i64 x0, .int .i64 x1, .int .i64 x2, .int .i64 x3] 23)
        have hs3 : B1 ≤ (w2.alloc (.cells #[.int .i64 x0, .int .i64 x1, .int .i64 x2, .int .i64 x3] 23)).heap.size := by have := hb2.size; simp; omega
        have hy : (w2.alloc (.cells #[.int .i64 x0, .int .i64 x1, .int .i64 x2, .int .i64 x3] 23)).heap.size = w2.heap.size + 1 := by simp
        have kX : Blk (w2.alloc (.cells #[.int .i64 x0, .int .i64 x1, .int .i64 x2, .int .i64 x3] 23)) w2.heap.size 23 #[.int .i64 x0, .int .i64 x1, .int .i64 x2, .int .i64 x3] := Blk.new _ _ _
        clear hown hpar hl k0 k1 k2 hb2 hbr hsb c0
        go_wp2_with fail
        generalize w2.alloc (.cells #[.int .i64 x0, .int .i64 x1, .int .i64 x2, .int .i64 x3] 23) = W3 at *
        have c0 := m0.cell 0
        have a0 := kX.cell 0
        have a1 := kX.cell 1
        have a2 := kX.cell 2
        have a3 := kX.cell 3
        simp only [List.getElem?_toArray, List.getElem?_cons_zero, List.getElem?_cons_succ] at c0 a0 a1 a2 a3
        by_cases hf : f = 0
        · subst hf
          have hok3 := hide (hok2 rfl)
          clear hbad hok2
          refine (must_ok _ _).mono ?_
          rintro e w' ⟨rfl, rfl⟩
          rw [hti] at hown3
          generalize hL : evl (rows.take i) = L at *
          have kN : SlR 4 (Flat Ev.enc) (W3.alloc (.cells #[.int .i64 x0, .int .i64 x1, .int .i64 x2, .int .i64 x3] 23)) (fun _ => True) (.slice (some ⟨W3.heap.size, 0, none⟩) 1 1) [(⟨x0, x1, x2, x3⟩ : Ev)] := SlR.one (R := Flat Ev.enc) (K := fun _ => True) (x := (⟨x0, x1, x2, x3⟩ : Ev)) (Blk.new W3 23 #[.int .i64 x0, .int .i64 x1, .int .i64 x2, .int .i64 x3]) rfl rfl trivial
          replace kN := hide kN
          replace hti := hide hti
          replace hoff := hide hoff
          replace hy := hide hy
          go_wp2_with (at_builtin; refine wpList_append_flat (enc := Ev.enc) rfl (.tmp 34) (.tmp 36) 35 rfl B1 23 ie _ 4 32 Tryd.underlying35 hie hie1 hie2 hie3 rfl (by decide) v (fun _ => True) L rfl (by rw [hti.out]; exact hown3.alloc _) (fun _ => rfl) _ [(⟨x0, x1, x2, x3⟩ : Ev)] rfl kN.out encE_one (by have := hti.out; simp [maxLen]; omega) (by have := hti.out; simp; omega) (by have := hB3.size; simp; omega) ?_; intro v6 W6 hown6 hgrow6 hat6; obtain ⟨A6, c6, rfl⟩ := own_slice hown6; have m0' := (m0.alloc (.cells #[.int .i64 x0, .int .i64 x1, .int .i64 x2, .int .i64 x3] 23)).grown hgrow6 (fun e => by have := hoff.out _ e.symm; omega); have cm := m0'.cell 0; have fm := m0'.frozen 0; simp only [List.getElem?_toArray, List.getElem?_cons_zero] at cm)
          go_roundw
          case rel =>
            have m1' := (m1.alloc (.cells #[.int .i64 x0, .int .i64 x1, .int .i64 x2, .int .i64 x3] 23)).grown hgrow6 (fun e => by have := hoff.out _ e.symm; omega)
            have m2' := (m2.alloc (.cells #[.int .i64 x0, .int .i64 x1, .int .i64 x2, .int .i64 x3] 23)).grown hgrow6 (fun e => by have := hoff.out _ e.symm; omega)
            refine ⟨i + 1, _, by omega, by go_num, m0'.set_ 0 _, m1'.far (by simp) _, m2'.far (by simp) _, ?_, ?_, hok3, ?_, ?_⟩
            · exact StrS.keep hl3 (((Agree.alloc (fun b h => Nat.lt_of_lt_of_le h.2 hs3) _).trans (Agree.grown hgrow6 (fun b h => ⟨by have := h.2; simp; omega, fun e => by have := hoff.out _ e.symm; have := h.2; omega⟩))).trans (Agree.setCell _ (by intro h; have := h.1; simp at this; omega) _)) (fun _ h => h)
            · rw [htk.out]
              have hq := own_setCell hown6 (p := ⟨w.heap.size, 0, none⟩) (fun e => by have : B1 ≤ w.heap.size := (hown6.lt _ e).1; omega) (.slice A6 (L.length + 1) c6)
              rw [List.length_append] at hq ⊢
              exact hq
            · exact ((hB3.alloc hB3.size _).grown hgrow6 (by have := hB3.size; simp; omega) (fun b h => by have := hoff.out b h; omega)).setCell (by simp) _
            · have h1 := hgrow6.size
              rw [World.size_alloc] at h1
              rw [World.size_setCell]
              omega
          case measure => simp [intOf]; omega
        · have hbad2 := hide (hbad.out hf)
          clear hbad hok2
          refine (must_bad _ f hf _).mono ?_
          rintro e w' ⟨rfl, rfl⟩
          go_wp2
          refine leaves_bad _ f m0 m1 m2 rfl rfl rfl fun w' hb' => ?_
          exact ⟨.slice none 0 0, by rw [hr.out, hbad2.out], by rw [hr.out, hbad2.out]; exact EvS.nil _ _ _ _, hB3.trans hb'⟩
      · have : i = rows.length := by omega
        subst this
        rw [List.take_length] at hown
        have hgd := hide (evsR_good hok.out)
        obtain ⟨Av, cv, rfl⟩ := own_slice hown
        have c0 := k0.cell 0
        have c1 := k1.cell 0
        have c2 := k2.cell 0
        simp only [List.getElem?_toArray, List.getElem?_cons_zero, List.getElem?_cons_succ] at c0 c1 c2
        have f0 := k0.frozen 0
        have f1 := k1.frozen 0
        have f2 := k2.frozen 0
        have i0 := ((k0.set_ 0 (.slice Av (evl rows).length cv)).far (p := ⟨w.heap.size + 1, 0, none⟩) (by simp) (.int .i64 0)).far (p := ⟨w.heap.size + 2, 0, none⟩) (by simp) (.int .i64 0)
        have i1 := ((k1.far (p := ⟨w.heap.size, 0, none⟩) (by simp) (.slice Av (evl rows).length cv)).set_ 0 (.int .i64 0)).far (p := ⟨w.heap.size + 2, 0, none⟩) (by simp) (.int .i64 0)
        have i2 := ((k2.far (p := ⟨w.heap.size, 0, none⟩) (by simp) (.slice Av (evl rows).length cv)).far (p := ⟨w.heap.size + 1, 0, none⟩) (by simp) (.int .i64 0)).set_ 0 (.int .i64 0)
        have hoff : ∀ b', (Value.slice Av (evl rows).length cv).ownBlock = some b' → B1 ≤ b' := fun b' h => (hown.lt b' h).1
        have hown4 := own_setCell (own_setCell (own_setCell hown (p := ⟨w.heap.size, 0, none⟩) (fun e => by have := hoff _ e; simp at this; omega) (.slice Av (evl rows).length cv)) (p := ⟨w.heap.size + 1, 0, none⟩) (fun e => by have := hoff _ e; simp at this; omega) (.int .i64 0)) (p := ⟨w.heap.size + 2, 0, none⟩) (fun e => by have := hoff _ e; simp at this; omega) (.int .i64 0)
        have hB4 := ((hbr.setCell (p := ⟨w.heap.size, 0, none⟩) (by simp) (.slice Av (evl rows).length cv)).setCell (p := ⟨w.heap.size + 1, 0, none⟩) (by simp) (.int .i64 0)).setCell (p := ⟨w.heap.size + 2, 0, none⟩) (by simp) (.int .i64 0)
        go_wp2
        refine leaves_good i0 i1 i2 rfl rfl rfl fun w' hb' => ?_
        have hown5 := own_below hown4 hb' (Nat.le_refl _)
        exact ⟨.slice Av (evl rows).length cv, by rw [hr.out, hgd.out], by rw [hr.out, hgd.out]; exact SlR.of_flat hown5 rfl (fun _ => rfl) (fun b h1 h2 => ⟨by omega, h2⟩), hB4.trans (hb'.mono hB4.size)⟩
end Go.Proofs.YtmhgbckjkmjeeaaDoor
