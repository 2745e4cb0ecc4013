/-
  Walks: the reference of layer 4: Parse, Show.
-/
import Derived.Test.YtphcebgpllecjaaGreatDoorC18
set_option linter.unusedVariables false
set_option linter.unusedSimpArgs false
namespace Go.Proofs.YtphcebgpllecjaaGreatDoor
open Go.RowKit Go.Inq
set_option maxHeartbeats 2000000
attribute [local go_sem ↓] Go.wp_at_zero Go.wp_at_succ

set_option maxRecDepth 100000 in
theorem rdparse_any (s : ByteArray) (w : World) (hs : s.size ≤ 1000000) : Calls Tryz.prog 16 #[.string s] w (EvOut (diaryR s.data.toList) w) := by
  obtain ⟨ie, hie, hie1, hie2, hie3⟩ := info_parts infoE
  by_cases h0 : (splitR s.data.toList).2 ≠ 0
  · have hr := hide (diaryR_split h0)
    have h0' : ((splitR s.data.toList).2 != 0) = true := by simpa using h0
    clear h0
    have hsp := rsplit_any s w hs
    generalize splitR s.data.toList = sp at *
    obtain ⟨ls, f⟩ := sp
    go_enter Tryz.func16, Tryz.ntmps16
    go_wp2_with fail
    refine hsp.mono ?_
    intro e w1 ho
    obtain ⟨A, c, rfl, -, hb⟩ := RowOut.open ho
    clear ho hsp
    go_wp2
    go_ret3
    exact ⟨.slice none 0 0, by rw [hr.out]; rfl, by rw [hr.out]; exact EvS.nil _ _ _ _, hb⟩
  · have h0' : (splitR s.data.toList).2 = 0 := by omega
    have hr := hide (diaryR_rows h0')
    have hlen := splitR_len s.data.toList
    have hsz : ∀ i (h : i < (splitR s.data.toList).1.length), (mk (splitR s.data.toList).1[i]).size ≤ 1000000 := fun i h => by
      have := rows_len h0' (List.getElem_mem h)
      rw [← Lib.size_eq] at this
      rw [mk_size]
      omega
    have hsp := rsplit_any s w hs
    replace hsp := hsp.mono fun e w1 ho => RowOut.open ho
    rw [h0'] at hsp
    clear h0 h0'
    generalize (splitR s.data.toList).1 = rows at *
    replace hsz := hide hsz
    go_enter Tryz.func16, Tryz.ntmps16
    go_wp2_with fail
    refine hsp.mono ?_
    rintro e w1 ⟨A, c, rfl, hl, hb⟩
    replace hl : StrS w1 (Old w1) _ _ := StrS.fit hl (fun b hb => hb.2)
    go_wp2_with fail
    go_loopw [7, 8, 9, 10] (fun s7 s8 _ _ wr => ∃ i : Nat, i ≤ rows.length ∧ s8 = .int .i64 i ∧ wr.ownsRow w1.heap.size 56 4 s7 (evl (rows.take i)).length ((evl (rows.take i)).map Ev.enc).flatten ∧ Hid (∀ j, j < i → rowE rows j = 0) ∧ Below w1.heap.size w1 wr) (fun _ s8 _ _ _ => rows.length - (intOf s8).toNat)
    case atStart => exact ⟨0, Nat.zero_le _, by go_num, World.ownsRow_nil _ _ _ _, fun j h => absurd h (by omega), Below.refl _ _⟩
    case round =>
      obtain ⟨i, hi, rfl, hown, hok, hbr⟩ := hrel
      by_cases hlt : i < rows.length
      · have hlr := StrS.below hl hbr
        obtain ⟨b, off, rfl, hbK, c0⟩ := StrS.at_ hlr (i := i) (by rw [List.length_map]; exact hlt)
        rw [List.getElem_map] at c0
        have hi1 : (0 : Int) ≤ (i : Int) := Int.natCast_nonneg _
        have hi2 : (i : Int) < (rows.length : Int) := by omega
        have hpar := rparse03_any (mk rows[i]) wr (hsz.out i hlt)
        rw [mk_bytes] at hpar
        have hrow := rowE_at hlt
        have htk := hide (evl_take hlt)
        have hbad := hide (evsR_bad (rows := rows) (i := i) hlt hok.out)
        have hok2 : (parseR rows[i]).2 = 0 → ∀ j, j < i + 1 → rowE rows j = 0 := fun h j hj => by
          by_cases hji : j = i
          · subst hji; rw [hrow]; exact h
          · exact hok.out j (by omega)
        rw [hrow] at hbad
        have hti : (evl (rows.take i)).length = i := by rw [evl_len, List.length_take]; omega
        generalize mk rows[i] = tx at *
        generalize parseR rows[i] = pr at *
        obtain ⟨⟨x0, x1, x2, x3⟩, f⟩ := pr
        dsimp only at hbad hok2
        clear hrow hok
        go_wp2_with fail
        refine hpar.mono ?_
        rintro e w2 ⟨rfl, hb2⟩
        have hown2 := own_below hown hb2 (Nat.le_refl _)
        have hB2 := hbr.trans (hb2.mono hbr.size)
        clear hb2 hown hpar hlr
        have kA : Blk (w2.alloc (.cells #[.int .i64 x0, .int .i64 x1, .int .i64 x2, .int .i64 x3] 56)) w2.heap.size 56 _ := Blk.new _ _ _
        have a0 := kA.cell 0
        have a1 := kA.cell 1
        have a2 := kA.cell 2
        have a3 := kA.cell 3
        simp only [List.getElem?_toArray, List.getElem?_cons_zero, List.getElem?_cons_succ] at a0 a1 a2 a3
        by_cases hf : f = 0
        · subst hf
          have hok3 := hide (hok2 rfl)
          have hown3 := hown2.alloc (.cells #[.int .i64 x0, .int .i64 x1, .int .i64 x2, .int .i64 x3] 56)
          have hB3 := hB2.alloc hB2.size (.cells #[.int .i64 x0, .int .i64 x1, .int .i64 x2, .int .i64 x3] 56)
          clear hbad hok2 hown2 hB2 kA
          rw [hti] at hown3
          generalize hL : evl (rows.take i) = L at *
          have kN : SlR 4 (Flat Ev.enc) ((w2.alloc (.cells #[.int .i64 x0, .int .i64 x1, .int .i64 x2, .int .i64 x3] 56)).alloc (.cells #[.int .i64 x0, .int .i64 x1, .int .i64 x2, .int .i64 x3] 56)) (fun _ => True) (.slice (some ⟨w2.heap.size + 1, 0, none⟩) 1 1) [(⟨x0, x1, x2, x3⟩ : Ev)] := by
            have := SlR.one (R := Flat Ev.enc) (K := fun _ => True) (x := (⟨x0, x1, x2, x3⟩ : Ev)) (Blk.new (w2.alloc (.cells #[.int .i64 x0, .int .i64 x1, .int .i64 x2, .int .i64 x3] 56)) 56 #[.int .i64 x0, .int .i64 x1, .int .i64 x2, .int .i64 x3]) rfl rfl trivial
            rwa [show (w2.alloc (.cells #[.int .i64 x0, .int .i64 x1, .int .i64 x2, .int .i64 x3] 56)).heap.size = w2.heap.size + 1 by simp] at this
          replace kN := hide kN
          replace hti := hide hti
          go_wp2_with (at_builtin; refine wpList_append_flat (enc := Ev.enc) rfl (.tmp 38) (.tmp 40) 41 rfl w1.heap.size 56 ie _ 4 32 Tryz.underlying41 hie hie1 hie2 hie3 rfl (by decide) _ (fun _ => True) L rfl (by rw [hti.out]; exact hown3.alloc _) (fun _ => rfl) _ [(⟨x0, x1, x2, x3⟩ : Ev)] rfl kN.out encE_one (by have := hti.out; simp [maxLen]; omega) (by have := hti.out; simp; omega) (by have := hB3.size; simp at this ⊢; omega) ?_; intro v6 W6 hown6 hgrow6 hat6)
          go_roundw
          case rel =>
            refine ⟨i + 1, by omega, by go_num, by rw [htk.out]; exact hown6, hok3, (hB3.alloc hB3.size _).grown hgrow6 (by have := hB3.size; simp at this ⊢; omega) (fun g hg => (hown3.lt g hg).1)⟩
          case measure => simp [intOf]; omega
        · have hbad2 := hide (hbad.out hf)
          have hfb : (f != 0) = true := by simpa using hf
          clear hbad hok2 hf
          go_wp2
          go_ret3
          exact ⟨.slice none 0 0, by rw [hr.out, hbad2.out]; rfl, by rw [hr.out, hbad2.out]; exact EvS.nil _ _ _ _, (hb.trans (hB2.mono hb.size)).alloc (by have := hb.size; have := hB2.size; omega) _⟩
      · have : i = rows.length := by omega
        subst this
        rw [List.take_length] at hown
        have hgd := hide (evsR_good hok.out)
        have hEv : EvS wr (fun b => w1.heap.size ≤ b ∧ b < wr.heap.size) _ (evl rows) := SlR.of_flat hown rfl (fun _ => rfl) (fun g h1 h2 => ⟨h1, h2⟩)
        go_wp2
        go_ret3
        exact ⟨_, by rw [hr.out, hgd.out]; rfl, by rw [hr.out, hgd.out]; exact EvS.fit hEv (fun b h => ⟨Nat.le_trans hb.size h.1, h.2⟩), hb.trans (hbr.mono hb.size)⟩

set_option maxRecDepth 100000 in
theorem rdshow_any (A : Option Addr) (c : Nat) (l : List Ev) (w : World) (h : EvS w (Old w) (.slice A l.length c) l) (hn : l.length ≤ maxLen) :
    Calls Tryz.prog 22 #[.slice A l.length c] w fun e w' => e = .returned (.tuple #[.string (mk (showD l).1), .int .i64 (showD l).2]) ∧ Below w.heap.size w w' := by
  have hn2 : l.length ≤ 9223372036854775807 := hn
  clear hn
  by_cases hl : 400 < l.length
  · have hl2 : (400 : Int) < (l.length : Int) := by omega
    have hr := hide (showD_many hl)
    go_enter Tryz.func22, Tryz.ntmps22
    go_wp2
    go_ret2
    exact ⟨by rw [hr.out]; rfl, Below.refl _ _⟩
  · have hl2 : ¬ (400 : Int) < (l.length : Int) := by omega
    have hgd := hide (fun (hg : ∀ e ∈ l, e.right = true) => showD_good hl hg)
    have hbd := hide (fun (hg : ∃ e ∈ l, e.right = false) => showD_bad hl hg)
    go_enter Tryz.func22, Tryz.ntmps22
    go_wp2_with fail
    go_loopw [4, 5, 6, 7] (fun s4 s5 _ _ wr => ∃ i : Nat, i ≤ l.length ∧ s5 = .int .i64 i ∧ s4 = .string (mk (textD (l.take i))) ∧ Hid (∀ j (hj : j < l.length), j < i → l[j].right = true) ∧ Below w.heap.size w wr) (fun _ s5 _ _ _ => l.length - (intOf s5).toNat)
    case atStart => exact ⟨0, Nat.zero_le _, by go_num, rfl, fun j _ h => absurd h (by omega), Below.refl _ _⟩
    case round =>
      obtain ⟨i, hi, rfl, rfl, hok, hb⟩ := hrel
      by_cases hlt : i < l.length
      · have hw := EvS.below h hb
        obtain ⟨b, off, rfl, hbK, c0, c1, c2, c3⟩ := EvS.at_ hw hlt
        have hi1 : (0 : Int) ≤ (i : Int) := Int.natCast_nonneg _
        have hi2 : (i : Int) < (l.length : Int) := by omega
        have htk := hide (textD_take hlt)
        have hmem := hide (List.getElem_mem hlt)
        have htl := textD_len (l.take i)
        rw [List.length_take] at htl
        have hsl := showR_len l[i]
        have hsw := rshow03_any l[i] wr
        have hok2 : l[i].right = true → ∀ j (hj : j < l.length), j < i + 1 → l[j].right = true := fun g j hj hji => by
          by_cases hje : j = i
          · subst hje; exact g
          · exact hok.out j hj (by omega)
        have hsok := fun (g : l[i].right = true) => showR_err g
        have hsbad := fun (g : l[i].right = false) => showR_bad g
        generalize l[i] = x at *
        have hz1 : (mk (textD (l.take i))).size ≤ 40400 := by rw [mk_size]; omega
        have hz2 : (mk (showR x).1).size ≤ 100 := by rw [mk_size]; exact hsl
        clear htl hsl hw hok
        cases hright : x.right with
        | true =>
          have hok3 := hide (hok2 hright)
          rw [hsok hright] at hsw
          clear hsok hsbad hok2 hright hbd
          generalize (showR x).1 = t at *
          have hJ : Hid (mk (textD (l.take i)) ++ mk t ++ { data := #[10] } = mk (textD (l.take (i + 1)))) := by
            unfold Hid
            rw [htk.out, mk_append, mk_append, ByteArray.append_assoc]
            rfl
          have hz3 : (mk (textD (l.take i)) ++ mk t).size ≤ 40500 := by rw [ByteArray.size_append]; omega
          clear htk
          generalize mk (textD (l.take i)) = X at *
          generalize mk t = T at *
          go_wp2_with (go_at_call 46; refine hsw.mono ?_; rintro e w2 ⟨rfl, hb2⟩)
          go_roundw
          case rel => exact ⟨i + 1, by omega, by go_num, by rw [hJ.out], hok3, hb.trans (hb2.mono hb.size)⟩
          case measure => simp [intOf]; omega
        | false =>
          have hr := hide (hbd.out ⟨x, hmem.out, hright⟩)
          rw [hsbad hright] at hsw
          clear hsok hsbad hok2 hright hbd htk
          go_wp2_with (go_at_call 46; refine hsw.mono ?_; rintro e w2 ⟨rfl, hb2⟩)
          go_ret2
          exact ⟨by rw [hr.out]; rfl, hb.trans (hb2.mono hb.size)⟩
      · have : i = l.length := by omega
        subst this
        rw [List.take_length]
        have hr := hide (hgd.out fun e he => by
          obtain ⟨j, hj, rfl⟩ := List.getElem_of_mem he
          exact hok.out j hj hj)
        go_wp2
        go_ret2
        exact ⟨by rw [hr.out]; rfl, hb⟩
end Go.Proofs.YtphcebgpllecjaaGreatDoor
