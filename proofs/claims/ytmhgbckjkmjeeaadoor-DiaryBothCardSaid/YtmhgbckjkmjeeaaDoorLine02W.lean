/-
  Walks: the reference of layer 2: Words.
-/
import Derived.Test.YtmhgbckjkmjeeaaDoorSign02
set_option linter.unusedVariables false
set_option linter.unusedSimpArgs false
namespace Go.Proofs.YtmhgbckjkmjeeaaDoor
open Go.RowKit Go.Inq
set_option maxHeartbeats 2000000
attribute [local go_sem ↓] Go.wp_at_zero Go.wp_at_succ
set_option maxRecDepth 100000 in
theorem rwords_any (s : ByteArray) (w : World) (hs : s.size ≤ 1000000) : Calls Tryd.prog 32 #[.string s] w (RowOut (wordsR s.data.toList) w) := by
  obtain ⟨i0, hi0, hz0, hz1, hz2⟩ := info_parts infoS
  have hsl : Hid (s.size = s.data.toList.length) := Lib.size_eq s
  have hat := hide (fun (k : Nat) (hk : k < s.size) => bytes_at s hk)
  go_enter Tryd.func32, Tryd.ntmps32
  go_wp2
  go_loopw [4, 5, 6] (fun s4 s5 _ wr => ∃ (a : Nat) (D : List (List UInt8)), a ≤ s.size ∧ s5 = .int .i64 a ∧ D.length ≤ a ∧ Hid (segs 32 (s.data.toList.take a) = (D, [])) ∧ Hid (∀ w ∈ D, wordB w = true) ∧
      wr.ownsRow w.heap.size 9 1 s4 (D.map mk).length ((D.map mk).map encS).flatten ∧ Below w.heap.size w wr) (fun _ s5 _ _ => s.size - (intOf s5).toNat)
  case atStart => exact ⟨0, [], Nat.zero_le _, by go_num, Nat.zero_le _, rfl, (fun w h => by cases h), World.ownsRow_nil _ _ _ _, Below.refl _ _⟩
  case round =>
    obtain ⟨a, D, ha, rfl, hDa, hP, hD, hown, hb⟩ := hrel
    have ha1 : (0 : Int) ≤ (a : Int) := Int.natCast_nonneg _
    have ha2 : (a : Int) ≤ (s.size : Int) := by omega
    have hml : Hid ((D.map mk).length = D.length) := by unfold Hid; simp
    go_wp2
    go_loop [6] (fun s6 => ∃ t : Nat, a ≤ t ∧ t ≤ s.size ∧ s6 = .int .i64 t ∧ Hid (∀ k (hk : k < s.data.toList.length), a ≤ k → k < t → signB s.data.toList[k] = true)) (fun s6 => s.size - (intOf s6).toNat)
    case atStart => exact ⟨a, Nat.le_refl _, ha, rfl, fun k _ h1 h2 => absurd h2 (by omega)⟩
    case round =>
      obtain ⟨t, hat1, hts, rfl, hsg⟩ := hrel
      have ht1 : (0 : Int) ≤ (t : Int) := Int.natCast_nonneg _
      have ht2 : (a : Int) ≤ (t : Int) := by omega
      have ht3 : (t : Int) ≤ (s.size : Int) := by omega
      have hex := hide (mk_extract s a t)
      by_cases hlt : t < s.size
      · have hlt2 : (t : Int) < (s.size : Int) := by omega
        obtain ⟨hlt3, hbt⟩ := hat.out t hlt
        have hbt := hide hbt
        have hd : decide ((t : Int) < (s.size : Int)) = true := by simp; omega
        have hne : ((t : Int) == (s.size : Int)) = false := by simp; omega
        by_cases hsn : signB s[t] = true
        · have hsg2 : Hid (∀ k (hk : k < s.data.toList.length), a ≤ k → k < t + 1 → signB s.data.toList[k] = true) := fun k hk h1 h2 => by
            by_cases hkt : k = t
            · subst hkt; rw [← hbt.out]; exact hsn
            · exact hsg.out k hk h1 (by omega)
          go_wp2_with (go_at_call 48; refine (sign_yes hsn _).mono ?_; rintro e w' ⟨rfl, rfl⟩)
          go_round
          case rel => exact ⟨t + 1, by omega, by omega, by go_num, hsg2⟩
          case measure => simp [intOf]; omega
        · have hsn2 : signB s[t] = false := by simpa using hsn
          clear hsn
          by_cases hta : t = a
          · subst hta
            have hhere : Hid (signB s[t] = false) := hsn2
            have hq : ((t : Int) == (t : Int)) = true := by simp
            go_wp2_with (go_at_call 48; refine (sign_no hhere.out _).mono ?_; rintro e w' ⟨rfl, rfl⟩)
            have hr : Hid (wordsR s.data.toList = ([], 2)) := words_here (l := s.data.toList) hP.out (by rw [← hsl.out]; omega) (.inr ⟨hlt3, by rw [← hbt.out]; exact hhere.out⟩)
            clear hhere
            go_wp2
            go_ret2
            exact ⟨.slice none 0 0, by rw [hr.out]; rfl, by rw [hr.out]; exact StrS.nil _ _ _ _, hb⟩
          · have hq : ((t : Int) == (a : Int)) = false := by simp; omega
            have hhere := hide hsn2
            clear hsn2
            by_cases h32 : s[t] = 32
            · have h32' : ((s[t].toNat : Int) != 32) = false := by rw [byte_sp]; simpa using h32
              have h32d : (((s.data[t]'hlt).toNat : Int) != 32) = false := h32'
              have hP2 : Hid (segs 32 (s.data.toList.take (t + 1)) = (D ++ [(s.data.toList.drop a).take (t - a)], [])) := words_next hP.out hat1 hsg.out hlt3 (by rw [← hbt.out]; exact h32)
              have hD2 : Hid (∀ w ∈ D ++ [(s.data.toList.drop a).take (t - a)], wordB w = true) := fun w hw => by
                rcases List.mem_append.1 hw with h | h
                · exact hD.out w h
                · rw [List.mem_singleton] at h; subst h
                  exact word_of (by omega) (by omega) hsg.out
              clear h32
              go_wp2_with (first | (go_at_call 48; refine (sign_no hhere.out _).mono ?_; rintro e w' ⟨rfl, rfl⟩) | (at_builtin; refine wpList_append_flat (enc := encS) rfl (.tmp 23) (.tmp 28) 41 rfl w.heap.size 9 i0 _ 1 16 Tryd.underlying41 hi0 hz0 hz1 hz2 rfl (by decide) _ (fun b => b = wr.heap.size) (D.map mk) rfl (hown.alloc _) (fun _ => rfl) _ [s.extract a t] rfl (SlR.one (Blk.new _ _ _) rfl rfl rfl) encS_one (by simp [maxLen]; omega) (by simp; omega) (by have := hb.size; simp; omega) ?_; intro v1 W1 hown1 hgrow1 hat1))
              have hown2 : W1.ownsRow w.heap.size 9 1 v1 ((D ++ [(s.data.toList.drop a).take (t - a)]).map mk).length (((D ++ [(s.data.toList.drop a).take (t - a)]).map mk).map encS).flatten := by
                rw [List.map_append, List.map_cons, List.map_nil, ← hex.out]; exact hown1
              have hB := (hb.alloc hb.size (.cells #[.string (s.extract a t)] 9)).grown hgrow1 (by have := hb.size; simp; omega) (fun g hg => (hown.lt g hg).1)
              have hsig : Hid (∀ k (hk : k < s.data.toList.length), a ≤ k → k < t → signB s.data.toList[k] = true) := hsg
              clear hown1 hgrow1 hat1 hown hb
              go_roundw
              case rel => exact ⟨t + 1, D ++ [(s.data.toList.drop a).take (t - a)], by omega, by go_num, by simp; omega, hP2, hD2, hown2, hB⟩
              case measure => simp [intOf]; omega
            · have h32' : ((s[t].toNat : Int) != 32) = true := by rw [byte_sp]; simpa using h32
              have h32d : (((s.data[t]'hlt).toNat : Int) != 32) = true := h32'
              have hr : Hid (wordsR s.data.toList = ([], 2)) := words_not hP.out hat1 hsg.out hlt3 (by rw [← hbt.out]; exact hhere.out) (by rw [← hbt.out]; exact h32)
              clear h32
              go_wp2_with (first | (go_at_call 48; refine (sign_no hhere.out _).mono ?_; rintro e w' ⟨rfl, rfl⟩) | (at_builtin; refine wpList_append_flat (enc := encS) rfl (.tmp 23) (.tmp 28) 41 rfl w.heap.size 9 i0 _ 1 16 Tryd.underlying41 hi0 hz0 hz1 hz2 rfl (by decide) _ (fun b => b = wr.heap.size) (D.map mk) rfl (hown.alloc _) (fun _ => rfl) _ [s.extract a t] rfl (SlR.one (Blk.new _ _ _) rfl rfl rfl) encS_one (by simp [maxLen]; omega) (by simp; omega) (by have := hb.size; simp; omega) ?_; intro v1 W1 hown1 hgrow1 hat1))
              have hown2 : W1.ownsRow w.heap.size 9 1 v1 ((D ++ [(s.data.toList.drop a).take (t - a)]).map mk).length (((D ++ [(s.data.toList.drop a).take (t - a)]).map mk).map encS).flatten := by
                rw [List.map_append, List.map_cons, List.map_nil, ← hex.out]; exact hown1
              have hB := (hb.alloc hb.size (.cells #[.string (s.extract a t)] 9)).grown hgrow1 (by have := hb.size; simp; omega) (fun g hg => (hown.lt g hg).1)
              have hsig : Hid (∀ k (hk : k < s.data.toList.length), a ≤ k → k < t → signB s.data.toList[k] = true) := hsg
              clear hown1 hgrow1 hat1 hown hb
              go_ret2
              exact ⟨.slice none 0 0, by rw [hr.out]; rfl, by rw [hr.out]; exact StrS.nil _ _ _ _, hB⟩
      · have hts2 : t = s.size := by omega
        subst hts2
        have hd : decide ((s.size : Int) < (s.size : Int)) = false := by simp
        have hne : ((s.size : Int) == (s.size : Int)) = true := by simp
        by_cases hta : s.size = a
        · have hq : ((s.size : Int) == (a : Int)) = true := by simp; omega
          have hhere := hide hta
          clear hta
          have hr : Hid (wordsR s.data.toList = ([], 2)) := words_here (l := s.data.toList) hP.out (by rw [← hsl.out]; omega) (.inl (by rw [← hsl.out]; exact hhere.out.symm))
          clear hhere
          go_wp2
          go_ret2
          exact ⟨.slice none 0 0, by rw [hr.out]; rfl, by rw [hr.out]; exact StrS.nil _ _ _ _, hb⟩
        · have hq : ((s.size : Int) == (a : Int)) = false := by simp; omega
          have hre : Hid (wordsR s.data.toList = if 8 < D.length + 1 then ([], 2) else (D ++ [(s.data.toList.drop a).take (s.size - a)], 0)) := by
            have := words_end hP.out (by rw [← hsl.out]; omega) (fun k hk h1 => hsg.out k hk h1 (by rw [hsl.out]; exact hk)) hD.out
            rw [← hsl.out] at this
            exact this
          by_cases h8 : 8 < D.length + 1
          · have h8' : decide ((8 : Int) < ((D.map mk ++ [s.extract a s.size]).length : Int)) = true := by simp; omega
            go_wp2_with (at_builtin; refine wpList_append_flat (enc := encS) rfl (.tmp 23) (.tmp 28) 41 rfl w.heap.size 9 i0 _ 1 16 Tryd.underlying41 hi0 hz0 hz1 hz2 rfl (by decide) _ (fun b => b = wr.heap.size) (D.map mk) rfl (hown.alloc _) (fun _ => rfl) _ [s.extract a s.size] rfl (SlR.one (Blk.new _ _ _) rfl rfl rfl) encS_one (by simp [maxLen]; omega) (by simp; omega) (by have := hb.size; simp; omega) ?_; intro v1 W1 hown1 hgrow1 hat1; obtain ⟨A1, c1, rfl⟩ := own_slice hown1)
            have hown2 : W1.ownsRow w.heap.size 9 1 (.slice A1 (D.map mk ++ [s.extract a s.size]).length c1) ((D ++ [(s.data.toList.drop a).take (s.size - a)]).map mk).length (((D ++ [(s.data.toList.drop a).take (s.size - a)]).map mk).map encS).flatten := by
              rw [List.map_append, List.map_cons, List.map_nil, ← hex.out]; exact hown1
            have hB := (hb.alloc hb.size (.cells #[.string (s.extract a s.size)] 9)).grown hgrow1 (by have := hb.size; simp; omega) (fun g hg => (hown.lt g hg).1)
            have hsig : Hid (∀ k (hk : k < s.data.toList.length), a ≤ k → k < s.size → signB s.data.toList[k] = true) := hsg
            clear hown1 hgrow1 hat1 hown hb
            go_ret2
            exact ⟨.slice none 0 0, by rw [hre.out, if_pos h8]; rfl, by rw [hre.out, if_pos h8]; exact StrS.nil _ _ _ _, hB⟩
          · have h8' : decide ((8 : Int) < ((D.map mk ++ [s.extract a s.size]).length : Int)) = false := by simp; omega
            go_wp2_with (at_builtin; refine wpList_append_flat (enc := encS) rfl (.tmp 23) (.tmp 28) 41 rfl w.heap.size 9 i0 _ 1 16 Tryd.underlying41 hi0 hz0 hz1 hz2 rfl (by decide) _ (fun b => b = wr.heap.size) (D.map mk) rfl (hown.alloc _) (fun _ => rfl) _ [s.extract a s.size] rfl (SlR.one (Blk.new _ _ _) rfl rfl rfl) encS_one (by simp [maxLen]; omega) (by simp; omega) (by have := hb.size; simp; omega) ?_; intro v1 W1 hown1 hgrow1 hat1; obtain ⟨A1, c1, rfl⟩ := own_slice hown1)
            have hown2 : W1.ownsRow w.heap.size 9 1 (.slice A1 (D.map mk ++ [s.extract a s.size]).length c1) ((D ++ [(s.data.toList.drop a).take (s.size - a)]).map mk).length (((D ++ [(s.data.toList.drop a).take (s.size - a)]).map mk).map encS).flatten := by
              rw [List.map_append, List.map_cons, List.map_nil, ← hex.out]; exact hown1
            have hB := (hb.alloc hb.size (.cells #[.string (s.extract a s.size)] 9)).grown hgrow1 (by have := hb.size; simp; omega) (fun g hg => (hown.lt g hg).1)
            have hsig : Hid (∀ k (hk : k < s.data.toList.length), a ≤ k → k < s.size → signB s.data.toList[k] = true) := hsg
            clear hown1 hgrow1 hat1 hown hb
            go_ret2
            have hlen2 : ((D ++ [(s.data.toList.drop a).take (s.size - a)]).map mk).length = D.length + 1 := by simp
            have hlen3 : (D.map mk ++ [s.extract a s.size]).length = D.length + 1 := by simp
            rw [hlen2, hlen3] at hown2
            exact ⟨_, by rw [hre.out, if_neg h8]; rfl, by rw [hre.out, if_neg h8]; exact SlR.of_flat hown2 hlen2.symm (fun _ => rfl) (fun g h1 h2 => ⟨h1, h2⟩), hB⟩
end Go.Proofs.YtmhgbckjkmjeeaaDoor
