/-
  Walks: event.Show.
-/
import Derived.Laws.OwnMore
import Derived.Lib.Join
import Derived.Test.YtphcebgpllecjaaGreatDoorC20
import Derived.Test.YtphcebgpllecjaaGreatDoorC16
import Derived.Test.YtphcebgpllecjaaGreatDoorC01
import Derived.Test.YtphcebgpllecjaaGreatDoorC02
import Derived.Test.YtphcebgpllecjaaGreatDoorC09
import Derived.Test.YtphcebgpllecjaaGreatDoorC21
set_option linter.unusedVariables false
set_option linter.unusedSimpArgs false
namespace Go.Proofs.YtphcebgpllecjaaGreatDoor
open Go.RowKit Go.Inq
set_option maxHeartbeats 1000000
attribute [local go_sem ↓] Go.wp_at_zero Go.wp_at_succ

/-- The kinds' words are there. -/
def WordsG (w : World) : Prop := ∀ k : Nat, k < 5 → w.cell? ⟨0, k, none⟩ = some (.string (mk (wordK k)))
theorem WordsG.below {w w' : World} (h : WordsG w) (hb : Below w.heap.size w w') : WordsG w' := fun k hk =>
  (hb.cell (p := ⟨0, k, none⟩) (World.block_lt_of_cell? w _ (h k hk))).trans (h k hk)
/-- What the program's own variables hold. -/
structure Env (w : World) : Prop where
  glob : Glob w
  tab : Tab w
  words : WordsG w
theorem Env.below {w w' : World} (h : Env w) (hb : Below w.heap.size w w') : Env w' := ⟨h.glob.below hb, h.tab.below hb, h.words.below hb⟩

theorem join_two (a b : List UInt8) : Lib.join [a, b] [32] = a ++ 32 :: b := by simp [Lib.join, List.intercalate]
theorem join_four (a b c d : List UInt8) : Lib.join [a, b, c, d] [32] = a ++ 32 :: b ++ (32 :: c ++ 32 :: d) := by simp [Lib.join, List.intercalate]
theorem sjoin_any {w : World} {K : Nat → Prop} {A : Option Addr} {n c : Nat} {l : List ByteArray} (h : StrS w K (.slice A n c) l) (hK : ∀ b, K b → b < w.heap.size) (h0 : 0 < l.length) (hl : l.length ≤ 1000)
    (hlen : (Lib.join (l.map (·.data.toList)) [32]).length ≤ 1000000) :
    Calls Tryz.prog 68 #[.slice A n c, .string { data := #[32] }] w fun e w' => e = .returned (.string (mk (Lib.join (l.map (·.data.toList)) [32]))) ∧ Below w.heap.size w w' := by
  obtain ⟨A', c', hv, hc'⟩ := SlR.len h
  injection hv with h1 h2 h3
  subst h1 h2 h3
  obtain ⟨b, off, rfl, hb, -⟩ := StrS.at_ h h0
  exact Tryz.strings_Join b off c l { data := #[32] } w (fun j x hx => by
    obtain ⟨hj, rfl⟩ := List.getElem?_eq_some_iff.1 hx
    exact (StrS.cells h hj).2) (hK b hb) (by omega) hc' (by
      rw [show (({ data := #[32] } : ByteArray)).data.toList = [32] from rfl]
      omega)
theorem infoI : (Tryz.prog.info? 3).map (fun i => (i.zero, i.size, i.bytes)) = some (some (.int .i64 0), 1, 8) := by kernel_rfl

set_option maxRecDepth 100000 in
theorem eshow_any (e : Ev) (w : World) (henv : Env w) : Calls Tryz.prog 44 #[.agg #[.int .i64 e.kind, .int .i64 e.sess, .int .i64 e.key, .int .i64 e.val]] w fun x w' => x = .returned (.tuple #[.string (mk (showR e).1), .int .i64 (showR e).2]) ∧ Below w.heap.size w w' := by
  have hr := right_any e
  by_cases h : e.right = true
  · obtain ⟨⟨k, hk, ek⟩, ⟨s, hs, es⟩, hc⟩ := right_facts h
    obtain ⟨kind, sess, key, val⟩ := e
    simp only at ek es
    subst ek es
    rw [h] at hr
    have hA : Below w.heap.size w (w.alloc (.cells #[.int .i64 k, .int .i64 s, .int .i64 key, .int .i64 val] 56)) := (Below.refl _ _).alloc (Nat.le_refl _) _
    have kA : Blk (w.alloc (.cells #[.int .i64 k, .int .i64 s, .int .i64 key, .int .i64 val] 56)) w.heap.size 56 _ := Blk.new _ _ _
    rcases hc with ⟨hi, ⟨y, hy, ey⟩, v, hv, ev⟩ | ⟨hi, ey, ev⟩
    · have hit := item_any (k : Int)
      rw [hi] at hit
      subst ey ev
      obtain ⟨ii, hii, hiz0, hiz1, hiz2⟩ := info_parts infoI
      obtain ⟨i0, hi0, hz0, hz1, hz2⟩ := info_parts infoS
      have hy2 : (y : Int) ≤ 2147483647 := by omega
      have hS2 : ∀ W : World, IntS (W.alloc (.cells #[.int .i64 y, .int .i64 v] 3)) (fun b => b = W.heap.size) (.slice (some ⟨W.heap.size, 0, none⟩) 2 2) [(y : Int), (v : Int)] := fun W => IntS.of_blk (l := [(y : Int), (v : Int)]) (Blk.new _ _ _) rfl
      have hO1 : ∀ W : World, (W.alloc (.cells #[.int .i64 s] 3)).ownsRow W.heap.size 3 1 (.slice (some ⟨W.heap.size, 0, none⟩) 1 1) [(s : Int)].length (([(s : Int)].map encI).flatten) := fun W => World.ownsRow_lit W #[.int .i64 s] 1 (Nat.le_refl _) (by decide) rfl
      go_enter Tryz.func44, Tryz.ntmps44
      go_wp2_with (go_at_call 31; refine (hr _).mono ?_; rintro e w1 ⟨rfl, hb⟩; have kB := kA.below hb kA.lt; have c0 := kB.cell 0; have c1 := kB.cell 1; have c2 := kB.cell 2; have c3 := kB.cell 3; simp at c0 c1 c2 c3; have hB1 := hA.trans (hb.mono hA.size); have hw1 := kB.lt; clear hb)
      have hO := hO1 w1
      have hW2 : Below w1.heap.size w1 (w1.alloc (.cells #[.int .i64 s] 3)) := (Below.refl _ _).alloc (Nat.le_refl _) _
      replace hW2 := hide hW2
      have hs2 : (w1.alloc (.cells #[.int .i64 s] 3)).heap.size = w1.heap.size + 1 := by simp
      generalize w1.alloc (.cells #[.int .i64 s] 3) = W2 at *
      replace hs2 := hide hs2
      generalize Value.slice (some ⟨w1.heap.size, 0, none⟩) 1 1 = v0 at *
      have kC := kB.below hW2.out kB.lt
      have d0 := kC.cell 0
      have d2 := kC.cell 2
      have d3 := kC.cell 3
      simp at d0 d2 d3
      clear c0 c1 c2 c3 hO1
      go_fit (hit W2)
      rintro e w2 ⟨rfl, rfl⟩
      go_wp2_with (at_builtin; refine wpList_append_flat (enc := encI) rfl (.tmp 19) (.tmp 24) 35 rfl w1.heap.size 3 ii _ 1 8 Tryz.underlying35 hii hiz0 hiz1 hiz2 rfl (by decide) v0 (fun b => b = W2.heap.size) [(s : Int)] rfl (hO.alloc _) (fun _ => rfl) (.slice (some ⟨W2.heap.size, 0, none⟩) 2 2) [(y : Int), (v : Int)] rfl (hS2 W2) encI_one (by simp [maxLen]) (by simp) (by have := hs2.out; simp; omega) ?_; intro v1 W1 hown1 hgrow1 hat1; obtain ⟨A1, cp1, rfl⟩ := own_slice hown1; have d1 : W1.cell? ⟨w.heap.size, 0, none⟩ = some (.int .i64 k) := (hgrow1.cell_far ⟨w.heap.size, 0, none⟩ (by have := hs2.out; simp; omega) (fun e => by have := (hO.lt _ e.symm).1; simp at this; omega)).trans (by simp [d0, World.cell?_alloc_some]); have hBW := (((hB1.trans (hW2.out.mono hB1.size)).alloc (by have := hs2.out; omega) (.cells #[.int .i64 y, .int .i64 v] 3)).grown hgrow1 (by have := hs2.out; simp; omega) (fun g hg => by have := (hO.lt g hg).1; omega)); have gw := (henv.below hBW).words k hk; have hI := SlR.of_flat (K := fun b => b < W1.heap.size) hown1 rfl (fun _ => rfl) (fun g _ h2 => h2); clear hgrow1 hat1 hown1)
      have hNs := hide (show ∀ n ∈ [(s : Nat), y, v], n ≤ 2147483647 by intro n hn; simp at hn; rcases hn with rfl | rfl | rfl <;> omega)
      have hI2 : IntS W1 (fun b => b < W1.heap.size) (.slice A1 3 cp1) ([s, y, v].map fun n : Nat => (n : Int)) := hI
      clear hI hO hS2 hW2 hs2 kB kC kA hA hB1 d0 d2 d3
      obtain ⟨b1, off1, rfl, hb1, -⟩ := IntS.at_ hI2 (i := 0) (by simp)
      have hIc := hide (show ∀ (W : World) (hW : Below W1.heap.size W1 W) (i n : Nat) (hi : [s, y, v][i]? = some n), W.cell? ⟨b1, off1 + i, none⟩ = some (.int .i64 n) from fun W hW i n hin => by
        obtain ⟨hil, hie⟩ := List.getElem?_eq_some_iff.1 hin
        have := (IntS.cells hI2 (i := i) (by rw [List.length_map]; exact hil)).2
        rw [List.getElem_map, hie] at this
        exact (hW.cell (p := ⟨b1, off1 + i, none⟩) hb1).trans this)
      clear hI2
      have hsh : Hid (showR { kind := k, sess := s, key := y, val := v } = (Lib.join (wordK k :: [s, y, v].map numR) [32], 0)) := by
        unfold Hid showR
        rw [if_neg (by rw [h]; simp)]
        dsimp only
        rw [hi, if_pos rfl]
        simp only [Int.toNat_natCast, List.map_cons, List.map_nil, join_four]
      have hjl : Hid ((Lib.join (wordK k :: [s, y, v].map numR) [32]).length ≤ 1000) := by
        have l0 := word_len k
        have l1 := numR_ten (n := s) (by omega)
        have l2 := numR_ten (n := y) (by omega)
        have l3 := numR_ten (n := v) hv
        unfold Hid
        simp only [List.map_cons, List.map_nil, join_four, List.length_append, List.length_cons]
        omega
      generalize hns : [s, y, v] = ns at *
      have hnl : ns.length = 3 := by rw [← hns]; rfl
      replace hnl := hide hnl
      replace hns := hide hns
      go_loopw [5, 7, 8, 9, 33] (fun s5 _ _ _ s33 wr => ∃ i : Nat, i ≤ 3 ∧ s33 = .int .i64 i ∧ wr.ownsRow W1.heap.size 9 1 s5 ((wordK k :: (ns.take i).map numR).map mk).length (((wordK k :: (ns.take i).map numR).map mk).map encS).flatten ∧ Below W1.heap.size W1 wr) (fun _ _ _ _ s33 _ => 3 - (intOf s33).toNat)
      case atStart => exact ⟨0, by omega, by go_num, World.ownsRow_lit W1 #[.string (mk (wordK k))] 1 (Nat.le_refl _) (by decide) rfl, (Below.refl _ _).alloc (Nat.le_refl _) _⟩
      case round =>
        obtain ⟨i, hi3, rfl, hown, hbr⟩ := hrel
        have hi1 : (0 : Int) ≤ (i : Int) := Int.natCast_nonneg _
        by_cases hlt : i < 3
        · have hi2 : (i : Int) < 3 := by omega
          have hx : i < ns.length := by rw [hnl.out]; exact hlt
          obtain ⟨nx, hnx⟩ : ∃ nx, ns[i]? = some nx := ⟨_, List.getElem?_eq_getElem hx⟩
          have g0 := hIc.out wr hbr i nx hnx
          have hnm := hNs.out nx (List.mem_of_getElem? hnx)
          have hsn := nshow_any (nx : Int) wr ((henv.below (hBW.trans (hbr.mono hBW.size))).tab)
          have hshn : showN (nx : Int) = (numR nx, 0) := by unfold showN; rw [if_pos (by omega)]; rfl
          rw [hshn] at hsn
          have htk : Hid ((wordK k :: (ns.take (i + 1)).map numR).map mk = (wordK k :: (ns.take i).map numR).map mk ++ [mk (numR nx)]) := by
            unfold Hid
            rw [List.take_add_one, hnx]
            simp
          have hlen : ((wordK k :: (ns.take i).map numR).map mk).length ≤ 4 := by
            have := List.length_take_le i ns
            simp
            omega
          clear hshn hnx hx
          generalize (wordK k :: (ns.take i).map numR).map mk = L at *
          go_wp2_with (first | (at_builtin; refine wpList_append_flat (enc := encS) rfl (.tmp 42) (.tmp 44) 68 rfl W1.heap.size 9 i0 _ 1 16 Tryz.underlying68 hi0 hz0 hz1 hz2 rfl (by decide) _ (fun b => b = w5.heap.size) L rfl (hown5.alloc _) (fun _ => rfl) _ [mk (numR nx)] rfl (SlR.one (Blk.new _ _ _) rfl rfl rfl) encS_one (by simp [maxLen]; omega) (by simp; omega) (by have := hb5.size; simp; omega) ?_; intro v6 W6 hown6 hgrow6 hat6) | (go_at_call 67; refine hsn.mono ?_; rintro e w5 ⟨rfl, hb0⟩; have hown5 := own_below hown hb0 (Nat.le_refl _); have hb5 := hbr.trans (hb0.mono hbr.size); clear hb0))
          go_roundw
          case rel =>
            refine ⟨i + 1, by omega, by go_num, ?_, (hb5.alloc hb5.size _).grown hgrow6 (by have := hb5.size; simp; omega) (fun g hg => (hown5.lt g hg).1)⟩
            rw [htk.out]; exact hown6
          case measure => simp [intOf]; omega
        · have : i = 3 := by omega
          subst this
          have htk : ns.take 3 = ns := List.take_of_length_le (by rw [hnl.out]; exact Nat.le_refl _)
          rw [htk] at hown
          have hst : StrS wr (fun b => b < wr.heap.size) _ ((wordK k :: ns.map numR).map mk) := SlR.of_flat hown rfl (fun _ => rfl) (fun g _ h2 => h2)
          obtain ⟨A5, cp5, rfl⟩ := StrS.form hst
          have hbk : ((wordK k :: ns.map numR).map mk).map (·.data.toList) = wordK k :: ns.map numR := by
            rw [List.map_map]
            exact (List.map_congr_left (fun x _ => mk_bytes x)).trans (List.map_id _)
          have hj := sjoin_any hst (fun _ h => h) (by simp) (by rw [List.length_map, List.length_cons, List.length_map, hnl.out]; decide) (by rw [hbk]; have := hjl.out; omega)
          rw [hbk] at hj
          have hB9 := hBW.trans (hbr.mono hBW.size)
          clear hbk hst hown htk hbr
          generalize ((wordK k :: ns.map numR).map mk).length = nL at *
          go_wp2_with (go_at_call 68; refine hj.mono ?_; rintro e w7 ⟨rfl, hb7⟩)
          go_ret2
          exact ⟨by rw [hsh.out]; rfl, hB9.trans (hb7.mono hB9.size)⟩
    · have hit := item_any (k : Int)
      rw [hi] at hit
      subst ey ev
      obtain ⟨i0, hi0, hz0, hz1, hz2⟩ := info_parts infoS
      have hS1 : ∀ W : World, IntS (W.alloc (.cells #[.int .i64 s] 3)) (fun b => b < W.heap.size + 1) (.slice (some ⟨W.heap.size, 0, none⟩) 1 1) [(s : Int)] := fun W => IntS.of_blk (l := [(s : Int)]) (Blk.new _ _ _) (Nat.lt_succ_self _)
      go_enter Tryz.func44, Tryz.ntmps44
      go_wp2_with (go_at_call 31; refine (hr _).mono ?_; rintro e w1 ⟨rfl, hb⟩; have kB := kA.below hb kA.lt; have c0 := kB.cell 0; have c1 := kB.cell 1; have c2 := kB.cell 2; have c3 := kB.cell 3; simp at c0 c1 c2 c3; have hB1 := hA.trans (hb.mono hA.size); have hw1 := kB.lt; clear hb)
      have hI := hS1 w1
      have hBW : Below w.heap.size w (w1.alloc (.cells #[.int .i64 s] 3)) := hB1.alloc (Nat.le_of_lt hw1) _
      have kC := kB.below ((Below.refl w1.heap.size w1).alloc (Nat.le_refl _) (.cells #[.int .i64 s] 3)) kB.lt
      have hs2 : (w1.alloc (.cells #[.int .i64 s] 3)).heap.size = w1.heap.size + 1 := by simp
      rw [← hs2] at hI
      clear hs2
      generalize w1.alloc (.cells #[.int .i64 s] 3) = W1 at *
      generalize Value.slice (some ⟨w1.heap.size, 0, none⟩) 1 1 = v0 at *
      have d0 := kC.cell 0
      simp at d0
      have gw := (henv.below hBW).words k hk
      clear c0 c1 c2 c3 hS1
      obtain ⟨A1, cp1, rfl⟩ := IntS.form hI
      go_fit (hit W1)
      rintro e w2 ⟨rfl, rfl⟩
      go_wp2
      have hNs := hide (show ∀ n ∈ [(s : Nat)], n ≤ 2147483647 by intro n hn; simp at hn; omega)
      have hI2 : IntS W1 (fun b => b < W1.heap.size) (.slice A1 1 cp1) ([s].map fun n : Nat => (n : Int)) := hI
      clear hI kB kC kA hA hB1
      obtain ⟨b1, off1, rfl, hb1, -⟩ := IntS.at_ hI2 (i := 0) (by simp)
      have hIc := hide (show ∀ (W : World) (hW : Below W1.heap.size W1 W) (i n : Nat) (hi : [s][i]? = some n), W.cell? ⟨b1, off1 + i, none⟩ = some (.int .i64 n) from fun W hW i n hin => by
        obtain ⟨hil, hie⟩ := List.getElem?_eq_some_iff.1 hin
        have := (IntS.cells hI2 (i := i) (by rw [List.length_map]; exact hil)).2
        rw [List.getElem_map, hie] at this
        exact (hW.cell (p := ⟨b1, off1 + i, none⟩) hb1).trans this)
      clear hI2
      have hsh : Hid (showR { kind := k, sess := s, key := 0, val := 0 } = (Lib.join (wordK k :: [s].map numR) [32], 0)) := by
        unfold Hid showR
        rw [if_neg (by rw [h]; simp)]
        dsimp only
        rw [hi, if_neg (by simp)]
        simp only [Int.toNat_natCast, List.map_cons, List.map_nil, join_two, List.append_nil]
      have hjl : Hid ((Lib.join (wordK k :: [s].map numR) [32]).length ≤ 1000) := by
        have l0 := word_len k
        have l1 := numR_ten (n := s) (by omega)
        unfold Hid
        simp only [List.map_cons, List.map_nil, join_two, List.length_append, List.length_cons]
        omega
      generalize hns : [s] = ns at *
      have hnl : ns.length = 1 := by rw [← hns]; rfl
      replace hnl := hide hnl
      replace hns := hide hns
      go_loopw [5, 7, 8, 9, 33] (fun s5 _ _ _ s33 wr => ∃ i : Nat, i ≤ 1 ∧ s33 = .int .i64 i ∧ wr.ownsRow W1.heap.size 9 1 s5 ((wordK k :: (ns.take i).map numR).map mk).length (((wordK k :: (ns.take i).map numR).map mk).map encS).flatten ∧ Below W1.heap.size W1 wr) (fun _ _ _ _ s33 _ => 1 - (intOf s33).toNat)
      case atStart => exact ⟨0, by omega, by go_num, World.ownsRow_lit W1 #[.string (mk (wordK k))] 1 (Nat.le_refl _) (by decide) rfl, (Below.refl _ _).alloc (Nat.le_refl _) _⟩
      case round =>
        obtain ⟨i, hi3, rfl, hown, hbr⟩ := hrel
        have hi1 : (0 : Int) ≤ (i : Int) := Int.natCast_nonneg _
        by_cases hlt : i < 1
        · have hi2 : (i : Int) < 1 := by omega
          have hx : i < ns.length := by rw [hnl.out]; exact hlt
          obtain ⟨nx, hnx⟩ : ∃ nx, ns[i]? = some nx := ⟨_, List.getElem?_eq_getElem hx⟩
          have g0 := hIc.out wr hbr i nx hnx
          have hnm := hNs.out nx (List.mem_of_getElem? hnx)
          have hsn := nshow_any (nx : Int) wr ((henv.below (hBW.trans (hbr.mono hBW.size))).tab)
          have hshn : showN (nx : Int) = (numR nx, 0) := by unfold showN; rw [if_pos (by omega)]; rfl
          rw [hshn] at hsn
          have htk : Hid ((wordK k :: (ns.take (i + 1)).map numR).map mk = (wordK k :: (ns.take i).map numR).map mk ++ [mk (numR nx)]) := by
            unfold Hid
            rw [List.take_add_one, hnx]
            simp
          have hlen : ((wordK k :: (ns.take i).map numR).map mk).length ≤ 4 := by
            have := List.length_take_le i ns
            simp
            omega
          clear hshn hnx hx
          generalize (wordK k :: (ns.take i).map numR).map mk = L at *
          go_wp2_with (first | (at_builtin; refine wpList_append_flat (enc := encS) rfl (.tmp 42) (.tmp 44) 68 rfl W1.heap.size 9 i0 _ 1 16 Tryz.underlying68 hi0 hz0 hz1 hz2 rfl (by decide) _ (fun b => b = w5.heap.size) L rfl (hown5.alloc _) (fun _ => rfl) _ [mk (numR nx)] rfl (SlR.one (Blk.new _ _ _) rfl rfl rfl) encS_one (by simp [maxLen]; omega) (by simp; omega) (by have := hb5.size; simp; omega) ?_; intro v6 W6 hown6 hgrow6 hat6) | (go_at_call 67; refine hsn.mono ?_; rintro e w5 ⟨rfl, hb0⟩; have hown5 := own_below hown hb0 (Nat.le_refl _); have hb5 := hbr.trans (hb0.mono hbr.size); clear hb0))
          go_roundw
          case rel =>
            refine ⟨i + 1, by omega, by go_num, ?_, (hb5.alloc hb5.size _).grown hgrow6 (by have := hb5.size; simp; omega) (fun g hg => (hown5.lt g hg).1)⟩
            rw [htk.out]; exact hown6
          case measure => simp [intOf]; omega
        · have : i = 1 := by omega
          subst this
          have htk : ns.take 1 = ns := List.take_of_length_le (by rw [hnl.out]; exact Nat.le_refl _)
          rw [htk] at hown
          have hst : StrS wr (fun b => b < wr.heap.size) _ ((wordK k :: ns.map numR).map mk) := SlR.of_flat hown rfl (fun _ => rfl) (fun g _ h2 => h2)
          obtain ⟨A5, cp5, rfl⟩ := StrS.form hst
          have hbk : ((wordK k :: ns.map numR).map mk).map (·.data.toList) = wordK k :: ns.map numR := by
            rw [List.map_map]
            exact (List.map_congr_left (fun x _ => mk_bytes x)).trans (List.map_id _)
          have hj := sjoin_any hst (fun _ h => h) (by simp) (by rw [List.length_map, List.length_cons, List.length_map, hnl.out]; decide) (by rw [hbk]; have := hjl.out; omega)
          rw [hbk] at hj
          have hB9 := hBW.trans (hbr.mono hBW.size)
          clear hbk hst hown htk hbr
          generalize ((wordK k :: ns.map numR).map mk).length = nL at *
          go_wp2_with (go_at_call 68; refine hj.mono ?_; rintro e w7 ⟨rfl, hb7⟩)
          go_ret2
          exact ⟨by rw [hsh.out]; rfl, hB9.trans (hb7.mono hB9.size)⟩
  · have h' : e.right = false := by simpa using h
    have hsh : Hid (showR e = ([], 1)) := by unfold Hid showR; rw [if_pos h']
    rw [h'] at hr
    obtain ⟨kind, sess, key, val⟩ := e
    clear h h'
    go_enter Tryz.func44, Tryz.ntmps44
    go_wp2_with (go_at_call 31; refine (hr _).mono ?_; rintro e w1 ⟨rfl, hb⟩)
    go_ret2
    have hA : Below w.heap.size w (w.alloc (.cells #[.int .i64 kind, .int .i64 sess, .int .i64 key, .int .i64 val] 56)) := (Below.refl _ _).alloc (Nat.le_refl _) _
    exact ⟨by rw [hsh.out]; rfl, hA.trans (hb.mono hA.size)⟩
end Go.Proofs.YtphcebgpllecjaaGreatDoor
