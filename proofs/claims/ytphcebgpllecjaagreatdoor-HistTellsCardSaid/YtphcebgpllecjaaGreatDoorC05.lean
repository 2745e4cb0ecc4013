/-
  Walks: slices.Insert at items, one element.
-/
import Derived.Test.YtphcebgpllecjaaGreatDoorC03
import Derived.Test.YtphcebgpllecjaaGreatDoorC04
set_option linter.unusedVariables false
set_option linter.unusedSimpArgs false
namespace Go.Proofs.YtphcebgpllecjaaGreatDoor
open Go.RowKit Go.Inq
set_option maxHeartbeats 2000000
attribute [local go_sem ↓] Go.wp_at_zero Go.wp_at_succ
theorem pinfo : (Tryz.prog.info? 91).map (fun i => (i.zero, i.size, i.bytes)) = some (some (.agg #[.int .i64 0, .int .i64 0]), 2, 16) := by kernel_rfl

/-- What an insertion of an item at place i leaves. -/
def InsOut (base : Nat) (v : Value) (n i : Nat) (xs : List Value) (x : It) (w : World) (e : Ending) (w' : World) : Prop :=
  ∃ g cap, e = .returned (.slice (some ⟨g, 0, none⟩) (n + 1) cap) ∧ w'.ownsRow base 91 2 (.slice (some ⟨g, 0, none⟩) (n + 1) cap) (n + 1) (xs.take (i * 2) ++ x.enc ++ xs.drop (i * 2)) ∧
    w.grownBy w' v.ownBlock ∧ (v.ownBlock = some g ∨ w.heap.size ≤ g)

set_option maxRecDepth 100000 in
theorem insert_end (base : Nat) (v : Value) (n : Nat) (xs : List Value) (x : It) (vb : Nat) (w : World) (hown : w.ownsRow base 91 2 v n xs) (hn : n ≤ 1000000) (hbase : base ≤ w.heap.size) (hvb : Blk w vb 91 #[.int .i64 x.a, .int .i64 x.b]) :
    Calls Tryz.prog 82 #[v, .int .i64 n, .slice (some ⟨vb, 0, none⟩) 1 1] w (InsOut base v n n xs x w) := by
  obtain ⟨i0, hi0, hz0, hz1, hz2⟩ := info_parts pinfo
  obtain ⟨A, c, rfl⟩ := own_slice hown
  have hnc : n ≤ c := by
    rcases hown.2 with ⟨h1, h2⟩ | ⟨g, cap, cur, h1, _, _, h2, _⟩
    · omega
    · injection h1 with _ _ h1; omega
  have hxl := hide hown.1
  have v0 := hvb.cell 0
  have v1 := hvb.cell 1
  simp at v0 v1
  have HF : ∀ gg cap w1, w1.ownsRow base 91 2 (.slice (some ⟨gg, 0, none⟩) (n + 1) cap) (n + 1) (xs ++ [.int .i64 x.a, .int .i64 x.b]) → w.grownBy w1 (Value.ownBlock (.slice A n c)) → (Value.ownBlock (.slice A n c) = some gg ∨ gg = w.heap.size) →
      InsOut base (.slice A n c) n n xs x w (.returned (.slice (some ⟨gg, 0, none⟩) (n + 1) cap)) w1 := fun gg cap w1 hown1 hgrow hat =>
    ⟨gg, cap, rfl, by rw [List.take_of_length_le (by rw [hxl.out]; exact Nat.le_refl _), List.drop_eq_nil_of_le (by rw [hxl.out]; exact Nat.le_refl _), List.append_nil]; exact hown1, hgrow, by rcases hat with h | h; exact .inl h; exact .inr (by omega)⟩
  have HF := hide HF
  go_enter Tryz.func82, Tryz.ntmps82
  go_wp2_with (at_builtin; refine wpList_append_lies _ (by rfl) _ _ _ (by rfl) base 91 i0 _ 2 16 Tryz.underlying84 hi0 hz0 hz1 hz2 (by rfl) (by omega) _ _ _ (by rfl) hown ⟨vb, 0, none⟩ 1 1 [.int .i64 x.a, .int .i64 x.b] (by rfl) (by rfl) (World.news_of_block hvb) (by simp [Value.oneCell']) (by omega) (by simp [maxLen]; omega) (by omega) (by omega) w.heap.size rfl ?_; intro gg cap w1 hown1 hgrow hat hlt)
  all_goals go_ret
  all_goals first | exact HF.out _ _ _ hown1 hgrow hat | (have hcc : c = n := by assumption
                                                          subst hcc
                                                          exact HF.out _ _ _ hown1 hgrow hat)

set_option maxRecDepth 100000 in
theorem insert_room (base g n i c : Nat) (xs : List Value) (x : It) (vb : Nat) (w : World) (hown : w.ownsRow base 91 2 (.slice (some ⟨g, 0, none⟩) n c) n xs) (hi : i < n) (hc : n + 1 ≤ c) (hn : n ≤ 1000000) (hvb : Blk w vb 91 #[.int .i64 x.a, .int .i64 x.b]) (hg : vb ≠ g) (h1c : ∀ v ∈ xs, v.oneCell' = true) :
    Calls Tryz.prog 82 #[.slice (some ⟨g, 0, none⟩) n c, .int .i64 i, .slice (some ⟨vb, 0, none⟩) 1 1] w (InsOut base (.slice (some ⟨g, 0, none⟩) n c) n i xs x w) := by
  obtain ⟨i0, hi0, hz0, hz1, hz2⟩ := info_parts pinfo
  have hsz : (Tryz.prog.info? 91).map (·.size) = some 2 := by rw [hi0]; simp [hz1]
  obtain ⟨hxl, hrest⟩ := hown
  obtain ⟨cur, hbg, hgc, hcm, hcs, htk⟩ : ∃ cur, base ≤ g ∧ w.heap[g]? = some (.cells cur 91 (0, 0)) ∧ c ≤ maxLen ∧ cur.size = c * 2 ∧ cur.toList.take (n * 2) = xs := by
    rcases hrest with ⟨h, _⟩ | ⟨g', c', cur, h, h1, h2, _, h3, h4, h5⟩
    · cases h
    · injection h with h h' h''
      injection h with h
      injection h with h
      subst h h''
      exact ⟨cur, h1, h2, h3, h4, h5⟩
  clear hrest
  have hcm' : c ≤ 9223372036854775807 := hcm
  obtain ⟨R1, hR1⟩ : ∃ R1, R1 = cur.toList.take ((i + 1) * 2) ++ xs.drop (i * 2) ++ cur.toList.drop ((i + 1) * 2 + (xs.drop (i * 2)).length) := ⟨_, rfl⟩
  obtain ⟨R2, hR2⟩ : ∃ R2, R2 = R1.take (i * 2) ++ x.enc ++ R1.drop (i * 2 + x.enc.length) := ⟨_, rfl⟩
  obtain ⟨hl1, hl2, hl3⟩ := ins_room (l := cur.toList) (x := x.enc) (i := i) (n := n) (s := 2) (by omega) rfl (by rw [Array.length_toList, hcs]; omega) R1 R2 (by rw [htk]; exact hR1) hR2
  rw [htk] at hl3
  have hl1 : R1.length = cur.size := by simpa using hl1
  have hl2 : R2.length = cur.size := by simpa using hl2
  have hxc : ∀ j v, xs[j]? = some v → w.cell? ⟨g, j, none⟩ = some v := fun j v hj => by
    rw [cell_of_row w g j cur _ _ hgc]
    rw [← htk, List.getElem?_take] at hj
    split at hj
    · simpa using hj
    · cases hj
  have hdl : (xs.drop (i * 2)).length = (n - i) * 2 := by rw [List.length_drop, hxl]; omega
  have hov : ∀ lb cb, (callFunc 95 #[.slice (some ⟨vb, 0, none⟩) 1 1, .slice (some ⟨g, (i + 1) * 2, none⟩) lb cb]).run Tryz.prog w = .ok (.value (.bool false)) w := fun lb cb => by
    rw [run_callFunc_extern Tryz.func95 (by kernel_rfl) (by kernel_rfl) (by kernel_rfl) (e := Extern.SlicesOverlaps.overlaps #[84, 84] #[4]) (by kernel_rfl),
      Lib.run_overlaps_apart w 84 4 91 Tryz.underlying84 2 (fun w => by simp [sizeOf, typeInfo, hi0, hz1]) ⟨vb, 0, none⟩ ⟨g, (i + 1) * 2, none⟩ 1 1 lb cb hg 91 91 2 (c * 2) (by unfold Blk at hvb; simp [World.shape?, hvb]) (by simp [World.shape?, hgc, hcs]) (by omega) (hvb.frozen 0) (hvb.frozen 2)]
    rfl
  have hcp1 : ∀ ty dc sc, (Builtin.copy_ #[84, 84] ty #[.slice (some ⟨g, (i + 1) * 2, none⟩) (n + 1 - (i + 1)) dc, .slice (some ⟨g, i * 2, none⟩) (n + 1 - i) sc]).run Tryz.prog w.drew = .ok (goInt (Nat.min (n + 1 - i) (n + 1 - (i + 1)))) (w.drew.setRow g R1.toArray) := fun ty dc sc => by
    rw [run_copyN w.drew _ _ ty 91 2 g ((i + 1) * 2) (n + 1 - (i + 1)) dc ⟨g, i * 2, none⟩ (n + 1 - i) sc cur 91 (xs.drop (i * 2)) Tryz.underlying84 hsz hgc (by rw [hdl]; simp only [Nat.min_def]; split <;> omega) (fun j v hj => by rw [Addr.add_lit]; rw [List.getElem?_drop] at hj; exact hxc _ _ hj) (by rw [hdl, hcs]; omega) (fun v hv => h1c v (List.mem_of_mem_drop hv)), ← hR1]
  have hcp2 : ∀ (W : World), W.heap = (w.setRow g R1.toArray).heap → ∀ ty dc, (Builtin.copy_ #[84, 84] ty #[.slice (some ⟨g, i * 2, none⟩) (n + 1 - i) dc, .slice (some ⟨vb, 0, none⟩) 1 1]).run Tryz.prog W = .ok (goInt (Nat.min 1 (n + 1 - i))) (W.setRow g R2.toArray) := fun W hW ty dc => by
    rw [run_copyN W _ _ ty 91 2 g (i * 2) (n + 1 - i) dc ⟨vb, 0, none⟩ 1 1 R1.toArray 91 x.enc Tryz.underlying84 hsz (by rw [hW]; exact setRow_heap w g cur _ _ _ hgc) (by simp [It.enc, Nat.min_def]; split <;> omega) (fun j v hj => by rw [Addr.add_lit, Nat.zero_add, World.cell?_of_block (w := w) (w' := W) (a := ⟨vb, j, none⟩) (by rw [hW, setRow_other _ _ _ _ hg]), hvb.cell]; simpa [It.enc] using hj) (by simp [It.enc]; omega) (by simp [It.enc, Value.oneCell'])]
    simp only [hR2]
  go_enter Tryz.func82, Tryz.ntmps82
  have hfin : ∀ W : World, W.heap = ((w.setRow g R1.toArray).setRow g R2.toArray).heap → W.os = w.os → W.tape = w.tape → W.output = w.output → InsOut base (.slice (some ⟨g, 0, none⟩) n c) n i xs x w (.returned (.slice (some ⟨g, 0, none⟩) (n + 1) c)) W := by
    intro W hW ho ht hp
    have hk := own_setRow (w := w.setRow g R1.toArray) (base := base) (size := 2) hbg (setRow_heap w g cur _ _ _ hgc) R2.toArray (n + 1) _ hc hcm (by simpa using hl2.trans hcs) hl3
    refine ⟨g, c, rfl, ⟨hk.1, ?_⟩, ⟨ho, ht, hp, by rw [hW]; simp, fun k hk hkg => ?_⟩, .inl rfl⟩
    · rcases hk.2 with h | ⟨a, b, d, h1, h2, h3, h4⟩
      · exact .inl h
      · exact .inr ⟨a, b, d, h1, h2, by rw [hW]; exact h3, h4⟩
    · have : k ≠ g := fun e => hkg (by rw [e]; rfl)
      rw [hW, setRow_other _ _ _ _ this, setRow_other _ _ _ _ this]
  have hfin := hide hfin
  clear hl1 hl2 hl3 hR1 hR2 hxc
  have hw1 : IntKind.i64.wrap ((i : Int) + 1) = (i : Int) + 1 := by rw [IntKind.wrap_i64] <;> omega
  have ht1 : ((i : Int) + 1).toNat = i + 1 := by omega
  have hb0 : (0 : Int) ≤ (i : Int) + 1 := by omega
  have hb1 : (i : Int) + 1 ≤ (n : Int) + 1 := by omega
  have hb2 : (i : Int) ≤ (n : Int) + 1 := by omega
  have hci1 : ¬ c = i + 1 := by omega
  have hcp3 := fun ty dc => hcp2 (w.drew.setRow g R1.toArray) rfl ty dc
  clear hcp2
  have hci : ¬ c = i := by omega
  go_wp2_with fail
  refine wp_region_plan [0, 1, 2, 3, 4, 5, 6, 7] [8] (by kernel_rfl) (by kernel_rfl) (fun _ _ d _ _ h => by cases d <;> exact h) ?_
  simp only [List.filterMap_cons, List.filterMap_nil, List.getElem?_cons_zero, List.getElem?_cons_succ]
  repeat still_step
  refine wpStill_nil ?_
  refine wpList_copy_go _ rfl _ _ 84 84 rfl (.slice (some ⟨g, (i + 1) * 2, none⟩) (n + 1 - (i + 1)) (c - (i + 1))) (.slice (some ⟨g, i * 2, none⟩) (n + 1 - i) (c - i)) (by simp [Act.eval, Act.put, List.getD]; try rfl) (by simp [Act.eval, Act.put, List.getD]; try rfl) (hcp1 _ _ _) ?_
  go_wp2
  go_ret
  exact hfin.out _ rfl rfl rfl rfl

set_option maxRecDepth 100000 in
theorem insert_grow (base g n i c : Nat) (xs : List Value) (x : It) (vb : Nat) (w : World) (hown : w.ownsRow base 91 2 (.slice (some ⟨g, 0, none⟩) n c) n xs) (hi : i < n) (hc : ¬ n + 1 ≤ c) (hn : n ≤ 1000000) (hbase : base ≤ w.heap.size) (hvb : Blk w vb 91 #[.int .i64 x.a, .int .i64 x.b]) (h1c : ∀ v ∈ xs, v.oneCell' = true) :
    Calls Tryz.prog 82 #[.slice (some ⟨g, 0, none⟩) n c, .int .i64 i, .slice (some ⟨vb, 0, none⟩) 1 1] w (InsOut base (.slice (some ⟨g, 0, none⟩) n c) n i xs x w) := by
  obtain ⟨i0, hi0, hz0, hz1, hz2⟩ := info_parts pinfo
  have hsz : (Tryz.prog.info? 91).map (·.size) = some 2 := by rw [hi0]; simp [hz1]
  obtain ⟨hxl, hrest⟩ := hown
  obtain ⟨cur, hbg, hgc, hcm, hcs, htk, hnc⟩ : ∃ cur, base ≤ g ∧ w.heap[g]? = some (.cells cur 91 (0, 0)) ∧ c ≤ maxLen ∧ cur.size = c * 2 ∧ cur.toList.take (n * 2) = xs ∧ n ≤ c := by
    rcases hrest with ⟨h, _⟩ | ⟨g', c', cur, h, h1, h2, h6, h3, h4, h5⟩
    · cases h
    · injection h with h h' h''
      injection h with h
      injection h with h
      subst h h''
      exact ⟨cur, h1, h2, h3, h4, h5, h6⟩
  clear hrest
  have hcm' : c ≤ 9223372036854775807 := hcm
  have hglt : g < w.heap.size := by
    rcases Nat.lt_or_ge g w.heap.size with hlt | hge
    · exact hlt
    · rw [Array.getElem?_eq_none hge] at hgc; cases hgc
  have hxc : ∀ j v, xs[j]? = some v → w.cell? ⟨g, j, none⟩ = some v := fun j v hj => by
    rw [cell_of_row w g j cur _ _ hgc]
    rw [← htk, List.getElem?_take] at hj
    split at hj
    · simpa using hj
    · cases hj
  have htl : (xs.take (i * 2)).length = i * 2 := by rw [List.length_take, hxl]; omega
  have hdl : (xs.drop (i * 2)).length = (n - i) * 2 := by rw [List.length_drop, hxl]; omega
  have hold : (Builtin.firstCells i0.size i (.slice (some ⟨g, 0, none⟩) i c)).run Tryz.prog w.drew = .ok (xs.take (i * 2)).toArray w.drew := by
    rw [hz1]
    exact run_firstCells_some w.drew 2 i ⟨g, 0, none⟩ i c (xs.take (i * 2)) htl (fun j v hj => by
      rw [Addr.add_lit, Nat.zero_add]
      rw [List.getElem?_take] at hj
      split at hj
      · exact hxc j v hj
      · cases hj)
  obtain ⟨G, hG⟩ : ∃ G, G = grownCap w (n + 1) c 91 := ⟨_, rfl⟩
  obtain ⟨ROW, hROW⟩ : ∃ ROW : Array Value, ROW = (xs.take (i * 2)).toArray ++ Builtin.zeroCells (Value.agg #[.int .i64 0, .int .i64 0]).cells (n + 1 - i) ++ Builtin.zeroCells (Value.agg #[.int .i64 0, .int .i64 0]).cells (G - (n + 1)) := ⟨_, rfl⟩
  have hkk : (n : Int) + 1 - (i : Int) = ((n + 1 - i : Nat) : Int) := by omega
  have hik : i + (n + 1 - i) = n + 1 := by omega
  have hrz : ∀ ty, (Builtin.append_ #[84, 3] ty #[.slice (some ⟨g, 0, none⟩) i c, .int .i64 ((n : Int) + 1 - (i : Int))]).run Tryz.prog w =
      .ok (.slice (some ⟨w.heap.size, 0, none⟩) (n + 1) G) (w.drew.alloc (.cells ROW 91)) := fun ty => by
    have h := Lib.run_append_grow_zeros w 84 3 ty 91 i0 _ .i64 .i64 Tryz.underlying84 Tryz.underlying3 hi0 hz0 (some ⟨g, 0, none⟩) i c (xs.take (i * 2)) hold (n + 1 - i) (by omega) (by rw [hz1]; omega) (by omega) (by omega) (by rw [hz2]; omega) (by rw [hz2, hik]; exact growslice_fits (by omega) (by omega))
    rw [hik, ← hG, ← hROW] at h
    rw [hkk]
    exact h
  have hGn : n + 1 ≤ G := by rw [hG]; exact grownCap_ge w _ _ _
  have hGm : G ≤ maxLen := by rw [hG]; exact grownCap_le_maxLen w (n + 1) c 91 (by unfold maxLen; omega)
  have hG63 : G ≤ 9223372036854775807 := hGm
  have hRs : ROW.size = G * 2 := by
    rw [hROW]
    simp only [Array.size_append, List.size_toArray, htl, Builtin.zeroCells, Array.size_map, Array.size_range, Value.cells]
    simp
    omega
  have hRt : ROW.toList.take (i * 2) = xs.take (i * 2) := by
    rw [hROW]
    simp only [Array.toList_append, List.append_assoc]
    rw [List.take_append_of_le_length (by simp [htl]), List.take_of_length_le (by simp [htl])]
  obtain ⟨R1, hR1⟩ : ∃ R1, R1 = ROW.toList.take (i * 2) ++ x.enc ++ ROW.toList.drop (i * 2 + x.enc.length) := ⟨_, rfl⟩
  obtain ⟨R2, hR2⟩ : ∃ R2, R2 = R1.take ((i + 1) * 2) ++ xs.drop (i * 2) ++ R1.drop ((i + 1) * 2 + (xs.drop (i * 2)).length) := ⟨_, rfl⟩
  obtain ⟨hl1, hl2, hl3⟩ := ins_grow (l := xs) (x := x.enc) (r := ROW.toList) (i := i) (n := n) (s := 2) (by omega) rfl hxl (by rw [Array.length_toList, hRs]; omega) hRt R1 R2 hR1 hR2
  have hl1 : R1.length = ROW.size := by simpa using hl1
  have hl2 : R2.length = ROW.size := by simpa using hl2
  have hrz : ∀ ty, (Builtin.append_ #[84, 3] ty #[.slice (some ⟨g, 0, none⟩) i c, .int .i64 ((n : Int) + 1 - (i : Int))]).run Tryz.prog w =
      .ok (.slice (some ⟨w.heap.size, 0, none⟩) (n + 1) G) ((w.alloc (.cells ROW 91)).drew) := hrz
  obtain ⟨W1, hW1⟩ : ∃ W1, W1 = (w.alloc (.cells ROW 91)).drew := ⟨_, rfl⟩
  have hnew : W1.heap[w.heap.size]? = some (.cells ROW 91 (0, 0)) := by rw [hW1]; exact heap_alloc_new w _
  have holdW : ∀ k, k < w.heap.size → W1.heap[k]? = w.heap[k]? := fun k hk => by rw [hW1]; exact Below.heap_alloc w _ k hk
  have hvlt := hvb.lt
  have hcpA : ∀ ty dc, (Builtin.copy_ #[84, 84] ty #[.slice (some ⟨w.heap.size, i * 2, none⟩) (n + 1 - i) dc, .slice (some ⟨vb, 0, none⟩) 1 1]).run Tryz.prog W1 = .ok (goInt (Nat.min 1 (n + 1 - i))) (W1.setRow w.heap.size R1.toArray) := fun ty dc => by
    rw [run_copyN W1 _ _ ty 91 2 w.heap.size (i * 2) (n + 1 - i) dc ⟨vb, 0, none⟩ 1 1 ROW 91 x.enc Tryz.underlying84 hsz hnew (by simp [It.enc, Nat.min_def]; split <;> omega) (fun j v hj => by rw [Addr.add_lit, Nat.zero_add, World.cell?_of_block (w := w) (w' := W1) (a := ⟨vb, j, none⟩) (holdW _ hvlt), hvb.cell]; simpa [It.enc] using hj) (by simp [It.enc, hRs]; omega) (by simp [It.enc, Value.oneCell'])]
    rw [hR1]
  have hcpB : ∀ (W : World), W.heap = (W1.setRow w.heap.size R1.toArray).heap → ∀ ty dc sc, (Builtin.copy_ #[84, 84] ty #[.slice (some ⟨w.heap.size, (i + 1) * 2, none⟩) (n + 1 - (i + 1)) dc, .slice (some ⟨g, i * 2, none⟩) (n - i) sc]).run Tryz.prog W = .ok (goInt (Nat.min (n - i) (n + 1 - (i + 1)))) (W.setRow w.heap.size R2.toArray) := fun W hW ty dc sc => by
    rw [run_copyN W _ _ ty 91 2 w.heap.size ((i + 1) * 2) (n + 1 - (i + 1)) dc ⟨g, i * 2, none⟩ (n - i) sc R1.toArray 91 (xs.drop (i * 2)) Tryz.underlying84 hsz (by rw [hW]; exact setRow_heap W1 _ _ _ _ _ hnew) (by rw [hdl]; simp only [Nat.min_def]; split <;> omega) (fun j v hj => by rw [Addr.add_lit, World.cell?_of_block (w := w) (w' := W) (a := ⟨g, i * 2 + j, none⟩) (by rw [hW, setRow_other _ _ _ _ (by simp; omega), holdW _ hglt])]; rw [List.getElem?_drop] at hj; exact hxc _ _ hj) (by rw [hdl]; simp [hl1, hRs]; omega) (fun v hv => h1c v (List.mem_of_mem_drop hv))]
    simp only [hR2]
  have hfin : ∀ W : World, W.heap = ((W1.setRow w.heap.size R1.toArray).setRow w.heap.size R2.toArray).heap → W.os = w.os → W.tape = w.tape → W.output = w.output → InsOut base (.slice (some ⟨g, 0, none⟩) n c) n i xs x w (.returned (.slice (some ⟨w.heap.size, 0, none⟩) (n + 1) G)) W := by
    intro W hW ho ht hp
    have hk := own_setRow (w := W1.setRow w.heap.size R1.toArray) (base := base) (size := 2) hbase (setRow_heap W1 _ _ _ _ _ hnew) R2.toArray (n + 1) _ hGn hGm (by simpa using hl2.trans hRs) hl3
    refine ⟨w.heap.size, G, rfl, ⟨hk.1, ?_⟩, ⟨ho, ht, hp, by rw [hW, hW1]; simp, fun k hk hkg => ?_⟩, .inr (Nat.le_refl _)⟩
    · rcases hk.2 with h | ⟨a, b, d, h1, h2, h3, h4⟩
      · exact .inl h
      · exact .inr ⟨a, b, d, h1, h2, by rw [hW]; exact h3, h4⟩
    · have : k ≠ w.heap.size := by omega
      rw [hW, setRow_other _ _ _ _ this, setRow_other _ _ _ _ this, holdW k hk]
  have hfin := hide hfin
  have hcpC := hcpB (W1.setRow w.heap.size R1.toArray).drew rfl
  clear hcpB
  subst hW1
  clear hl1 hl2 hl3 hR1 hR2 hxc hold hRt hRs hROW hnew holdW hik hkk hG
  have hw1 : IntKind.i64.wrap ((i : Int) + 1) = (i : Int) + 1 := by rw [IntKind.wrap_i64] <;> omega
  have ht1 : ((i : Int) + 1).toNat = i + 1 := by omega
  have hb0 : (0 : Int) ≤ (i : Int) + 1 := by omega
  have hb1 : (i : Int) + 1 ≤ (n : Int) + 1 := by omega
  have hb2 : (i : Int) ≤ (n : Int) + 1 := by omega
  have hb3 : (i : Int) ≤ (n : Int) := by omega
  have hci1 : ¬ G = i + 1 := by omega
  have hci2 : ¬ G = i := by omega
  have hci : ¬ c = i := by omega
  go_enter Tryz.func82, Tryz.ntmps82
  go_wp2_with (at_builtin; refine Lib.wpList_append_run _ rfl _ _ _ _ rfl _ _ rfl rfl _ _ (hrz _) ?_)
  refine wp_region_plan [0, 1, 2, 3, 4, 5, 6, 7] [8] (by kernel_rfl) (by kernel_rfl) (fun _ _ d _ _ h => by cases d <;> exact h) ?_
  simp only [List.filterMap_cons, List.filterMap_nil, List.getElem?_cons_zero, List.getElem?_cons_succ]
  repeat still_step
  refine wpStill_nil ?_
  refine wpList_copy_go _ rfl _ _ 84 84 rfl (.slice (some ⟨w.heap.size, (i + 1) * 2, none⟩) (n + 1 - (i + 1)) (G - (i + 1))) (.slice (some ⟨g, i * 2, none⟩) (n - i) (c - i)) (by simp [Act.eval, Act.put, List.getD]; try rfl) (by simp [Act.eval, Act.put, List.getD]; try rfl) (hcpC _ _ _) ?_
  go_wp2
  go_ret
  exact hfin.out _ rfl rfl rfl rfl
end Go.Proofs.YtphcebgpllecjaaGreatDoor
