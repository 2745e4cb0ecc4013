/-
  Walks: layer 6: a key's cell: where its item is, and how another one is put there.
-/
import Derived.Test.YtphcebgpllecjaaGreatDoorC05
import Derived.Test.YtphcebgpllecjaaGreatDoorC06
set_option linter.unusedVariables false
set_option linter.unusedSimpArgs false
namespace Go.Proofs.YtphcebgpllecjaaGreatDoor
open Go.RowKit Go.Inq
set_option maxHeartbeats 2000000
attribute [local go_sem ↓] Go.wp_at_zero Go.wp_at_succ

theorem enc_one (l : List It) : ∀ v ∈ (l.map It.enc).flatten, v.oneCell' = true := by
  intro v hv
  simp only [List.mem_flatten, List.mem_map] at hv
  obtain ⟨_, ⟨x, _, rfl⟩, hv⟩ := hv
  simp [It.enc] at hv
  rcases hv with rfl | rfl <;> rfl

theorem enc_take (l : List It) (i : Nat) : ((l.map It.enc).flatten).take (i * 2) = ((l.take i).map It.enc).flatten := by
  induction l generalizing i with
  | nil => simp
  | cons x r ih =>
    cases i with
    | zero => simp
    | succ i =>
      rw [show (i + 1) * 2 = i * 2 + 2 by omega]
      simp [It.enc, ih]
theorem enc_drop (l : List It) (i : Nat) : ((l.map It.enc).flatten).drop (i * 2) = ((l.drop i).map It.enc).flatten := by
  induction l generalizing i with
  | nil => simp
  | cons x r ih =>
    cases i with
    | zero => simp
    | succ i =>
      rw [show (i + 1) * 2 = i * 2 + 2 by omega]
      simp [It.enc, ih]

def insI (l : List It) (i : Nat) (x : It) : List It := l.take i ++ [x] ++ l.drop i

theorem insert_any (base : Nat) (v : Value) (i : Nat) (l : List It) (x : It) (vb : Nat) (w : World) (hown : w.ownsRow base 91 2 v l.length (l.map It.enc).flatten) (hi : i ≤ l.length) (hn : l.length ≤ 1000000) (hbase : base ≤ w.heap.size) (hvb : Blk w vb 91 #[.int .i64 x.a, .int .i64 x.b]) (hg : v.ownBlock ≠ some vb) :
    Calls Tryz.prog 82 #[v, .int .i64 i, .slice (some ⟨vb, 0, none⟩) 1 1] w fun e w' =>
      ∃ g cap, e = .returned (.slice (some ⟨g, 0, none⟩) (l.length + 1) cap) ∧ w'.ownsRow base 91 2 (.slice (some ⟨g, 0, none⟩) (l.length + 1) cap) (l.length + 1) ((insI l i x).map It.enc).flatten ∧
        w.grownBy w' v.ownBlock ∧ (v.ownBlock = some g ∨ w.heap.size ≤ g) := by
  have key : Calls Tryz.prog 82 #[v, .int .i64 i, .slice (some ⟨vb, 0, none⟩) 1 1] w (InsOut base v l.length i (l.map It.enc).flatten x w) := by
    rcases Nat.lt_or_ge i l.length with h | h
    · rcases hown.2 with ⟨h1, h2⟩ | ⟨g, c, cur, rfl, _⟩
      · omega
      · by_cases hc : l.length + 1 ≤ c
        · exact insert_room base g _ i c _ x vb w hown h hc hn hvb (fun e => hg (by rw [e]; rfl)) (enc_one l)
        · exact insert_grow base g _ i c _ x vb w hown h hc hn hbase hvb (enc_one l)
    · have : i = l.length := by omega
      subst this
      exact insert_end base v _ _ x vb w hown hn hbase hvb
  refine key.mono ?_
  rintro e w' ⟨g, cap, h1, h2, h3, h4⟩
  refine ⟨g, cap, h1, ?_, h3, h4⟩
  rw [enc_take, enc_drop] at h2
  simpa [insI] using h2

/-- Where an item is put: over the one of its key, or between. -/
def putI (l : List It) (k v : Int) : List It := if hasI l k = true then l.set (posI l k) ⟨k, v⟩ else insI l (posI l k) ⟨k, v⟩

def CellOut (F o : Nat) (l : List It) (k : Int) (N : Nat) (gv pv : Value) (w' : World) : Prop :=
  ∃ gi gl gt gk, gv = .func (.func 80) #[] #[.pointer (some ⟨gi, 0, none⟩), .pointer (some ⟨gl, 0, none⟩), .pointer (some ⟨gt, 0, none⟩)] ∧
    pv = .func (.func 81) #[] #[.pointer (some ⟨gi, 0, none⟩), .pointer (some ⟨gl, 0, none⟩), .pointer (some ⟨gt, 0, none⟩), .pointer (some ⟨gk, 0, none⟩)] ∧
    (N ≤ gi ∧ N ≤ gl ∧ N ≤ gt ∧ N ≤ gk) ∧ w'.cell? ⟨gi, 0, none⟩ = some (.bool (hasI l k)) ∧ w'.cell? ⟨gl, 0, none⟩ = some (.pointer (some ⟨F, o, none⟩)) ∧ w'.cell? ⟨gt, 0, none⟩ = some (.int .i64 (posI l k)) ∧ w'.cell? ⟨gk, 0, none⟩ = some (.int .i64 k)

set_option maxRecDepth 100000 in
theorem cell_any (F o : Nat) (A : Option Addr) (c : Nat) (l : List It) (k : Int) (w : World) (hF : w.cell? ⟨F, o, none⟩ = some (.slice A l.length c)) (h : ItS w (Old w) (.slice A l.length c) l) (hr : Rising l) (hn : l.length ≤ 1000000) :
    Calls Tryz.prog 56 #[.pointer (some ⟨F, o, none⟩), .int .i64 k] w fun e w' => ∃ gv pv, e = .returned (.tuple #[gv, pv]) ∧ CellOut F o l k w.heap.size gv pv w' ∧ Below w.heap.size w w' := by
  have hFl : F < w.heap.size := block_lt_of_cell hF
  have hL0 : Blk ((w.alloc (.cells #[.pointer (some ⟨F, o, none⟩)] 122)).alloc (.cells #[.int .i64 k] 3)).drew w.heap.size 122 #[.pointer (some ⟨F, o, none⟩)] := (Blk.new _ _ _).alloc _
  have hK0 : Blk ((w.alloc (.cells #[.pointer (some ⟨F, o, none⟩)] 122)).alloc (.cells #[.int .i64 k] 3)).drew (w.heap.size + 1) 3 #[.int .i64 k] := by
    have := Blk.new (w.alloc (.cells #[.pointer (some ⟨F, o, none⟩)] 122)) 3 #[.int .i64 k]
    simp only [World.size_alloc] at this
    exact this
  have hb0 : Below w.heap.size w ((w.alloc (.cells #[.pointer (some ⟨F, o, none⟩)] 122)).alloc (.cells #[.int .i64 k] 3)).drew := (((Below.refl _ _).alloc (Nat.le_refl _) _).alloc (by simp) _).drew
  go_enter Tryz.func56, Tryz.ntmps56
  go_wp2_with fail
  refine wp_region_alts [0, 1, 2, 3] [4, 5, 6, 7, 8, 9, 10, 11] [[4, 5, 6, 7, 8, 9, 10, 11], [4, 5, 6, 7, 9, 8, 10, 11], [8, 4, 5, 6, 7, 9, 10, 11], [8, 9, 4, 5, 6, 7, 10, 11], [9, 4, 5, 6, 7, 8, 10, 11], [9, 8, 4, 5, 6, 7, 10, 11]] (by kernel_rfl) (by kernel_rfl) (fun _ _ d _ _ h => by cases d <;> exact h) ?_
  simp only [List.filterMap_cons, List.filterMap_nil, List.getElem?_cons_zero, List.getElem?_cons_succ]
  repeat still_step
  refine wpStill_nil ?_
  generalize hW : ((w.alloc (.cells #[.pointer (some ⟨F, o, none⟩)] 122)).alloc (.cells #[.int .i64 k] 3)).drew = W at *
  have hWs : W.heap.size = w.heap.size + 2 := by rw [← hW]; simp
  clear hW
  intro i hi
  simp only [List.filterMap_cons, List.head?_cons, List.filterMap_nil, List.mem_cons, List.not_mem_nil, or_false, or_self] at hi
  obtain rfl | rfl | rfl : i = 4 ∨ i = 8 ∨ i = 9 := by omega
  · refine wpOp_list rfl ?_
    simp only [tailsOf, List.filterMap_cons, List.filterMap_nil, if_true, if_false, reduceIte, Nat.reduceEqDiff, List.length_cons, List.length_nil, Nat.reduceAdd]
    clear hi
    go_wp2_with fail
    refine (search_any A c l k _ (ItS.below h hb0) hr hn).mono ?_
    rintro e w1 ⟨rfl, hb1⟩
    have hL1 := hL0.below hb1 (by omega)
    have hK1 := hK0.below hb1 (by omega)
    have hs1 := hb1.size
    have hb2 := hb0.trans (hb1.mono hb0.size)
    clear hL0 hK0 hb0 hb1
    go_wp2_with fail
    intro iq hiq
    have hiq : iq = 5 := by
      simp only [List.filterMap_cons, List.head?_cons, List.filterMap_nil, List.mem_cons, List.not_mem_nil, or_false, or_self] at hiq
      omega
    cases hiq
    refine wpOp_list rfl ?_
    simp only [tailsOf, List.filterMap_cons, List.filterMap_nil, if_true, if_false, reduceIte, Nat.reduceEqDiff, List.length_cons, List.length_nil, Nat.reduceAdd]
    go_wp2_with fail
    intro iq hiq
    have hiq : iq = 6 := by
      simp only [List.filterMap_cons, List.head?_cons, List.filterMap_nil, List.mem_cons, List.not_mem_nil, or_false, or_self] at hiq
      omega
    cases hiq
    refine wpOp_list rfl ?_
    simp only [tailsOf, List.filterMap_cons, List.filterMap_nil, if_true, if_false, reduceIte, Nat.reduceEqDiff, List.length_cons, List.length_nil, Nat.reduceAdd]
    go_wp2_with fail
    intro iq hiq
    have hiq : iq = 7 := by
      simp only [List.filterMap_cons, List.head?_cons, List.filterMap_nil, List.mem_cons, List.not_mem_nil, or_false, or_self] at hiq
      omega
    cases hiq
    refine wpOp_list rfl ?_
    simp only [tailsOf, List.filterMap_cons, List.filterMap_nil, if_true, if_false, reduceIte, Nat.reduceEqDiff, List.length_cons, List.length_nil, Nat.reduceAdd]
    go_wp2_with fail
    intro i hi
    simp only [List.filterMap_cons, List.head?_cons, List.filterMap_nil, List.mem_cons, List.not_mem_nil, or_false, or_self] at hi
    obtain rfl | rfl : i = 8 ∨ i = 9 := by omega
    · refine wpOp_list rfl ?_
      simp only [tailsOf, List.filterMap_cons, List.filterMap_nil, if_true, if_false, reduceIte, Nat.reduceEqDiff, List.length_cons, List.length_nil, Nat.reduceAdd]
      clear hi
      go_wp2_with fail
      refine wpAlt_one _ _ _ _ rfl ?_
      simp only [List.filterMap_cons, List.filterMap_nil, List.getElem?_toArray, List.getElem?_cons_zero, List.getElem?_cons_succ]
      go_wp2
      refine bodyPost_ret (v := .tuple #[_, _]) (by simp [results, Tryz.results56, go_sem]; first | exact ⟨rfl, rfl⟩ | rfl) rfl ?_
      refine ⟨_, _, rfl, ⟨_, _, _, _, rfl, rfl, ⟨by omega, by omega, by omega, by omega⟩, ?_, ?_, ?_, ?_⟩, (hb2.alloc (by omega) _).alloc (by simp; omega) _⟩
      · go_simp
      · go_simp
        exact ((hL1.alloc _).alloc _).cell 0
      · go_simp
      · go_simp
        exact ((hK1.alloc _).alloc _).cell 0
    · refine wpOp_list rfl ?_
      simp only [tailsOf, List.filterMap_cons, List.filterMap_nil, if_true, if_false, reduceIte, Nat.reduceEqDiff, List.length_cons, List.length_nil, Nat.reduceAdd]
      clear hi
      go_wp2_with fail
      refine wpAlt_one _ _ _ _ rfl ?_
      simp only [List.filterMap_cons, List.filterMap_nil, List.getElem?_toArray, List.getElem?_cons_zero, List.getElem?_cons_succ]
      go_wp2
      refine bodyPost_ret (v := .tuple #[_, _]) (by simp [results, Tryz.results56, go_sem]; first | exact ⟨rfl, rfl⟩ | rfl) rfl ?_
      refine ⟨_, _, rfl, ⟨_, _, _, _, rfl, rfl, ⟨by omega, by omega, by omega, by omega⟩, ?_, ?_, ?_, ?_⟩, (hb2.alloc (by omega) _).alloc (by simp; omega) _⟩
      · go_simp
      · go_simp
        exact ((hL1.alloc _).alloc _).cell 0
      · go_simp
      · go_simp
        exact ((hK1.alloc _).alloc _).cell 0
  · refine wpOp_list rfl ?_
    simp only [tailsOf, List.filterMap_cons, List.filterMap_nil, if_true, if_false, reduceIte, Nat.reduceEqDiff, List.length_cons, List.length_nil, Nat.reduceAdd]
    clear hi
    go_wp2_with fail
    replace hL0 := hL0.alloc (.cells #[.int .i64 0] 3)
    replace hK0 := hK0.alloc (.cells #[.int .i64 0] 3)
    replace hb0 : Below w.heap.size w (W.alloc (.cells #[.int .i64 0] 3)) := hb0.alloc (by omega) _
    have hT0 : Blk (W.alloc (.cells #[.int .i64 0] 3)) (w.heap.size + 2) 3 #[.int .i64 0] := by rw [← hWs]; exact Blk.new _ _ _
    generalize hV : W.alloc (.cells #[.int .i64 0] 3) = V at *
    have hVs : V.heap.size = w.heap.size + 3 := by rw [← hV]; simp [hWs]
    clear hV hWs
    clear W
    intro i hi
    simp only [List.filterMap_cons, List.head?_cons, List.filterMap_nil, List.mem_cons, List.not_mem_nil, or_false, or_self] at hi
    obtain rfl | rfl : i = 4 ∨ i = 9 := by omega
    · refine wpOp_list rfl ?_
      simp only [tailsOf, List.filterMap_cons, List.filterMap_nil, if_true, if_false, reduceIte, Nat.reduceEqDiff, List.length_cons, List.length_nil, Nat.reduceAdd]
      clear hi
      go_wp2_with fail
      refine (search_any A c l k _ (ItS.below h hb0) hr hn).mono ?_
      rintro e w1 ⟨rfl, hb1⟩
      have hL1 := hL0.below hb1 (by omega)
      have hK1 := hK0.below hb1 (by omega)
      have hT1 := hT0.below hb1 (by omega)
      have hs1 := hb1.size
      have hb2 := hb0.trans (hb1.mono hb0.size)
      have q1 : w.heap.size + 2 < w1.heap.size := by omega
      have q0 : w.heap.size + 1 < w1.heap.size := by omega
      have f1 : (w1.alloc (.cells #[.bool false] 4)).frozen? ⟨w.heap.size + 2, 0, none⟩ = false := (hT1.alloc _).frozen 0
      have f2 : (w1.alloc (.cells #[.int .i64 0] 3)).frozen? ⟨w.heap.size + 2, 0, none⟩ = false := (hT1.alloc _).frozen 0
      have f3 := hT1.frozen 0
      have d1 : (w1.alloc (.cells #[.bool false] 4)).cell? ⟨w.heap.size + 2, 0, none⟩ = _ := (hT1.alloc _).cell 0
      have d2 : (w1.alloc (.cells #[.int .i64 0] 3)).cell? ⟨w.heap.size + 2, 0, none⟩ = _ := (hT1.alloc _).cell 0
      have d3 := hT1.cell 0
      simp at d1 d2 d3
      clear hL0 hK0 hb0 hb1 hT0
      go_wp2_with fail
      refine wpAlt_one _ _ _ _ rfl ?_
      simp only [List.filterMap_cons, List.filterMap_nil, List.getElem?_toArray, List.getElem?_cons_zero, List.getElem?_cons_succ]
      go_wp2
      refine bodyPost_ret (v := .tuple #[_, _]) (by simp [results, Tryz.results56, go_sem]; first | exact ⟨rfl, rfl⟩ | rfl) rfl ?_
      refine ⟨_, _, rfl, ⟨_, _, _, _, rfl, rfl, ⟨by omega, by omega, by omega, by omega⟩, ?_, ?_, ?_, ?_⟩, ?_⟩
      · go_simp
      · exact ((hL1.far (by simp) _).alloc _).cell 0
      · exact ((hT1.set_ 0 _).alloc _).cell 0
      · exact ((hK1.far (by simp) _).alloc _).cell 0
      · exact (hb2.setCell (by simp) _).alloc (by simp; omega) _
    · refine wpOp_list rfl ?_
      simp only [tailsOf, List.filterMap_cons, List.filterMap_nil, if_true, if_false, reduceIte, Nat.reduceEqDiff, List.length_cons, List.length_nil, Nat.reduceAdd]
      clear hi
      go_wp2_with fail
      replace hL0 := hL0.alloc (.cells #[.bool false] 4)
      replace hK0 := hK0.alloc (.cells #[.bool false] 4)
      replace hT0 := hT0.alloc (.cells #[.bool false] 4)
      replace hb0 : Below w.heap.size w (V.alloc (.cells #[.bool false] 4)) := hb0.alloc (by omega) _
      have hU0 : Blk (V.alloc (.cells #[.bool false] 4)) (w.heap.size + 3) 4 #[.bool false] := by rw [← hVs]; exact Blk.new _ _ _
      generalize hV : V.alloc (.cells #[.bool false] 4) = U at *
      have hUs : U.heap.size = w.heap.size + 4 := by rw [← hV]; simp [hVs]
      clear hV hVs
      clear V
      refine wpAlt_one _ _ _ _ rfl ?_
      simp only [List.filterMap_cons, List.filterMap_nil, List.getElem?_toArray, List.getElem?_cons_zero, List.getElem?_cons_succ]
      go_wp2_with fail
      refine (search_any A c l k _ (ItS.below h hb0) hr hn).mono ?_
      rintro e w1 ⟨rfl, hb1⟩
      have hL1 := hL0.below hb1 (by omega)
      have hK1 := hK0.below hb1 (by omega)
      have hT1 := hT0.below hb1 (by omega)
      have hU1 := hU0.below hb1 (by omega)
      have hs1 := hb1.size
      have hb2 := hb0.trans (hb1.mono hb0.size)
      have f1 := hT1.frozen 0
      have d1 := hT1.cell 0
      have f2 := hU1.frozen 0
      have d2 := hU1.cell 0
      simp at d1 d2
      clear hL0 hK0 hb0 hb1 hT0 hU0
      go_wp2
      refine bodyPost_ret (v := .tuple #[_, _]) (by simp [results, Tryz.results56, go_sem]; first | exact ⟨rfl, rfl⟩ | rfl) rfl ?_
      refine ⟨_, _, rfl, ⟨_, _, _, _, rfl, rfl, ⟨by omega, by omega, by omega, by omega⟩, ?_, ?_, ?_, ?_⟩, ?_⟩
      · exact ((hU1.far (by simp) _).set_ 0 _).cell 0
      · exact ((hL1.far (by simp) _).far (by simp) _).cell 0
      · exact ((hT1.set_ 0 _).far (by simp) _).cell 0
      · exact ((hK1.far (by simp) _).far (by simp) _).cell 0
      · exact (hb2.setCell (by simp) _).setCell (by simp) _
  · refine wpOp_list rfl ?_
    simp only [tailsOf, List.filterMap_cons, List.filterMap_nil, if_true, if_false, reduceIte, Nat.reduceEqDiff, List.length_cons, List.length_nil, Nat.reduceAdd]
    clear hi
    go_wp2_with fail
    replace hL0 := hL0.alloc (.cells #[.bool false] 4)
    replace hK0 := hK0.alloc (.cells #[.bool false] 4)
    replace hb0 : Below w.heap.size w (W.alloc (.cells #[.bool false] 4)) := hb0.alloc (by omega) _
    have hT0 : Blk (W.alloc (.cells #[.bool false] 4)) (w.heap.size + 2) 4 #[.bool false] := by rw [← hWs]; exact Blk.new _ _ _
    generalize hV : W.alloc (.cells #[.bool false] 4) = V at *
    have hVs : V.heap.size = w.heap.size + 3 := by rw [← hV]; simp [hWs]
    clear hV hWs
    clear W
    intro i hi
    simp only [List.filterMap_cons, List.head?_cons, List.filterMap_nil, List.mem_cons, List.not_mem_nil, or_false, or_self] at hi
    obtain rfl | rfl : i = 4 ∨ i = 8 := by omega
    · refine wpOp_list rfl ?_
      simp only [tailsOf, List.filterMap_cons, List.filterMap_nil, if_true, if_false, reduceIte, Nat.reduceEqDiff, List.length_cons, List.length_nil, Nat.reduceAdd]
      clear hi
      go_wp2_with fail
      refine (search_any A c l k _ (ItS.below h hb0) hr hn).mono ?_
      rintro e w1 ⟨rfl, hb1⟩
      have hL1 := hL0.below hb1 (by omega)
      have hK1 := hK0.below hb1 (by omega)
      have hT1 := hT0.below hb1 (by omega)
      have hs1 := hb1.size
      have hb2 := hb0.trans (hb1.mono hb0.size)
      have q1 : w.heap.size + 2 < w1.heap.size := by omega
      have q0 : w.heap.size + 1 < w1.heap.size := by omega
      have f1 : (w1.alloc (.cells #[.bool false] 4)).frozen? ⟨w.heap.size + 2, 0, none⟩ = false := (hT1.alloc _).frozen 0
      have f2 : (w1.alloc (.cells #[.int .i64 0] 3)).frozen? ⟨w.heap.size + 2, 0, none⟩ = false := (hT1.alloc _).frozen 0
      have f3 := hT1.frozen 0
      have d1 : (w1.alloc (.cells #[.bool false] 4)).cell? ⟨w.heap.size + 2, 0, none⟩ = _ := (hT1.alloc _).cell 0
      have d2 : (w1.alloc (.cells #[.int .i64 0] 3)).cell? ⟨w.heap.size + 2, 0, none⟩ = _ := (hT1.alloc _).cell 0
      have d3 := hT1.cell 0
      simp at d1 d2 d3
      clear hL0 hK0 hb0 hb1 hT0
      go_wp2_with fail
      refine wpAlt_one _ _ _ _ rfl ?_
      simp only [List.filterMap_cons, List.filterMap_nil, List.getElem?_toArray, List.getElem?_cons_zero, List.getElem?_cons_succ]
      go_wp2
      refine bodyPost_ret (v := .tuple #[_, _]) (by simp [results, Tryz.results56, go_sem]; first | exact ⟨rfl, rfl⟩ | rfl) rfl ?_
      refine ⟨_, _, rfl, ⟨_, _, _, _, rfl, rfl, ⟨by omega, by omega, by omega, by omega⟩, ?_, ?_, ?_, ?_⟩, ?_⟩
      · exact ((hT1.set_ 0 _).alloc _).cell 0
      · exact ((hL1.far (by simp) _).alloc _).cell 0
      · go_simp
      · exact ((hK1.far (by simp) _).alloc _).cell 0
      · exact (hb2.setCell (by simp) _).alloc (by simp; omega) _
    · refine wpOp_list rfl ?_
      simp only [tailsOf, List.filterMap_cons, List.filterMap_nil, if_true, if_false, reduceIte, Nat.reduceEqDiff, List.length_cons, List.length_nil, Nat.reduceAdd]
      clear hi
      go_wp2_with fail
      replace hL0 := hL0.alloc (.cells #[.int .i64 0] 3)
      replace hK0 := hK0.alloc (.cells #[.int .i64 0] 3)
      replace hT0 := hT0.alloc (.cells #[.int .i64 0] 3)
      replace hb0 : Below w.heap.size w (V.alloc (.cells #[.int .i64 0] 3)) := hb0.alloc (by omega) _
      have hU0 : Blk (V.alloc (.cells #[.int .i64 0] 3)) (w.heap.size + 3) 3 #[.int .i64 0] := by rw [← hVs]; exact Blk.new _ _ _
      generalize hV : V.alloc (.cells #[.int .i64 0] 3) = U at *
      have hUs : U.heap.size = w.heap.size + 4 := by rw [← hV]; simp [hVs]
      clear hV hVs
      clear V
      refine wpAlt_one _ _ _ _ rfl ?_
      simp only [List.filterMap_cons, List.filterMap_nil, List.getElem?_toArray, List.getElem?_cons_zero, List.getElem?_cons_succ]
      go_wp2_with fail
      refine (search_any A c l k _ (ItS.below h hb0) hr hn).mono ?_
      rintro e w1 ⟨rfl, hb1⟩
      have hL1 := hL0.below hb1 (by omega)
      have hK1 := hK0.below hb1 (by omega)
      have hT1 := hT0.below hb1 (by omega)
      have hU1 := hU0.below hb1 (by omega)
      have hs1 := hb1.size
      have hb2 := hb0.trans (hb1.mono hb0.size)
      have f1 := hT1.frozen 0
      have d1 := hT1.cell 0
      have f2 := hU1.frozen 0
      have d2 := hU1.cell 0
      simp at d1 d2
      clear hL0 hK0 hb0 hb1 hT0 hU0
      go_wp2
      refine bodyPost_ret (v := .tuple #[_, _]) (by simp [results, Tryz.results56, go_sem]; first | exact ⟨rfl, rfl⟩ | rfl) rfl ?_
      refine ⟨_, _, rfl, ⟨_, _, _, _, rfl, rfl, ⟨by omega, by omega, by omega, by omega⟩, ?_, ?_, ?_, ?_⟩, ?_⟩
      · exact ((hT1.far (by simp) _).set_ 0 _).cell 0
      · exact ((hL1.far (by simp) _).far (by simp) _).cell 0
      · exact ((hU1.set_ 0 _).far (by simp) _).cell 0
      · exact ((hK1.far (by simp) _).far (by simp) _).cell 0
      · exact (hb2.setCell (by simp) _).setCell (by simp) _
end Go.Proofs.YtphcebgpllecjaaGreatDoor
