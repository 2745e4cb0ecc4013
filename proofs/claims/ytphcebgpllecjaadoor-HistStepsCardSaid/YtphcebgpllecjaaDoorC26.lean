/-
  Walks: diary.must, what diary.Parse defers.
-/
import Derived.Defers
import Derived.Recover
import Derived.Laws.Rows
import Derived.Test.YtphcebgpllecjaaDoorC16
import Derived.Test.YtphcebgpllecjaaDoorC25
import Derived.Test.YtphcebgpllecjaaDoorC21
import Derived.Test.YtphcebgpllecjaaDoorC06
import Derived.Test.YtphcebgpllecjaaDoorC13
import Derived.Test.YtphcebgpllecjaaDoorC11
import Derived.Test.YtphcebgpllecjaaDoorC02
set_option linter.unusedVariables false
set_option linter.unusedSimpArgs false
namespace Go.Proofs.YtphcebgpllecjaaDoor
open Go.RowKit Go.Inq
set_option maxHeartbeats 2000000
attribute [local go_sem ↓] Go.wp_at_zero Go.wp_at_succ

theorem must_ok (a : Int) (w : World) : Calls Tryd.prog 23 #[.int .i64 a, .int .i64 0] w fun e w' => e = .returned (.tuple #[]) ∧ w = w' := by
  go_enter Tryd.func23, Tryd.ntmps23
  go_wp2
  go_end0
  exact ⟨rfl, rfl⟩
theorem must_bad (a f : Int) (hf : f ≠ 0) (w : World) : Calls Tryd.prog 23 #[.int .i64 a, .int .i64 f] w fun e w' => e = .panicked [{ v := .iface 60 (.agg #[.int .i64 a, .int .i64 f]), recovered := false }] ∧ w = w' := by
  have hfb : (f != 0) = true := by simpa using hf
  go_enter Tryd.func23, Tryd.ntmps23
  go_wp2
  exact ⟨rfl, rfl, rfl⟩
theorem assert_wrong (cs : Array Value) (W : World) : (Instr.typeAssert (.iface 60 (.agg cs)) 20 60 true).run Tryd.prog W = .ok (.tuple #[.agg cs, .bool true]) W := by
  kernel_rfl
theorem assert_nil (W : World) : (Instr.typeAssert .nilIface 20 60 true).run Tryd.prog W = .ok (.tuple #[.agg #[.int .i64 0, .int .i64 0], .bool false]) W := by
  kernel_rfl
set_option maxRecDepth 100000 in
theorem catch_idle (w : World) (g : Nat) :
    CallsD Tryd.prog 21 #[.pointer (some ⟨g, 0, none⟩), .pointer (some ⟨g + 1, 0, none⟩), .pointer (some ⟨g + 2, 0, none⟩)] .returning w fun e u' w' => e = .returned (.tuple #[]) ∧ u' = .returning ∧ Below w.heap.size w w' := by
  have h1 := assert_nil
  refine callsD_of_wpS Tryd.func21 rfl fun c₀ cs hu => ?_
  change Code.wpS _ _ _ { tmps := #[.pointer (some ⟨g, 0, none⟩), .pointer (some ⟨g + 1, 0, none⟩), .pointer (some ⟨g + 2, 0, none⟩), undef, undef, undef, undef, undef, undef, undef, undef, undef, undef, undef, undef], defers := [] } _ _
  apply wpS_seq
  apply wpS_region
  simp [wpOpsS, go_sem, recoverD, hu, h1, Exit.thenS]
  refine wpS_of_wp ?_
  go_wp2
  cases c₀
  simp_all [bodyPostS, results, Tryd.results21]
  exact (Below.refl _ _).alloc (Nat.le_refl _) _
set_option maxRecDepth 100000 in
theorem catch_panicking (a f : Int) (older : List PanicEntry) (w : World) (g : Nat) (v0 v1 v2 : Value) (k0 : Blk w g 35 #[v0]) (k1 : Blk w (g + 1) 3 #[v1]) (k2 : Blk w (g + 2) 27 #[v2]) :
    CallsD Tryd.prog 21 #[.pointer (some ⟨g, 0, none⟩), .pointer (some ⟨g + 1, 0, none⟩), .pointer (some ⟨g + 2, 0, none⟩)] (.panicking ({ v := .iface 60 (.agg #[.int .i64 a, .int .i64 f]), recovered := false } :: older)) w fun e u' w' =>
      e = .returned (.tuple #[]) ∧ u' = .panicking ({ v := .iface 60 (.agg #[.int .i64 a, .int .i64 f]), recovered := true } :: older) ∧
        Blk w' g 35 #[.slice none 0 0] ∧ Blk w' (g + 1) 3 #[.int .i64 a] ∧ Blk w' (g + 2) 27 #[.int .i64 f] ∧ Below g w w' := by
  have h1 := assert_wrong #[.int .i64 a, .int .i64 f]
  refine callsD_of_wpS Tryd.func21 rfl fun c₀ cs hu => ?_
  change Code.wpS _ _ _ { tmps := #[.pointer (some ⟨g, 0, none⟩), .pointer (some ⟨g + 1, 0, none⟩), .pointer (some ⟨g + 2, 0, none⟩), undef, undef, undef, undef, undef, undef, undef, undef, undef, undef, undef, undef], defers := [] } _ _
  apply wpS_seq
  apply wpS_region
  simp [wpOpsS, go_sem, recoverD, hu, h1, Exit.thenS]
  have hg := k2.lt
  have kW : Blk (w.alloc (.cells #[.int .i64 a, .int .i64 f] 60)) w.heap.size 60 #[.int .i64 a, .int .i64 f] := Blk.new _ _ _
  have hB : Below g w (w.alloc (.cells #[.int .i64 a, .int .i64 f] 60)) := (Below.refl _ _).alloc (by omega) _
  replace k0 := k0.alloc (.cells #[.int .i64 a, .int .i64 f] 60)
  replace k1 := k1.alloc (.cells #[.int .i64 a, .int .i64 f] 60)
  replace k2 := k2.alloc (.cells #[.int .i64 a, .int .i64 f] 60)
  have n0 : ¬ w.heap.size = g := by omega
  have n1 : ¬ w.heap.size = g + 1 := by omega
  have n2 : ¬ g = w.heap.size := by omega
  have n3 : ¬ g + 1 = w.heap.size := by omega
  generalize w.alloc (.cells #[.int .i64 a, .int .i64 f] 60) = W at *
  generalize w.heap.size = gw at *
  have c0 := kW.cell 0
  have c1 := kW.cell 1
  have f0 := k0.frozen 0
  have f1 := k1.frozen 0
  have f2 := k2.frozen 0
  have d0 := k0.cell 0
  have d1 := k1.cell 0
  have d2 := k2.cell 0
  simp only [List.getElem?_toArray, List.getElem?_cons_zero, List.getElem?_cons_succ] at c0 c1 d0 d1 d2
  refine wpS_of_wp ?_
  go_wp2_with fail
  go_region
  go_wp2
  refine ⟨rfl, _, rfl, .tuple #[], by simp [results, Tryd.results21], rfl, rfl, ?_, ?_, ?_, ?_⟩
  · exact ((k0.set_ 0 _).far (by simp) _).far (by simp) _ |>.drew
  · exact ((k1.far (by simp) _).set_ 0 _).far (by simp) _ |>.drew
  · exact ((k2.far (by simp) _).far (by simp) _).set_ 0 _ |>.drew
  · exact (((hB.setCell (by simp) _).setCell (by simp) _).setCell (by simp) _).drew

/-- The named results, read. -/
theorem results_d {tmps : Array Value} {w : World} {g : Nat} {v0 v1 v2 : Value} (h2 : tmps.getD 2 undef = .pointer (some ⟨g, 0, none⟩)) (h3 : tmps.getD 3 undef = .pointer (some ⟨g + 1, 0, none⟩)) (h4 : tmps.getD 4 undef = .pointer (some ⟨g + 2, 0, none⟩))
    (k0 : Blk w g 35 #[v0]) (k1 : Blk w (g + 1) 3 #[v1]) (k2 : Blk w (g + 2) 27 #[v2]) : (results Tryd.f13 tmps).run Tryd.prog w = .ok (.tuple #[v0, v1, v2]) w := by
  have c0 := k0.cell 0
  have c1 := k1.cell 0
  have c2 := k2.cell 0
  simp only [List.getElem?_toArray, List.getElem?_cons_zero] at c0 c1 c2
  have e2 : tmps[2]?.getD undef = .pointer (some ⟨g, 0, none⟩) := by simpa using h2
  have e3 : tmps[3]?.getD undef = .pointer (some ⟨g + 1, 0, none⟩) := by simpa using h3
  have e4 : tmps[4]?.getD undef = .pointer (some ⟨g + 2, 0, none⟩) := by simpa using h4
  unfold results
  simp [Tryd.results13, e2, e3, e4, go_sem, c0, c1, c2]
/-- What diary.Parse defers. -/
def later (g : Nat) : Deferred := { target := .fn (.func 21) #[.pointer (some ⟨g, 0, none⟩), .pointer (some ⟨g + 1, 0, none⟩), .pointer (some ⟨g + 2, 0, none⟩)], args := #[] }
theorem leaves_bad {R : Ending → World → Prop} {tmps : Array Value} (a f : Int) {w : World} {g : Nat} {v0 v1 v2 : Value} (k0 : Blk w g 35 #[v0]) (k1 : Blk w (g + 1) 3 #[v1]) (k2 : Blk w (g + 2) 27 #[v2])
    (h2 : tmps.getD 2 undef = .pointer (some ⟨g, 0, none⟩)) (h3 : tmps.getD 3 undef = .pointer (some ⟨g + 1, 0, none⟩)) (h4 : tmps.getD 4 undef = .pointer (some ⟨g + 2, 0, none⟩))
    (h : ∀ w', Below g w w' → R (.returned (.tuple #[.slice none 0 0, .int .i64 a, .int .i64 f])) w') :
    Leaves Tryd.prog Tryd.f13 tmps R [later g] (.panicking [{ v := .iface 60 (.agg #[.int .i64 a, .int .i64 f]), recovered := false }]) w := by
  refine leaves_cons (f := 21) (args := #[.pointer (some ⟨g, 0, none⟩), .pointer (some ⟨g + 1, 0, none⟩), .pointer (some ⟨g + 2, 0, none⟩)]) (by simp) (by simp [go_sem]) ?_
  refine (catch_panicking a f [] w g v0 v1 v2 k0 k1 k2).mono ?_
  rintro e u' w'' ⟨rfl, rfl, j0, j1, j2, hb⟩
  exact ⟨_, results_d h2 h3 h4 j0 j1 j2, h w'' hb⟩
theorem leaves_good {R : Ending → World → Prop} {tmps : Array Value} {w : World} {g : Nat} {v0 v1 v2 : Value} (k0 : Blk w g 35 #[v0]) (k1 : Blk w (g + 1) 3 #[v1]) (k2 : Blk w (g + 2) 27 #[v2])
    (h2 : tmps.getD 2 undef = .pointer (some ⟨g, 0, none⟩)) (h3 : tmps.getD 3 undef = .pointer (some ⟨g + 1, 0, none⟩)) (h4 : tmps.getD 4 undef = .pointer (some ⟨g + 2, 0, none⟩))
    (h : ∀ w', Below w.heap.size w w' → R (.returned (.tuple #[v0, v1, v2])) w') : Leaves Tryd.prog Tryd.f13 tmps R [later g] .returning w := by
  refine leaves_cons (f := 21) (args := #[.pointer (some ⟨g, 0, none⟩), .pointer (some ⟨g + 1, 0, none⟩), .pointer (some ⟨g + 2, 0, none⟩)]) (by simp) (by simp [go_sem]) ?_
  refine (catch_idle w g).mono ?_
  rintro e u' w'' ⟨rfl, rfl, hb⟩
  exact ⟨_, results_d h2 h3 h4 (k0.below hb k0.lt) (k1.below hb k1.lt) (k2.below hb k2.lt), h w'' hb⟩
end Go.Proofs.YtphcebgpllecjaaDoor

namespace Go.Proofs.YtphcebgpllecjaaDoor
open Go.RowKit Go.Inq
set_option maxHeartbeats 2000000
attribute [local go_sem ↓] Go.wp_at_zero Go.wp_at_succ

theorem three_new (w : World) (v0 v1 v2 : Value) : Blk (((w.alloc (.cells #[v0] 35)).alloc (.cells #[v1] 3)).alloc (.cells #[v2] 27)) w.heap.size 35 #[v0] ∧
    Blk (((w.alloc (.cells #[v0] 35)).alloc (.cells #[v1] 3)).alloc (.cells #[v2] 27)) (w.heap.size + 1) 3 #[v1] ∧
    Blk (((w.alloc (.cells #[v0] 35)).alloc (.cells #[v1] 3)).alloc (.cells #[v2] 27)) (w.heap.size + 2) 27 #[v2] ∧
    Below w.heap.size w (((w.alloc (.cells #[v0] 35)).alloc (.cells #[v1] 3)).alloc (.cells #[v2] 27)) ∧
    (((w.alloc (.cells #[v0] 35)).alloc (.cells #[v1] 3)).alloc (.cells #[v2] 27)).heap.size = w.heap.size + 3 := by
  refine ⟨((Blk.new _ _ _).alloc _).alloc _, ?_, ?_, (((Below.refl _ _).alloc (Nat.le_refl _) _).alloc (by simp) _).alloc (by simp; omega) _, by simp⟩
  · have := (Blk.new (w.alloc (.cells #[v0] 35)) 3 #[v1]).alloc (.cells #[v2] 27)
    rwa [show (w.alloc (.cells #[v0] 35)).heap.size = w.heap.size + 1 by simp] at this
  · have := Blk.new ((w.alloc (.cells #[v0] 35)).alloc (.cells #[v1] 3)) 27 #[v2]
    rwa [show ((w.alloc (.cells #[v0] 35)).alloc (.cells #[v1] 3)).heap.size = w.heap.size + 2 by simp] at this

set_option maxRecDepth 100000 in
theorem dparse_any (s : ByteArray) (w : World) (hs : s.size ≤ 1000000) (henv : Env w) : Calls Tryd.prog 13 #[.string s] w (EvOut (diaryR s.data.toList) w) := by
  obtain ⟨ie, hie, hie1, hie2, hie3⟩ := info_parts infoE
  have hmf : ∀ (fn : Fn) (first cap : Array Value) (w : World), (Instr.makeFunc fn first cap).run Tryd.prog w = .ok (.func fn first cap) w := fun _ _ _ _ => rfl
  obtain ⟨k0, k1, k2, hB, hsz⟩ := three_new w (.slice none 0 0) (.int .i64 0) (.int .i64 0)
  have hE := henv.below hB
  have hsp := lsplit_any s _ hs hE.glob
  generalize hW0 : ((w.alloc (.cells #[.slice none 0 0] 35)).alloc (.cells #[.int .i64 0] 3)).alloc (.cells #[.int .i64 0] 27) = W0 at *
  by_cases h0 : (splitR s.data.toList).2 ≠ 0
  · have hr := hide (diaryR_split h0)
    generalize splitR s.data.toList = sp at *
    obtain ⟨ls, f⟩ := sp
    go_enter_defers Tryd.func13, Tryd.ntmps13
    go_wp2_with fail
    refine hsp.mono ?_
    intro e w1 ho
    obtain ⟨A, c, rfl, -, hb⟩ := RowOut.open ho
    clear ho hsp
    have j0 := k0.below hb k0.lt
    have j1 := k1.below hb k1.lt
    have j2 := k2.below hb k2.lt
    have c2 := j2.cell 0
    have f2 := j2.frozen 0
    simp at c2
    have i0 := j0.far (p := ⟨w.heap.size + 2, 0, none⟩) (by simp) (.int .i64 f)
    have i1 := j1.far (p := ⟨w.heap.size + 2, 0, none⟩) (by simp) (.int .i64 f)
    have i2 := j2.set_ 0 (.int .i64 f)
    have hB2 := (hB.trans (hb.mono hB.size)).setCell (p := ⟨w.heap.size + 2, 0, none⟩) (by simp) (.int .i64 f)
    go_wp2_with fail
    refine (must_bad 0 f h0 _).mono ?_
    rintro e w' ⟨rfl, rfl⟩
    go_wp2
    refine leaves_bad 0 f i0 i1 i2 rfl rfl rfl fun w' hb' => ?_
    exact ⟨.slice none 0 0, by rw [hr.out], by rw [hr.out]; exact EvS.nil _ _ _ _, hB2.trans hb'⟩
  · have h0' : (splitR s.data.toList).2 = 0 := by omega
    have hr := hide (diaryR_rows h0')
    have hlen := splitR_len s.data.toList
    have hszr : ∀ i (h : i < (splitR s.data.toList).1.length), (mk (splitR s.data.toList).1[i]).size ≤ 1000000 := fun i h => by
      have := rows_len h0' (List.getElem_mem h)
      rw [← Lib.size_eq] at this
      rw [mk_size]
      omega
    replace hsp := hsp.mono fun e w1 ho => RowOut.open ho
    rw [h0'] at hsp
    clear h0 h0'
    generalize (splitR s.data.toList).1 = rows at *
    replace hszr := hide hszr
    go_enter_defers Tryd.func13, Tryd.ntmps13
    go_wp2_with fail
    refine hsp.mono ?_
    rintro e w1 ⟨A, c, rfl, hl, hb⟩
    have j0 := k0.below hb k0.lt
    have j1 := k1.below hb k1.lt
    have j2 := k2.below hb k2.lt
    have c2 := j2.cell 0
    have f2 := j2.frozen 0
    simp at c2
    have i0 := j0.far (p := ⟨w.heap.size + 2, 0, none⟩) (by simp) (.int .i64 0)
    have i1 := j1.far (p := ⟨w.heap.size + 2, 0, none⟩) (by simp) (.int .i64 0)
    have i2 := j2.set_ 0 (.int .i64 0)
    have hB2 := (hB.trans (hb.mono hB.size)).setCell (p := ⟨w.heap.size + 2, 0, none⟩) (by simp) (.int .i64 0)
    have hl2 : StrS (w1.setCell ⟨w.heap.size + 2, 0, none⟩ (.int .i64 0)) (fun b => w.heap.size + 3 ≤ b ∧ b < w1.heap.size) (.slice A rows.length c) (rows.map mk) := StrS.keep hl (Agree.setCell _ (by intro h; have := h.1; rw [hsz] at this; simp at this) _) (fun b h => ⟨by have := h.1; omega, h.2⟩)
    have hs2 : w1.heap.size ≤ (w1.setCell ⟨w.heap.size + 2, 0, none⟩ (.int .i64 0)).heap.size := by simp
    have hs1 : w.heap.size + 3 ≤ w1.heap.size := by have := hb.size; omega
    clear k0 k1 k2 hl hsp hW0 hE hB j0 j1 j2
    go_wp2_with fail
    refine (must_ok 0 _).mono ?_
    rintro e w' ⟨rfl, rfl⟩
    clear c2 f2 hb hsz
    generalize w1.setCell ⟨w.heap.size + 2, 0, none⟩ (.int .i64 0) = W2 at *
    generalize w1.heap.size = B1 at *
    go_wp2_with fail
    go_loopw [6, 7, 8, 9, 20] (fun _ _ _ _ s20 wr => ∃ (i : Nat) (v : Value), i ≤ rows.length ∧ s20 = .int .i64 i ∧ Blk wr w.heap.size 35 #[v] ∧ Blk wr (w.heap.size + 1) 3 #[.int .i64 0] ∧ Blk wr (w.heap.size + 2) 27 #[.int .i64 0] ∧
      StrS wr (fun b => w.heap.size + 3 ≤ b ∧ b < B1) (.slice A rows.length c) (rows.map mk) ∧ wr.ownsRow B1 51 4 v (evl (rows.take i)).length ((evl (rows.take i)).map Ev.enc).flatten ∧ Hid (∀ j, j < i → rowE rows j = 0) ∧ Below w.heap.size w wr ∧ B1 ≤ wr.heap.size) (fun _ _ _ _ s20 _ => rows.length - (intOf s20).toNat)
    case atStart => exact ⟨0, .slice none 0 0, Nat.zero_le _, by go_num, i0, i1, i2, hl2, World.ownsRow_nil _ _ _ _, fun j h => absurd h (by omega), hB2, hs2⟩
    case round =>
      obtain ⟨i, v, hi, rfl, k0, k1, k2, hl, hown, hok, hbr, hsb⟩ := hrel
      clear i0 i1 i2 hl2 hB2 hs2
      by_cases hlt : i < rows.length
      · obtain ⟨b, off, rfl, hbK, c0⟩ := StrS.at_ hl (i := i) (by rw [List.length_map]; exact hlt)
        rw [List.getElem_map] at c0
        have hi1 : (0 : Int) ≤ (i : Int) := Int.natCast_nonneg _
        have hi2 : (i : Int) < (rows.length : Int) := by omega
        have hpar := eparse_any (mk rows[i]) wr (hszr.out i hlt) (henv.below hbr)
        rw [mk_bytes] at hpar
        have hrow := rowE_at hlt
        have htk := hide (evl_take hlt)
        have hbad := hide (evsR_bad (rows := rows) (i := i) hlt hok.out)
        have hok2 : (parseR rows[i]).2 = 0 → ∀ j, j < i + 1 → rowE rows j = 0 := fun h j hj => by
          by_cases hji : j = i
          · subst hji; rw [hrow]; exact h
          · exact hok.out j (by omega)
        rw [hrow] at hbad
        have hti : (evl (rows.take i)).length = i := by rw [evl_len, List.length_take]; omega
        have hoff : ∀ b', v.ownBlock = some b' → B1 ≤ b' := fun b' h => (hown.lt b' h).1
        generalize mk rows[i] = tx at *
        generalize parseR rows[i] = pr at *
        obtain ⟨⟨x0, x1, x2, x3⟩, f⟩ := pr
        dsimp only at hbad hok2
        clear hrow hok hbK
        go_wp2_with fail
        refine hpar.mono ?_
        rintro e w2 ⟨rfl, hb2⟩
        have m0 := (k0.below hb2 k0.lt).alloc (.cells #[.int .i64 x0, .int .i64 x1, .int .i64 x2, .int .i64 x3] 51)
        have m1 := (k1.below hb2 k1.lt).alloc (.cells #[.int .i64 x0, .int .i64 x1, .int .i64 x2, .int .i64 x3] 51)
        have m2 := (k2.below hb2 k2.lt).alloc (.cells #[.int .i64 x0, .int .i64 x1, .int .i64 x2, .int .i64 x3] 51)
        have hown3 := (own_below hown hb2 (Nat.le_refl _)).alloc (.cells #[.int .i64 x0, .int .i64 x1, .int .i64 x2, .int .i64 x3] 51)
        have hl3 : StrS (w2.alloc (.cells #[.int .i64 x0, .int .i64 x1, .int .i64 x2, .int .i64 x3] 51)) (fun b => w.heap.size + 3 ≤ b ∧ b < B1) (.slice (some ⟨b, off, none⟩) rows.length c) (rows.map mk) := StrS.keep hl ((Agree.below hb2 (fun b h => Nat.lt_of_lt_of_le h.2 hsb)).trans (Agree.alloc (fun b h => Nat.lt_of_lt_of_le h.2 (Nat.le_trans hsb hb2.size)) _)) (fun _ h => h)
        have hB3 := (hbr.trans (hb2.mono hbr.size)).alloc (hbr.trans (hb2.mono hbr.size)).size (.cells #[.int .i64 x0, .int .i64 x1, .int .i64 x2, .int .i64 x3] 51)
        have hs3 : B1 ≤ (w2.alloc (.cells #[.int .i64 x0, .int .i64 x1, .int .i64 x2, .int .i64 x3] 51)).heap.size := by have := hb2.size; simp; omega
        have hy : (w2.alloc (.cells #[.int .i64 x0, .int .i64 x1, .int .i64 x2, .int .i64 x3] 51)).heap.size = w2.heap.size + 1 := by simp
        have kX : Blk (w2.alloc (.cells #[.int .i64 x0, .int .i64 x1, .int .i64 x2, .int .i64 x3] 51)) w2.heap.size 51 #[.int .i64 x0, .int .i64 x1, .int .i64 x2, .int .i64 x3] := Blk.new _ _ _
        clear hown hpar hl k0 k1 k2 hb2 hbr hsb c0
        go_wp2_with fail
        generalize w2.alloc (.cells #[.int .i64 x0, .int .i64 x1, .int .i64 x2, .int .i64 x3] 51) = W3 at *
        have c0 := m0.cell 0
        have a0 := kX.cell 0
        have a1 := kX.cell 1
        have a2 := kX.cell 2
        have a3 := kX.cell 3
        simp only [List.getElem?_toArray, List.getElem?_cons_zero, List.getElem?_cons_succ] at c0 a0 a1 a2 a3
        by_cases hf : f = 0
        · subst hf
          have hok3 := hide (hok2 rfl)
          clear hbad hok2
          refine (must_ok _ _).mono ?_
          rintro e w' ⟨rfl, rfl⟩
          rw [hti] at hown3
          generalize hL : evl (rows.take i) = L at *
          have kN : SlR 4 (Flat Ev.enc) (W3.alloc (.cells #[.int .i64 x0, .int .i64 x1, .int .i64 x2, .int .i64 x3] 51)) (fun _ => True) (.slice (some ⟨W3.heap.size, 0, none⟩) 1 1) [(⟨x0, x1, x2, x3⟩ : Ev)] := SlR.one (R := Flat Ev.enc) (K := fun _ => True) (x := (⟨x0, x1, x2, x3⟩ : Ev)) (Blk.new W3 51 #[.int .i64 x0, .int .i64 x1, .int .i64 x2, .int .i64 x3]) rfl rfl trivial
          replace kN := hide kN
          replace hti := hide hti
          replace hoff := hide hoff
          replace hy := hide hy
          go_wp2_with (at_builtin; refine wpList_append_flat (enc := Ev.enc) rfl (.tmp 34) (.tmp 36) 35 rfl B1 51 ie _ 4 32 Tryd.underlying35 hie hie1 hie2 hie3 rfl (by decide) v (fun _ => True) L rfl (by rw [hti.out]; exact hown3.alloc _) (fun _ => rfl) _ [(⟨x0, x1, x2, x3⟩ : Ev)] rfl kN.out encE_one (by have := hti.out; simp [maxLen]; omega) (by have := hti.out; simp; omega) (by have := hB3.size; simp; omega) ?_; intro v6 W6 hown6 hgrow6 hat6; obtain ⟨A6, c6, rfl⟩ := own_slice hown6; have m0' := (m0.alloc (.cells #[.int .i64 x0, .int .i64 x1, .int .i64 x2, .int .i64 x3] 51)).grown hgrow6 (fun e => by have := hoff.out _ e.symm; omega); have cm := m0'.cell 0; have fm := m0'.frozen 0; simp only [List.getElem?_toArray, List.getElem?_cons_zero] at cm)
          go_roundw
          case rel =>
            have m1' := (m1.alloc (.cells #[.int .i64 x0, .int .i64 x1, .int .i64 x2, .int .i64 x3] 51)).grown hgrow6 (fun e => by have := hoff.out _ e.symm; omega)
            have m2' := (m2.alloc (.cells #[.int .i64 x0, .int .i64 x1, .int .i64 x2, .int .i64 x3] 51)).grown hgrow6 (fun e => by have := hoff.out _ e.symm; omega)
            refine ⟨i + 1, _, by omega, by go_num, m0'.set_ 0 _, m1'.far (by simp) _, m2'.far (by simp) _, ?_, ?_, hok3, ?_, ?_⟩
            · exact StrS.keep hl3 (((Agree.alloc (fun b h => Nat.lt_of_lt_of_le h.2 hs3) _).trans (Agree.grown hgrow6 (fun b h => ⟨by have := h.2; simp; omega, fun e => by have := hoff.out _ e.symm; have := h.2; omega⟩))).trans (Agree.setCell _ (by intro h; have := h.1; simp at this; omega) _)) (fun _ h => h)
            · rw [htk.out]
              have hq := own_setCell hown6 (p := ⟨w.heap.size, 0, none⟩) (fun e => by have : B1 ≤ w.heap.size := (hown6.lt _ e).1; omega) (.slice A6 (L.length + 1) c6)
              rw [List.length_append] at hq ⊢
              exact hq
            · exact ((hB3.alloc hB3.size _).grown hgrow6 (by have := hB3.size; simp; omega) (fun b h => by have := hoff.out b h; omega)).setCell (by simp) _
            · have h1 := hgrow6.size
              rw [World.size_alloc] at h1
              rw [World.size_setCell]
              omega
          case measure => simp [intOf]; omega
        · have hbad2 := hide (hbad.out hf)
          clear hbad hok2
          refine (must_bad _ f hf _).mono ?_
          rintro e w' ⟨rfl, rfl⟩
          go_wp2
          refine leaves_bad _ f m0 m1 m2 rfl rfl rfl fun w' hb' => ?_
          exact ⟨.slice none 0 0, by rw [hr.out, hbad2.out], by rw [hr.out, hbad2.out]; exact EvS.nil _ _ _ _, hB3.trans hb'⟩
      · have : i = rows.length := by omega
        subst this
        rw [List.take_length] at hown
        have hgd := hide (evsR_good hok.out)
        obtain ⟨Av, cv, rfl⟩ := own_slice hown
        have c0 := k0.cell 0
        have c1 := k1.cell 0
        have c2 := k2.cell 0
        simp only [List.getElem?_toArray, List.getElem?_cons_zero, List.getElem?_cons_succ] at c0 c1 c2
        have f0 := k0.frozen 0
        have f1 := k1.frozen 0
        have f2 := k2.frozen 0
        have i0 := ((k0.set_ 0 (.slice Av (evl rows).length cv)).far (p := ⟨w.heap.size + 1, 0, none⟩) (by simp) (.int .i64 0)).far (p := ⟨w.heap.size + 2, 0, none⟩) (by simp) (.int .i64 0)
        have i1 := ((k1.far (p := ⟨w.heap.size, 0, none⟩) (by simp) (.slice Av (evl rows).length cv)).set_ 0 (.int .i64 0)).far (p := ⟨w.heap.size + 2, 0, none⟩) (by simp) (.int .i64 0)
        have i2 := ((k2.far (p := ⟨w.heap.size, 0, none⟩) (by simp) (.slice Av (evl rows).length cv)).far (p := ⟨w.heap.size + 1, 0, none⟩) (by simp) (.int .i64 0)).set_ 0 (.int .i64 0)
        have hoff : ∀ b', (Value.slice Av (evl rows).length cv).ownBlock = some b' → B1 ≤ b' := fun b' h => (hown.lt b' h).1
        have hown4 := own_setCell (own_setCell (own_setCell hown (p := ⟨w.heap.size, 0, none⟩) (fun e => by have := hoff _ e; simp at this; omega) (.slice Av (evl rows).length cv)) (p := ⟨w.heap.size + 1, 0, none⟩) (fun e => by have := hoff _ e; simp at this; omega) (.int .i64 0)) (p := ⟨w.heap.size + 2, 0, none⟩) (fun e => by have := hoff _ e; simp at this; omega) (.int .i64 0)
        have hB4 := ((hbr.setCell (p := ⟨w.heap.size, 0, none⟩) (by simp) (.slice Av (evl rows).length cv)).setCell (p := ⟨w.heap.size + 1, 0, none⟩) (by simp) (.int .i64 0)).setCell (p := ⟨w.heap.size + 2, 0, none⟩) (by simp) (.int .i64 0)
        go_wp2
        refine leaves_good i0 i1 i2 rfl rfl rfl fun w' hb' => ?_
        have hown5 := own_below hown4 hb' (Nat.le_refl _)
        exact ⟨.slice Av (evl rows).length cv, by rw [hr.out, hgd.out], by rw [hr.out, hgd.out]; exact SlR.of_flat hown5 rfl (fun _ => rfl) (fun b h1 h2 => ⟨by omega, h2⟩), hB4.trans (hb'.mono hB4.size)⟩
end Go.Proofs.YtphcebgpllecjaaDoor

namespace Go.Proofs.YtphcebgpllecjaaDoor
open Go.RowKit Go.Inq

theorem noteE_op (l : List Tx) (i : Nat) (ops : List Ev) (j : Nat) : noteE (sumW l i) ops j = opE l i ops j := by
  unfold noteE opE
  cases ops[j]? <;> rfl
theorem noteR_op {l : List Tx} {i : Nat} (hi : i < l.length) : noteR (sumW l i) l[i].ops = unlikeR l i := by
  have e : noteE (sumW l i) l[i].ops = opE l i l[i].ops := funext fun j => noteE_op l i _ j
  unfold noteR unlikeR
  rw [List.getElem?_eq_getElem hi, e]
  dsimp only
  cases firstN l[i].ops.length (opE l i l[i].ops) <;> rfl
theorem who_take_some {l : List Tx} {i : Nat} {x : It} : (whoR (l.take i) x).isSome = decide (0 < sumW l i x) := by
  rw [Bool.eq_iff_iff, decide_eq_true_iff]
  constructor
  · intro h
    cases hw : whoR (l.take i) x with
    | none => rw [hw] at h; cases h
    | some k =>
      obtain ⟨t, ht, hp⟩ := who_some hw
      rw [List.getElem?_take] at ht
      split at ht
      · exact sumW_pos.2 ⟨k, t, by assumption, ht, hp⟩
      · cases ht
  · intro h
    obtain ⟨k, t, hk, ht, hp⟩ := sumW_pos.1 h
    cases hw : whoR (l.take i) x with
    | some k => rfl
    | none =>
      have := who_none hw t (List.mem_of_getElem? (i := k) (by rw [List.getElem?_take, if_pos hk, ht]))
      omega
theorem byF_some (l : List Tx) (i : Nat) (x : It) : (byF l i x).isSome = decide (0 < sumW l i x) := by
  rw [← who_take_some]
  unfold byF
  cases whoR (l.take i) x <;> rfl
theorem who_step {l : List Tx} {i : Nat} (hi : i < l.length) (x : It) : whoR (l.take (i + 1)) x = match whoR (l.take i) x with | some k => some k | none => if 0 < wrT l[i] x then some i else none := by
  unfold whoR
  rw [List.take_succ_eq_append_getElem hi, List.findIdx?_append, List.length_take, Nat.min_eq_left (by omega)]
  cases List.findIdx? (fun t => decide (0 < wrT t x)) (l.take i) with
  | some k => rfl
  | none =>
    by_cases h : 0 < wrT l[i] x
    · simp [h]
    · simp [h]
/-- Who writes, told as the program's map has it. -/
def writerOf (l : List Tx) (i : Nat) (t : Tx) : Int × Int := ((i : Int), if t.done = true then (numR7 l i : Int) else -1)
theorem byF_next {l : List Tx} {i : Nat} (hi : i < l.length) (hu : unlikeR l i = 0) (x : It) : noted (byF l i) (writerOf l i l[i]) l[i].ops l[i].ops.length x = byF l (i + 1) x := by
  have hi' : l[i]? = some l[i] := List.getElem?_eq_getElem hi
  unfold noted
  by_cases h : 0 < Go.Inq.wr l[i].ops l[i].ops.length x
  · rw [if_pos h]
    have hs := (unlike_write hi' hu (x := x) h).2
    have hw : whoR (l.take i) x = none := by
      have := who_take_some (l := l) (i := i) (x := x)
      rw [hs] at this
      cases hw : whoR (l.take i) x with
      | none => rfl
      | some k => rw [hw] at this; cases this
    have h2 : 0 < wrT l[i] x := h
    unfold byF
    rw [who_step hi, hw]
    dsimp only
    rw [if_pos h2]
    simp [hi', writerOf]
  · rw [if_neg h]
    have h2 : ¬ 0 < wrT l[i] x := h
    unfold byF
    rw [who_step hi]
    cases whoR (l.take i) x with
    | some k => rfl
    | none => dsimp only; rw [if_neg h2]
theorem byF_zero (l : List Tx) (x : It) : byF l 0 x = none := by
  unfold byF whoR
  simp
theorem byF_none {l : List Tx} {x : It} (h : whoR l x = none) : byF l l.length x = none := by
  unfold byF
  rw [List.take_length, h]
  rfl
theorem byF_hit {l : List Tx} {x : It} {k : Nat} (hk : k < l.length) (h : whoR l x = some k) : byF l l.length x = some (writerOf l k l[k]) := by
  unfold byF
  rw [List.take_length, h]
  simp [List.getElem?_eq_getElem hk, writerOf]
end Go.Proofs.YtphcebgpllecjaaDoor

namespace Go.Proofs.YtphcebgpllecjaaDoor
open Go.RowKit Go.Inq

/-- What is looked at of a transaction: reads, writes; nothing of one that was given up. -/
def faceAt (l : List Tx) (j : Nat) : List It × List It := match l[j]? with
  | some t => if t.done = true then ((lookR t.ops).reads, (lookR t.ops).writes) else ([], [])
  | none => ([], [])
def faceTo (l : List Tx) (i j : Nat) : List It × List It := if j < i then faceAt l j else ([], [])
theorem faceAt_at {l : List Tx} {j : Nat} (hj : j < l.length) : faceAt l j = if l[j].done = true then ((lookR l[j].ops).reads, (lookR l[j].ops).writes) else ([], []) := by
  unfold faceAt
  rw [List.getElem?_eq_getElem hj]
theorem faceTo_next (l : List Tx) (i j : Nat) : faceTo l (i + 1) j = if j = i then faceAt l i else faceTo l i j := by
  unfold faceTo
  by_cases h : j = i
  · subst h
    rw [if_pos (by omega), if_pos rfl]
  · rw [if_neg h]
    by_cases h2 : j < i
    · rw [if_pos (by omega), if_pos h2]
    · rw [if_neg (by omega), if_neg h2]
theorem faceTo_all {l : List Tx} {j : Nat} (hj : j < l.length) : faceTo l l.length j = faceAt l j := by
  unfold faceTo; rw [if_pos hj]

/-- A block of n faces. -/
def Faces (w : World) (g n : Nat) (t : TypeId) (K : Nat → Prop) (F : Nat → List It × List It) : Prop :=
  ∃ cs : Array Value, Blk w g t cs ∧ cs.size = n * 2 ∧ ∀ j, j < n → ∃ Ar cr Aw cw, cs[j * 2]? = some (.slice Ar (F j).1.length cr) ∧ cs[j * 2 + 1]? = some (.slice Aw (F j).2.length cw) ∧
    ItS w K (.slice Ar (F j).1.length cr) (F j).1 ∧ ItS w K (.slice Aw (F j).2.length cw) (F j).2
section
variable {w w' : World} {g n : Nat} {t : TypeId} {K K' : Nat → Prop} {F F' : Nat → List It × List It}
theorem Faces.lt (h : Faces w g n t K F) : g < w.heap.size := by
  obtain ⟨cs, hb, _⟩ := h
  exact hb.lt
theorem Faces.frozen (h : Faces w g n t K F) (i : Nat) : w.frozen? ⟨g, i, none⟩ = false := by
  obtain ⟨cs, hb, _⟩ := h
  exact hb.frozen i
theorem Faces.at_ (h : Faces w g n t K F) {j : Nat} (hj : j < n) : ∃ Ar cr Aw cw, w.cell? ⟨g, j * 2, none⟩ = some (.slice Ar (F j).1.length cr) ∧ w.cell? ⟨g, j * 2 + 1, none⟩ = some (.slice Aw (F j).2.length cw) ∧
    ItS w K (.slice Ar (F j).1.length cr) (F j).1 ∧ ItS w K (.slice Aw (F j).2.length cw) (F j).2 := by
  obtain ⟨cs, hb, hn, hc⟩ := h
  obtain ⟨Ar, cr, Aw, cw, h1, h2, h3, h4⟩ := hc j hj
  exact ⟨Ar, cr, Aw, cw, (hb.cell _).trans h1, (hb.cell _).trans h2, h3, h4⟩
theorem Faces.keep (h : Faces w g n t K F) (ha : Agree K w w') (hg : w'.heap[g]? = w.heap[g]?) (hk : ∀ b, K b → K' b) : Faces w' g n t K' F := by
  obtain ⟨cs, hb, hn, hc⟩ := h
  refine ⟨cs, hg.trans hb, hn, fun j hj => ?_⟩
  obtain ⟨Ar, cr, Aw, cw, h1, h2, h3, h4⟩ := hc j hj
  exact ⟨Ar, cr, Aw, cw, h1, h2, ItS.keep h3 ha hk, ItS.keep h4 ha hk⟩
theorem Faces.same (h : Faces w g n t K F) (hF : ∀ j, j < n → F j = F' j) : Faces w g n t K F' := by
  obtain ⟨cs, hb, hn, hc⟩ := h
  refine ⟨cs, hb, hn, fun j hj => ?_⟩
  rw [← hF j hj]
  exact hc j hj
theorem Faces.set_ (h : Faces w g n t K F) {i : Nat} (hi : i < n) (hg : ¬ K g) {Ar Aw : Option Addr} {cr cw : Nat} {rs ws : List It} (hr : ItS w K (.slice Ar rs.length cr) rs) (hw : ItS w K (.slice Aw ws.length cw) ws) :
    Faces ((w.setCell ⟨g, i * 2, none⟩ (.slice Ar rs.length cr)).setCell ⟨g, i * 2 + 1, none⟩ (.slice Aw ws.length cw)) g n t K (fun j => if j = i then (rs, ws) else F j) := by
  obtain ⟨cs, hb, hn, hc⟩ := h
  have ha : Agree K w ((w.setCell ⟨g, i * 2, none⟩ (.slice Ar rs.length cr)).setCell ⟨g, i * 2 + 1, none⟩ (.slice Aw ws.length cw)) := (Agree.setCell ⟨g, i * 2, none⟩ hg _).trans (Agree.setCell ⟨g, i * 2 + 1, none⟩ hg _)
  refine ⟨_, (hb.set_ (i * 2) _).set_ (i * 2 + 1) _, by simp [hn], fun j hj => ?_⟩
  by_cases hji : j = i
  · subst hji
    dsimp only
    rw [if_pos rfl]
    refine ⟨Ar, cr, Aw, cw, ?_, ?_, ItS.keep hr ha (fun _ h => h), ItS.keep hw ha (fun _ h => h)⟩
    · rw [Array.getElem?_setIfInBounds_ne (by omega), Array.getElem?_setIfInBounds_self_of_lt (by omega)]
    · rw [Array.getElem?_setIfInBounds_self_of_lt (by rw [Array.size_setIfInBounds]; omega)]
  · obtain ⟨Ar', cr', Aw', cw', h1, h2, h3, h4⟩ := hc j hj
    dsimp only
    rw [if_neg hji]
    refine ⟨Ar', cr', Aw', cw', ?_, ?_, ItS.keep h3 ha (fun _ h => h), ItS.keep h4 ha (fun _ h => h)⟩
    · rw [Array.getElem?_setIfInBounds_ne (by omega), Array.getElem?_setIfInBounds_ne (by omega)]
      exact h1
    · rw [Array.getElem?_setIfInBounds_ne (by omega), Array.getElem?_setIfInBounds_ne (by omega)]
      exact h2
theorem Faces.new (w : World) (n : Nat) (t : TypeId) (K : Nat → Prop) : Faces (w.alloc (.cells (madeCells (#[.slice none 0 0, .slice none 0 0] : Array Value) (n * 2)) t)) w.heap.size n t K (fun _ => ([], [])) := by
  refine ⟨_, Blk.new w t _, by simp [madeCells], fun j hj => ⟨none, 0, none, 0, ?_, ?_, SlR.nil _ _ _ _ _ _, SlR.nil _ _ _ _ _ _⟩⟩
  · have h1 : j * 2 < n * 2 := by omega
    simp [madeCells, h1]
  · have h1 : j * 2 + 1 < n * 2 := by omega
    have h2 : (j * 2 + 1) % 2 = 1 := by omega
    simp [madeCells, h1, h2]
end

/-- Some face of the first, or some of the first writes of the next, has it. -/
def lastW (l : List Tx) (i m : Nat) (x : It) : Bool := (List.range i).any (fun j => (faceAt l j).2.contains x) || ((faceAt l i).2.take m).contains x
def lastO (l : List Tx) (i m : Nat) (x : It) : Option Bool := if lastW l i m x = true then some true else none
theorem last_zero (l : List Tx) (x : It) : lastO l 0 0 x = none := by
  unfold lastO lastW
  simp
theorem last_round (l : List Tx) (i : Nat) (x : It) : lastO l (i + 1) 0 x = lastO l i (faceAt l i).2.length x := by
  unfold lastO lastW
  rw [List.range_succ, List.any_append, List.take_length, List.take_zero]
  simp
theorem last_next {l : List Tx} {i m : Nat} (hm : m < (faceAt l i).2.length) (x : It) : lastO l i (m + 1) x = if x = (faceAt l i).2[m] then some true else lastO l i m x := by
  unfold lastO lastW
  rw [List.take_succ_eq_append_getElem hm]
  generalize (List.range i).any (fun j => (faceAt l j).2.contains x) = u
  generalize (faceAt l i).2[m] = y
  generalize (faceAt l i).2.take m = r
  by_cases hx : x = y
  · subst hx
    simp
  · rw [if_neg hx]
    simp [hx]
theorem last_all (l : List Tx) (x : It) : lastO l l.length 0 x = if lastB l x = true then some true else none := by
  unfold lastO
  have : lastW l l.length 0 x = lastB l x := by
    unfold lastW lastB
    rw [List.take_zero]
    rw [Bool.eq_iff_iff]
    simp only [Bool.or_eq_true, List.any_eq_true, List.mem_range, List.contains_nil, Bool.false_eq_true, or_false, Bool.and_eq_true]
    constructor
    · rintro ⟨j, hj, hc⟩
      rw [faceAt_at hj] at hc
      by_cases hd : l[j].done = true
      · rw [if_pos hd] at hc
        exact ⟨l[j], List.getElem_mem hj, hd, hc⟩
      · rw [if_neg hd] at hc
        simp at hc
    · rintro ⟨t, ht, hd, hc⟩
      obtain ⟨j, hj, rfl⟩ := List.getElem_of_mem ht
      refine ⟨j, hj, ?_⟩
      rw [faceAt_at hj, if_pos hd]
      exact hc
  rw [this]
theorem last_val (l : List Tx) (x : It) : valOr encB (.bool false) (lastO l l.length 0 x) = .bool (lastB l x) := by
  rw [last_all]
  cases lastB l x <;> rfl

theorem from_zero {l : List Tx} {x : It} (h : x.b = 0) : fromR l x = (-1, 0) := by
  unfold fromR; rw [if_pos h]
theorem by_ways (l : List Tx) (x : It) : (whoR l x = none ∧ byF l l.length x = none) ∨ ∃ k, ∃ hk : k < l.length, whoR l x = some k ∧ byF l l.length x = some (writerOf l k l[k]) := by
  cases hw : whoR l x with
  | none => exact .inl ⟨rfl, byF_none hw⟩
  | some k =>
    obtain ⟨t, ht, _⟩ := who_some hw
    have hk : k < l.length := by
      rcases Nat.lt_or_ge k l.length with h | h
      · exact h
      · rw [List.getElem?_eq_none h] at ht; cases ht
    exact .inr ⟨k, hk, rfl, byF_hit hk hw⟩
theorem from_thin {l : List Tx} {x : It} (h : x.b ≠ 0) (hb : byF l l.length x = none) : fromR l x = (0, 12) := by
  rcases by_ways l x with ⟨h1, _⟩ | ⟨k, hk, _, h2⟩
  · unfold fromR; rw [if_neg h, h1]
  · rw [hb] at h2; cases h2
theorem from_gone {l : List Tx} {x : It} {p q : Int} (h : x.b ≠ 0) (hb : byF l l.length x = some (p, q)) (hq : q < 0) : fromR l x = (0, 13) := by
  rcases by_ways l x with ⟨_, h2⟩ | ⟨k, hk, h1, h2⟩
  · rw [hb] at h2; cases h2
  · rw [hb] at h2
    injection h2 with h2
    unfold writerOf at h2
    injection h2 with h3 h4
    unfold fromR
    rw [if_neg h, h1]
    dsimp only
    rw [List.getElem?_eq_getElem hk]
    dsimp only
    by_cases hd : l[k].done = true
    · rw [if_pos hd] at h4; omega
    · rw [if_pos (by simpa using hd)]
theorem from_kept {l : List Tx} {x : It} {p q : Int} (h2 : ∀ i, i < l.length → unlikeR l i = 0) (h3 : ∀ i, i < l.length → lookAt l i = 0) (h : x.b ≠ 0) (hb : byF l l.length x = some (p, q)) (hq : ¬ q < 0) :
    fromR l x = if lastB l x = false then (0, 14) else (q, 0) := by
  rcases by_ways l x with ⟨_, h5⟩ | ⟨k, hk, h1, h5⟩
  · rw [hb] at h5; cases h5
  · rw [hb] at h5
    injection h5 with h5
    unfold writerOf at h5
    injection h5 with h6 h4
    have hk2 := List.getElem?_eq_getElem hk
    unfold fromR
    rw [if_neg h, h1]
    dsimp only
    rw [hk2]
    dsimp only
    by_cases hd : l[k].done = true
    · rw [if_pos hd] at h4
      rw [if_neg (by simp [hd])]
      obtain ⟨t, ht, hp⟩ := who_some h1
      rw [hk2] at ht
      injection ht with ht
      subst ht
      rw [last_middle h2 h3 hk2 hd hp]
      cases middleB (lookR l[k].ops).writes x with
      | true => rfl
      | false => simp [h4]
    · rw [if_neg hd] at h4; omega
end Go.Proofs.YtphcebgpllecjaaDoor

namespace Go.Proofs.YtphcebgpllecjaaDoor
open Go.RowKit Go.Inq
set_option maxHeartbeats 4000000
attribute [local go_sem ↓] Go.wp_at_zero Go.wp_at_succ

/-- Transactions that are few, and short. -/
def SmallT (l : List Tx) : Prop := l.length ≤ 1000 ∧ ∀ t ∈ l, t.ops.length ≤ 1000
theorem sumW_le {l : List Tx} (h : ∀ t ∈ l, t.ops.length ≤ 1000) (x : It) : ∀ n, n ≤ l.length → sumW l n x ≤ n * 1000
  | 0, _ => Nat.zero_le _
  | n + 1, hn => by
    have h1 := sumW_le h x n (by omega)
    have h2 := h _ (List.getElem_mem (show n < l.length by omega))
    have h3 := wr_le (l[n]'(by omega)).ops (l[n]'(by omega)).ops.length x
    rw [sumW_step (by omega)]
    unfold wrT
    omega
theorem opE_at {l : List Tx} {i : Nat} {ops : List Ev} {j : Nat} (hj : j < ops.length) : opE l i ops j = if ops[j].kind ≠ 2 then 0 else if ops[j].val = 0 then 7 else if 0 < wr ops j ⟨ops[j].key, ops[j].val⟩ + sumW l i ⟨ops[j].key, ops[j].val⟩ then 8 else 0 := by
  unfold opE
  rw [List.getElem?_eq_getElem hj]
theorem unlike_bad {l : List Tx} {i : Nat} (hi : i < l.length) {j : Nat} (hj : j < l[i].ops.length) (hall : ∀ k, k < j → opE l i l[i].ops k = 0) (hb : opE l i l[i].ops j ≠ 0) : unlikeR l i = opE l i l[i].ops j := by
  unfold unlikeR
  rw [List.getElem?_eq_getElem hi]
  dsimp only
  rw [firstN_some hj hall hb]
theorem unlike_good {l : List Tx} {i : Nat} (hi : i < l.length) (hall : ∀ k, k < l[i].ops.length → opE l i l[i].ops k = 0) : unlikeR l i = 0 := by
  unfold unlikeR
  rw [List.getElem?_eq_getElem hi]
  dsimp only
  rw [firstN_none hall]

end Go.Proofs.YtphcebgpllecjaaDoor

namespace Go.Proofs.YtphcebgpllecjaaDoor
open Go.RowKit Go.Inq
set_option maxHeartbeats 400000

end Go.Proofs.YtphcebgpllecjaaDoor

namespace Go.Proofs.YtphcebgpllecjaaDoor
open Go.RowKit Go.Inq
set_option maxHeartbeats 1000000
attribute [local go_sem ↓] Go.wp_at_zero Go.wp_at_succ
end Go.Proofs.YtphcebgpllecjaaDoor

namespace Go.Proofs.YtphcebgpllecjaaDoor
open Go.RowKit Go.Inq
set_option maxHeartbeats 4000000
attribute [local go_sem ↓] Go.wp_at_zero Go.wp_at_succ

theorem look_len (l : List Ev) : (lookR l).reads.length ≤ 16 ∧ (lookR l).writes.length ≤ 16 := by
  unfold lookR
  split
  · simp
  · have := readsTo_len l 16
    have := writesTo_len l 16
    exact ⟨by assumption, by assumption⟩
theorem who_hit {l : List Tx} {x : It} {i : Nat} (hi : i < l.length) (h : ∀ k (hk : k < l.length), k < i → wrT l[k] x = 0) (hp : 0 < wrT l[i] x) : whoR l x = some i := by
  unfold whoR
  rw [List.findIdx?_eq_some_iff_getElem]
  refine ⟨hi, by simpa using hp, fun j hj => ?_⟩
  have := h j (by omega) hj
  simp [this]
theorem who_miss {l : List Tx} {x : It} (h : ∀ k (hk : k < l.length), wrT l[k] x = 0) : whoR l x = none := by
  unfold whoR
  rw [List.findIdx?_eq_none_iff]
  intro t ht
  obtain ⟨j, hj, rfl⟩ := List.getElem_of_mem ht
  simp [h j hj]
theorem from_zero07 {l : List Tx} {x : It} (h : x.b = 0) : fromR l x = (-1, 0) := by unfold fromR; rw [if_pos h]
theorem from_none {l : List Tx} {x : It} (h : x.b ≠ 0) (hw : whoR l x = none) : fromR l x = (0, 12) := by unfold fromR; rw [if_neg h, hw]
theorem from_some {l : List Tx} {x : It} {i : Nat} (h : x.b ≠ 0) (hi : i < l.length) (hw : whoR l x = some i) :
    fromR l x = if l[i].done = false then (0, 13) else if middleB (lookR l[i].ops).writes x = true then (0, 14) else ((numR7 l i : Int), 0) := by
  unfold fromR
  rw [if_neg h, hw]
  dsimp only
  rw [List.getElem?_eq_getElem hi]
theorem middle_hit {ws : List It} {x : It} {m : Nat} (hm : m < ws.length) (h1 : ws[m].a = x.a) (h2 : ws[m].b ≠ x.b) : middleB ws x = true := by
  unfold middleB
  rw [List.any_eq_true]
  exact ⟨ws[m], List.getElem_mem hm, by simp [h1, h2]⟩
theorem middle_miss {ws : List It} {x : It} (h : ∀ m (hm : m < ws.length), ¬ (ws[m].a = x.a ∧ ws[m].b ≠ x.b)) : middleB ws x = false := by
  unfold middleB
  rw [List.any_eq_false]
  intro y hy
  obtain ⟨j, hj, rfl⟩ := List.getElem_of_mem hy
  have := h j hj
  simp
  intro g
  exact Decidable.of_not_not fun g2 => this ⟨g, g2⟩

end Go.Proofs.YtphcebgpllecjaaDoor

namespace Go.Proofs.YtphcebgpllecjaaDoor
open Go.RowKit Go.Inq
set_option maxHeartbeats 4000000
attribute [local go_sem ↓] Go.wp_at_zero Go.wp_at_succ

theorem infoI7 : (Tryd.prog.info? 3).map (fun i => (i.zero, i.size, i.bytes)) = some (some (.int .i64 0), 1, 8) := by kernel_rfl
theorem infoT7 : (Tryd.prog.info? 49).map (fun i => (i.zero, i.size, i.bytes)) = some (some (.agg #[.int .i64 0, .int .i64 0]), 2, 16) := by kernel_rfl
theorem encI1 : ∀ (x : Int), ∀ u ∈ encI x, u.oneCell' = true := by
  intro x u hu; unfold encI at hu; simp at hu; subst hu; rfl
theorem encIt1 : ∀ (x : It), ∀ u ∈ x.enc, u.oneCell' = true := by
  intro x u hu; unfold It.enc at hu; simp at hu; rcases hu with rfl | rfl <;> rfl
/-- What one hands back. -/
def OneOut (r : Txn × Int) (w : World) (e : Ending) (w' : World) : Prop :=
  ∃ vw vr, e = .returned (.tuple #[.agg #[.int .i64 r.1.sess, vw, vr], .int .i64 r.2]) ∧ IntS w' (fun b => w.heap.size ≤ b ∧ b < w'.heap.size) vw r.1.writes ∧ ItS w' (fun b => w.heap.size ≤ b ∧ b < w'.heap.size) vr r.1.reads ∧ Below w.heap.size w w'
theorem results_one {fn : Func} {t u : Tmp} (h : fn.results = #[.cell t 47, .tmp u]) {tmps : Array Value} {w : World} {g : Nat} {cs : Array Value} (hp : tmps.getD t undef = .pointer (some ⟨g, 0, none⟩))
    (hb : Blk w g 47 cs) (hs : cs.size = 3) : (results fn tmps).run Tryd.prog w = .ok (.tuple #[.agg cs, tmps.getD u undef]) w := by
  have hl := run_loadVar_row (P := Tryd.prog) w g 47 47 cs (0, 0) _ hb Tryd.underlying47 rfl (by rw [hs]; kernel_rfl)
  have hp' : tmps[t]?.getD undef = .pointer (some ⟨g, 0, none⟩) := by simpa using hp
  unfold results
  simp [h, hp', asAddr, hl]
theorem blk_fill3 {w : World} {g : Nat} {t : TypeId} {a b c : Value} (h : Blk w g t #[a, b, c]) (x y z : Value) :
    Blk (((w.setCell ⟨g, 0, none⟩ x).setCell ⟨g, 1, none⟩ y).setCell ⟨g, 2, none⟩ z) g t #[x, y, z] := ((h.set_ 0 x).set_ 1 y).set_ 2 z
theorem below_fill3 {B g : Nat} {a w : World} (h : Below B a w) (hg : B ≤ g) (x y z : Value) :
    Below B a (((w.setCell ⟨g, 0, none⟩ x).setCell ⟨g, 1, none⟩ y).setCell ⟨g, 2, none⟩ z) := ((h.setCell hg _).setCell hg _).setCell hg _
theorem oneR_bad {l : List Tx} {t : Tx} {i : Nat} (hi : i < (lookR t.ops).reads.length) (hj : ∀ j, j < i → readE l (lookR t.ops).reads j = 0) (hb : readE l (lookR t.ops).reads i ≠ 0) :
    oneR l t = (⟨0, [], []⟩, readE l (lookR t.ops).reads i) := by
  unfold oneR
  dsimp only
  rw [firstN_some hi hj hb]
theorem oneR_good {l : List Tx} {t : Tx} (hj : ∀ j, j < (lookR t.ops).reads.length → readE l (lookR t.ops).reads j = 0) :
    oneR l t = (⟨t.sess, (lookR t.ops).writes.map (·.a), (lookR t.ops).reads.map fun r => ⟨r.a, (fromR l r).1⟩⟩, 0) := by
  unfold oneR
  dsimp only
  rw [firstN_none hj]

end Go.Proofs.YtphcebgpllecjaaDoor

namespace Go.Proofs.YtphcebgpllecjaaDoor
open Go.RowKit Go.Inq
set_option maxHeartbeats 8000000
attribute [local go_sem ↓] Go.wp_at_zero Go.wp_at_succ

theorem infoX7 : (Tryd.prog.info? 47).map (fun i => (i.zero, i.size, i.bytes)) = some (some (.agg #[.int .i64 0, .slice none 0 0, .slice none 0 0]), 3, 56) := by kernel_rfl
/-- What a Hist hands back. -/
def HistOut (r : List Txn × Int × Int) (w : World) (e : Ending) (w' : World) : Prop :=
  ∃ v, e = .returned (.tuple #[.agg #[v], .int .i64 r.2.1, .int .i64 r.2.2]) ∧ TxnS w' (fun b => w.heap.size ≤ b ∧ b < w'.heap.size) v r.1 ∧ Below w.heap.size w w'
theorem results_hist {fn : Func} {t u u2 : Tmp} (h : fn.results = #[.cell t 24, .tmp u, .tmp u2]) {tmps : Array Value} {w : World} {g : Nat} {v : Value} (hp : tmps.getD t undef = .pointer (some ⟨g, 0, none⟩))
    (hb : Blk w g 24 #[v]) : (results fn tmps).run Tryd.prog w = .ok (.tuple #[.agg #[v], tmps.getD u undef, tmps.getD u2 undef]) w := by
  have hl := run_loadVar_row (P := Tryd.prog) w g 24 24 #[v] (0, 0) _ hb Tryd.underlying24 rfl (by kernel_rfl)
  have hp' : tmps[t]?.getD undef = .pointer (some ⟨g, 0, none⟩) := by simpa using hp
  unfold results
  simp [h, hp', asAddr, hl]
theorem may_at {l : List Tx} {i : Nat} (hi : i < l.length) : mayAt l i = if mayT l[i] = true then 0 else 1 := by unfold mayAt; rw [List.getElem?_eq_getElem hi]
theorem look_at {l : List Tx} {i : Nat} (hi : i < l.length) : lookAt l i = if l[i].done = true then (lookR l[i].ops).err else 0 := by unfold lookAt; rw [List.getElem?_eq_getElem hi]
theorem one_at {l : List Tx} {i : Nat} (hi : i < l.length) : oneAt l i = if l[i].done = true then (oneR l l[i]).2 else 0 := by unfold oneAt; rw [List.getElem?_eq_getElem hi]

end Go.Proofs.YtphcebgpllecjaaDoor
