/-
  Walks: diary.must, what diary.Parse defers.
-/
import Derived.Defers
import Derived.Recover
import Derived.Test.YtphcebgpllecjaaGreatDoorC18
import Derived.Test.YtphcebgpllecjaaGreatDoorC27
import Derived.Test.YtphcebgpllecjaaGreatDoorC23
import Derived.Test.YtphcebgpllecjaaGreatDoorC06
import Derived.Test.YtphcebgpllecjaaGreatDoorC13
import Derived.Test.YtphcebgpllecjaaGreatDoorC11
import Derived.Test.YtphcebgpllecjaaGreatDoorC16
import Derived.Test.YtphcebgpllecjaaGreatDoorC02
set_option linter.unusedVariables false
set_option linter.unusedSimpArgs false
namespace Go.Proofs.YtphcebgpllecjaaGreatDoor
open Go.RowKit Go.Inq
set_option maxHeartbeats 2000000
attribute [local go_sem ↓] Go.wp_at_zero Go.wp_at_succ

theorem must_ok (a : Int) (w : World) : Calls Tryz.prog 29 #[.int .i64 a, .int .i64 0] w fun e w' => e = .returned (.tuple #[]) ∧ w = w' := by
  go_enter Tryz.func29, Tryz.ntmps29
  go_wp2
  go_end0
  exact ⟨rfl, rfl⟩
theorem must_bad (a f : Int) (hf : f ≠ 0) (w : World) : Calls Tryz.prog 29 #[.int .i64 a, .int .i64 f] w fun e w' => e = .panicked [{ v := .iface 66 (.agg #[.int .i64 a, .int .i64 f]), recovered := false }] ∧ w = w' := by
  have hfb : (f != 0) = true := by simpa using hf
  go_enter Tryz.func29, Tryz.ntmps29
  go_wp2
  exact ⟨rfl, rfl, rfl⟩
theorem assert_wrong (cs : Array Value) (W : World) : (Instr.typeAssert (.iface 66 (.agg cs)) 20 66 true).run Tryz.prog W = .ok (.tuple #[.agg cs, .bool true]) W := by
  kernel_rfl
theorem assert_nil (W : World) : (Instr.typeAssert .nilIface 20 66 true).run Tryz.prog W = .ok (.tuple #[.agg #[.int .i64 0, .int .i64 0], .bool false]) W := by
  kernel_rfl
set_option maxRecDepth 100000 in
theorem catch_idle (w : World) (g : Nat) :
    CallsD Tryz.prog 27 #[.pointer (some ⟨g, 0, none⟩), .pointer (some ⟨g + 1, 0, none⟩), .pointer (some ⟨g + 2, 0, none⟩)] .returning w fun e u' w' => e = .returned (.tuple #[]) ∧ u' = .returning ∧ Below w.heap.size w w' := by
  have h1 := assert_nil
  refine callsD_of_wpS Tryz.func27 rfl fun c₀ cs hu => ?_
  change Code.wpS _ _ _ { tmps := #[.pointer (some ⟨g, 0, none⟩), .pointer (some ⟨g + 1, 0, none⟩), .pointer (some ⟨g + 2, 0, none⟩), undef, undef, undef, undef, undef, undef, undef, undef, undef, undef, undef, undef], defers := [] } _ _
  apply wpS_seq
  apply wpS_region
  simp [wpOpsS, go_sem, recoverD, hu, h1, Exit.thenS]
  refine wpS_of_wp ?_
  go_wp2
  cases c₀
  simp_all [bodyPostS, results, Tryz.results27]
  exact (Below.refl _ _).alloc (Nat.le_refl _) _
set_option maxRecDepth 100000 in
theorem catch_panicking (a f : Int) (older : List PanicEntry) (w : World) (g : Nat) (v0 v1 v2 : Value) (k0 : Blk w g 41 #[v0]) (k1 : Blk w (g + 1) 3 #[v1]) (k2 : Blk w (g + 2) 27 #[v2]) :
    CallsD Tryz.prog 27 #[.pointer (some ⟨g, 0, none⟩), .pointer (some ⟨g + 1, 0, none⟩), .pointer (some ⟨g + 2, 0, none⟩)] (.panicking ({ v := .iface 66 (.agg #[.int .i64 a, .int .i64 f]), recovered := false } :: older)) w fun e u' w' =>
      e = .returned (.tuple #[]) ∧ u' = .panicking ({ v := .iface 66 (.agg #[.int .i64 a, .int .i64 f]), recovered := true } :: older) ∧
        Blk w' g 41 #[.slice none 0 0] ∧ Blk w' (g + 1) 3 #[.int .i64 a] ∧ Blk w' (g + 2) 27 #[.int .i64 f] ∧ Below g w w' := by
  have h1 := assert_wrong #[.int .i64 a, .int .i64 f]
  refine callsD_of_wpS Tryz.func27 rfl fun c₀ cs hu => ?_
  change Code.wpS _ _ _ { tmps := #[.pointer (some ⟨g, 0, none⟩), .pointer (some ⟨g + 1, 0, none⟩), .pointer (some ⟨g + 2, 0, none⟩), undef, undef, undef, undef, undef, undef, undef, undef, undef, undef, undef, undef], defers := [] } _ _
  apply wpS_seq
  apply wpS_region
  simp [wpOpsS, go_sem, recoverD, hu, h1, Exit.thenS]
  have hg := k2.lt
  have kW : Blk (w.alloc (.cells #[.int .i64 a, .int .i64 f] 66)) w.heap.size 66 #[.int .i64 a, .int .i64 f] := Blk.new _ _ _
  have hB : Below g w (w.alloc (.cells #[.int .i64 a, .int .i64 f] 66)) := (Below.refl _ _).alloc (by omega) _
  replace k0 := k0.alloc (.cells #[.int .i64 a, .int .i64 f] 66)
  replace k1 := k1.alloc (.cells #[.int .i64 a, .int .i64 f] 66)
  replace k2 := k2.alloc (.cells #[.int .i64 a, .int .i64 f] 66)
  have n0 : ¬ w.heap.size = g := by omega
  have n1 : ¬ w.heap.size = g + 1 := by omega
  have n2 : ¬ g = w.heap.size := by omega
  have n3 : ¬ g + 1 = w.heap.size := by omega
  generalize w.alloc (.cells #[.int .i64 a, .int .i64 f] 66) = W at *
  generalize w.heap.size = gw at *
  have c0 := kW.cell 0
  have c1 := kW.cell 1
  have f0 := k0.frozen 0
  have f1 := k1.frozen 0
  have f2 := k2.frozen 0
  have d0 := k0.cell 0
  have d1 := k1.cell 0
  have d2 := k2.cell 0
  simp only [List.getElem?_toArray, List.getElem?_cons_zero, List.getElem?_cons_succ] at c0 c1 d0 d1 d2
  refine wpS_of_wp ?_
  go_wp2_with fail
  go_region
  go_wp2
  refine ⟨rfl, _, rfl, .tuple #[], by simp [results, Tryz.results27], rfl, rfl, ?_, ?_, ?_, ?_⟩
  · exact ((k0.set_ 0 _).far (by simp) _).far (by simp) _ |>.drew
  · exact ((k1.far (by simp) _).set_ 0 _).far (by simp) _ |>.drew
  · exact ((k2.far (by simp) _).far (by simp) _).set_ 0 _ |>.drew
  · exact (((hB.setCell (by simp) _).setCell (by simp) _).setCell (by simp) _).drew

/-- The named results, read. -/
theorem results_d {tmps : Array Value} {w : World} {g : Nat} {v0 v1 v2 : Value} (h2 : tmps.getD 2 undef = .pointer (some ⟨g, 0, none⟩)) (h3 : tmps.getD 3 undef = .pointer (some ⟨g + 1, 0, none⟩)) (h4 : tmps.getD 4 undef = .pointer (some ⟨g + 2, 0, none⟩))
    (k0 : Blk w g 41 #[v0]) (k1 : Blk w (g + 1) 3 #[v1]) (k2 : Blk w (g + 2) 27 #[v2]) : (results Tryz.f13 tmps).run Tryz.prog w = .ok (.tuple #[v0, v1, v2]) w := by
  have c0 := k0.cell 0
  have c1 := k1.cell 0
  have c2 := k2.cell 0
  simp only [List.getElem?_toArray, List.getElem?_cons_zero] at c0 c1 c2
  have e2 : tmps[2]?.getD undef = .pointer (some ⟨g, 0, none⟩) := by simpa using h2
  have e3 : tmps[3]?.getD undef = .pointer (some ⟨g + 1, 0, none⟩) := by simpa using h3
  have e4 : tmps[4]?.getD undef = .pointer (some ⟨g + 2, 0, none⟩) := by simpa using h4
  unfold results
  simp [Tryz.results13, e2, e3, e4, go_sem, c0, c1, c2]
/-- What diary.Parse defers. -/
def later (g : Nat) : Deferred := { target := .fn (.func 27) #[.pointer (some ⟨g, 0, none⟩), .pointer (some ⟨g + 1, 0, none⟩), .pointer (some ⟨g + 2, 0, none⟩)], args := #[] }
theorem leaves_bad {R : Ending → World → Prop} {tmps : Array Value} (a f : Int) {w : World} {g : Nat} {v0 v1 v2 : Value} (k0 : Blk w g 41 #[v0]) (k1 : Blk w (g + 1) 3 #[v1]) (k2 : Blk w (g + 2) 27 #[v2])
    (h2 : tmps.getD 2 undef = .pointer (some ⟨g, 0, none⟩)) (h3 : tmps.getD 3 undef = .pointer (some ⟨g + 1, 0, none⟩)) (h4 : tmps.getD 4 undef = .pointer (some ⟨g + 2, 0, none⟩))
    (h : ∀ w', Below g w w' → R (.returned (.tuple #[.slice none 0 0, .int .i64 a, .int .i64 f])) w') :
    Leaves Tryz.prog Tryz.f13 tmps R [later g] (.panicking [{ v := .iface 66 (.agg #[.int .i64 a, .int .i64 f]), recovered := false }]) w := by
  refine leaves_cons (f := 27) (args := #[.pointer (some ⟨g, 0, none⟩), .pointer (some ⟨g + 1, 0, none⟩), .pointer (some ⟨g + 2, 0, none⟩)]) (by simp) (by simp [go_sem]) ?_
  refine (catch_panicking a f [] w g v0 v1 v2 k0 k1 k2).mono ?_
  rintro e u' w'' ⟨rfl, rfl, j0, j1, j2, hb⟩
  exact ⟨_, results_d h2 h3 h4 j0 j1 j2, h w'' hb⟩
theorem leaves_good {R : Ending → World → Prop} {tmps : Array Value} {w : World} {g : Nat} {v0 v1 v2 : Value} (k0 : Blk w g 41 #[v0]) (k1 : Blk w (g + 1) 3 #[v1]) (k2 : Blk w (g + 2) 27 #[v2])
    (h2 : tmps.getD 2 undef = .pointer (some ⟨g, 0, none⟩)) (h3 : tmps.getD 3 undef = .pointer (some ⟨g + 1, 0, none⟩)) (h4 : tmps.getD 4 undef = .pointer (some ⟨g + 2, 0, none⟩))
    (h : ∀ w', Below w.heap.size w w' → R (.returned (.tuple #[v0, v1, v2])) w') : Leaves Tryz.prog Tryz.f13 tmps R [later g] .returning w := by
  refine leaves_cons (f := 27) (args := #[.pointer (some ⟨g, 0, none⟩), .pointer (some ⟨g + 1, 0, none⟩), .pointer (some ⟨g + 2, 0, none⟩)]) (by simp) (by simp [go_sem]) ?_
  refine (catch_idle w g).mono ?_
  rintro e u' w'' ⟨rfl, rfl, hb⟩
  exact ⟨_, results_d h2 h3 h4 (k0.below hb k0.lt) (k1.below hb k1.lt) (k2.below hb k2.lt), h w'' hb⟩
end Go.Proofs.YtphcebgpllecjaaGreatDoor

namespace Go.Proofs.YtphcebgpllecjaaGreatDoor
open Go.RowKit Go.Inq
set_option maxHeartbeats 2000000
attribute [local go_sem ↓] Go.wp_at_zero Go.wp_at_succ

theorem three_new (w : World) (v0 v1 v2 : Value) : Blk (((w.alloc (.cells #[v0] 41)).alloc (.cells #[v1] 3)).alloc (.cells #[v2] 27)) w.heap.size 41 #[v0] ∧
    Blk (((w.alloc (.cells #[v0] 41)).alloc (.cells #[v1] 3)).alloc (.cells #[v2] 27)) (w.heap.size + 1) 3 #[v1] ∧
    Blk (((w.alloc (.cells #[v0] 41)).alloc (.cells #[v1] 3)).alloc (.cells #[v2] 27)) (w.heap.size + 2) 27 #[v2] ∧
    Below w.heap.size w (((w.alloc (.cells #[v0] 41)).alloc (.cells #[v1] 3)).alloc (.cells #[v2] 27)) ∧
    (((w.alloc (.cells #[v0] 41)).alloc (.cells #[v1] 3)).alloc (.cells #[v2] 27)).heap.size = w.heap.size + 3 := by
  refine ⟨((Blk.new _ _ _).alloc _).alloc _, ?_, ?_, (((Below.refl _ _).alloc (Nat.le_refl _) _).alloc (by simp) _).alloc (by simp; omega) _, by simp⟩
  · have := (Blk.new (w.alloc (.cells #[v0] 41)) 3 #[v1]).alloc (.cells #[v2] 27)
    rwa [show (w.alloc (.cells #[v0] 41)).heap.size = w.heap.size + 1 by simp] at this
  · have := Blk.new ((w.alloc (.cells #[v0] 41)).alloc (.cells #[v1] 3)) 27 #[v2]
    rwa [show ((w.alloc (.cells #[v0] 41)).alloc (.cells #[v1] 3)).heap.size = w.heap.size + 2 by simp] at this

set_option maxRecDepth 100000 in
theorem dparse_any (s : ByteArray) (w : World) (hs : s.size ≤ 1000000) (henv : Env w) : Calls Tryz.prog 13 #[.string s] w (EvOut (diaryR s.data.toList) w) := by
  obtain ⟨ie, hie, hie1, hie2, hie3⟩ := info_parts infoE
  have hmf : ∀ (fn : Fn) (first cap : Array Value) (w : World), (Instr.makeFunc fn first cap).run Tryz.prog w = .ok (.func fn first cap) w := fun _ _ _ _ => rfl
  obtain ⟨k0, k1, k2, hB, hsz⟩ := three_new w (.slice none 0 0) (.int .i64 0) (.int .i64 0)
  have hE := henv.below hB
  have hsp := lsplit_any s _ hs hE.glob
  generalize hW0 : ((w.alloc (.cells #[.slice none 0 0] 41)).alloc (.cells #[.int .i64 0] 3)).alloc (.cells #[.int .i64 0] 27) = W0 at *
  by_cases h0 : (splitR s.data.toList).2 ≠ 0
  · have hr := hide (diaryR_split h0)
    generalize splitR s.data.toList = sp at *
    obtain ⟨ls, f⟩ := sp
    go_enter_defers Tryz.func13, Tryz.ntmps13
    go_wp2_with fail
    refine hsp.mono ?_
    intro e w1 ho
    obtain ⟨A, c, rfl, -, hb⟩ := RowOut.open ho
    clear ho hsp
    have j0 := k0.below hb k0.lt
    have j1 := k1.below hb k1.lt
    have j2 := k2.below hb k2.lt
    have c2 := j2.cell 0
    have f2 := j2.frozen 0
    simp at c2
    have i0 := j0.far (p := ⟨w.heap.size + 2, 0, none⟩) (by simp) (.int .i64 f)
    have i1 := j1.far (p := ⟨w.heap.size + 2, 0, none⟩) (by simp) (.int .i64 f)
    have i2 := j2.set_ 0 (.int .i64 f)
    have hB2 := (hB.trans (hb.mono hB.size)).setCell (p := ⟨w.heap.size + 2, 0, none⟩) (by simp) (.int .i64 f)
    go_wp2_with fail
    refine (must_bad 0 f h0 _).mono ?_
    rintro e w' ⟨rfl, rfl⟩
    go_wp2
    refine leaves_bad 0 f i0 i1 i2 rfl rfl rfl fun w' hb' => ?_
    exact ⟨.slice none 0 0, by rw [hr.out], by rw [hr.out]; exact EvS.nil _ _ _ _, hB2.trans hb'⟩
  · have h0' : (splitR s.data.toList).2 = 0 := by omega
    have hr := hide (diaryR_rows h0')
    have hlen := splitR_len s.data.toList
    have hszr : ∀ i (h : i < (splitR s.data.toList).1.length), (mk (splitR s.data.toList).1[i]).size ≤ 1000000 := fun i h => by
      have := rows_len h0' (List.getElem_mem h)
      rw [← Lib.size_eq] at this
      rw [mk_size]
      omega
    replace hsp := hsp.mono fun e w1 ho => RowOut.open ho
    rw [h0'] at hsp
    clear h0 h0'
    generalize (splitR s.data.toList).1 = rows at *
    replace hszr := hide hszr
    go_enter_defers Tryz.func13, Tryz.ntmps13
    go_wp2_with fail
    refine hsp.mono ?_
    rintro e w1 ⟨A, c, rfl, hl, hb⟩
    have j0 := k0.below hb k0.lt
    have j1 := k1.below hb k1.lt
    have j2 := k2.below hb k2.lt
    have c2 := j2.cell 0
    have f2 := j2.frozen 0
    simp at c2
    have i0 := j0.far (p := ⟨w.heap.size + 2, 0, none⟩) (by simp) (.int .i64 0)
    have i1 := j1.far (p := ⟨w.heap.size + 2, 0, none⟩) (by simp) (.int .i64 0)
    have i2 := j2.set_ 0 (.int .i64 0)
    have hB2 := (hB.trans (hb.mono hB.size)).setCell (p := ⟨w.heap.size + 2, 0, none⟩) (by simp) (.int .i64 0)
    have hl2 : StrS (w1.setCell ⟨w.heap.size + 2, 0, none⟩ (.int .i64 0)) (fun b => w.heap.size + 3 ≤ b ∧ b < w1.heap.size) (.slice A rows.length c) (rows.map mk) := StrS.keep hl (Agree.setCell _ (by intro h; have := h.1; rw [hsz] at this; simp at this) _) (fun b h => ⟨by have := h.1; omega, h.2⟩)
    have hs2 : w1.heap.size ≤ (w1.setCell ⟨w.heap.size + 2, 0, none⟩ (.int .i64 0)).heap.size := by simp
    have hs1 : w.heap.size + 3 ≤ w1.heap.size := by have := hb.size; omega
    clear k0 k1 k2 hl hsp hW0 hE hB j0 j1 j2
    go_wp2_with fail
    refine (must_ok 0 _).mono ?_
    rintro e w' ⟨rfl, rfl⟩
    clear c2 f2 hb hsz
    generalize w1.setCell ⟨w.heap.size + 2, 0, none⟩ (.int .i64 0) = W2 at *
    generalize w1.heap.size = B1 at *
    go_wp2_with fail
    go_loopw [6, 7, 8, 9, 20] (fun _ _ _ _ s20 wr => ∃ (i : Nat) (v : Value), i ≤ rows.length ∧ s20 = .int .i64 i ∧ Blk wr w.heap.size 41 #[v] ∧ Blk wr (w.heap.size + 1) 3 #[.int .i64 0] ∧ Blk wr (w.heap.size + 2) 27 #[.int .i64 0] ∧
      StrS wr (fun b => w.heap.size + 3 ≤ b ∧ b < B1) (.slice A rows.length c) (rows.map mk) ∧ wr.ownsRow B1 56 4 v (evl (rows.take i)).length ((evl (rows.take i)).map Ev.enc).flatten ∧ Hid (∀ j, j < i → rowE rows j = 0) ∧ Below w.heap.size w wr ∧ B1 ≤ wr.heap.size) (fun _ _ _ _ s20 _ => rows.length - (intOf s20).toNat)
    case atStart => exact ⟨0, .slice none 0 0, Nat.zero_le _, by go_num, i0, i1, i2, hl2, World.ownsRow_nil _ _ _ _, fun j h => absurd h (by omega), hB2, hs2⟩
    case round =>
      obtain ⟨i, v, hi, rfl, k0, k1, k2, hl, hown, hok, hbr, hsb⟩ := hrel
      clear i0 i1 i2 hl2 hB2 hs2
      by_cases hlt : i < rows.length
      · obtain ⟨b, off, rfl, hbK, c0⟩ := StrS.at_ hl (i := i) (by rw [List.length_map]; exact hlt)
        rw [List.getElem_map] at c0
        have hi1 : (0 : Int) ≤ (i : Int) := Int.natCast_nonneg _
        have hi2 : (i : Int) < (rows.length : Int) := by omega
        have hpar := eparse_any (mk rows[i]) wr (hszr.out i hlt) (henv.below hbr)
        rw [mk_bytes] at hpar
        have hrow := rowE_at hlt
        have htk := hide (evl_take hlt)
        have hbad := hide (evsR_bad (rows := rows) (i := i) hlt hok.out)
        have hok2 : (parseR rows[i]).2 = 0 → ∀ j, j < i + 1 → rowE rows j = 0 := fun h j hj => by
          by_cases hji : j = i
          · subst hji; rw [hrow]; exact h
          · exact hok.out j (by omega)
        rw [hrow] at hbad
        have hti : (evl (rows.take i)).length = i := by rw [evl_len, List.length_take]; omega
        have hoff : ∀ b', v.ownBlock = some b' → B1 ≤ b' := fun b' h => (hown.lt b' h).1
        generalize mk rows[i] = tx at *
        generalize parseR rows[i] = pr at *
        obtain ⟨⟨x0, x1, x2, x3⟩, f⟩ := pr
        dsimp only at hbad hok2
        clear hrow hok hbK
        go_wp2_with fail
        refine hpar.mono ?_
        rintro e w2 ⟨rfl, hb2⟩
        have m0 := (k0.below hb2 k0.lt).alloc (.cells #[.int .i64 x0, .int .i64 x1, .int .i64 x2, .int .i64 x3] 56)
        have m1 := (k1.below hb2 k1.lt).alloc (.cells #[.int .i64 x0, .int .i64 x1, .int .i64 x2, .int .i64 x3] 56)
        have m2 := (k2.below hb2 k2.lt).alloc (.cells #[.int .i64 x0, .int .i64 x1, .int .i64 x2, .int .i64 x3] 56)
        have hown3 := (own_below hown hb2 (Nat.le_refl _)).alloc (.cells #[.int .i64 x0, .int .i64 x1, .int .i64 x2, .int .i64 x3] 56)
        have hl3 : StrS (w2.alloc (.cells #[.int .i64 x0, .int .i64 x1, .int .i64 x2, .int .i64 x3] 56)) (fun b => w.heap.size + 3 ≤ b ∧ b < B1) (.slice (some ⟨b, off, none⟩) rows.length c) (rows.map mk) := StrS.keep hl ((Agree.below hb2 (fun b h => Nat.lt_of_lt_of_le h.2 hsb)).trans (Agree.alloc (fun b h => Nat.lt_of_lt_of_le h.2 (Nat.le_trans hsb hb2.size)) _)) (fun _ h => h)
        have hB3 := (hbr.trans (hb2.mono hbr.size)).alloc (hbr.trans (hb2.mono hbr.size)).size (.cells #[.int .i64 x0, .int .i64 x1, .int .i64 x2, .int .i64 x3] 56)
        have hs3 : B1 ≤ (w2.alloc (.cells #[.int .i64 x0, .int .i64 x1, .int .i64 x2, .int .i64 x3] 56)).heap.size := by have := hb2.size; simp; omega
        have hy : (w2.alloc (.cells #[.int .i64 x0, .int .i64 x1, .int .i64 x2, .int .i64 x3] 56)).heap.size = w2.heap.size + 1 := by simp
        have kX : Blk (w2.alloc (.cells #[.int .i64 x0, .int .i64 x1, .int .i64 x2, .int .i64 x3] 56)) w2.heap.size 56 #[.int .i64 x0, .int .i64 x1, .int .i64 x2, .int .i64 x3] := Blk.new _ _ _
        clear hown hpar hl k0 k1 k2 hb2 hbr hsb c0
        go_wp2_with fail
        generalize w2.alloc (.cells #[.int .i64 x0, .int .i64 x1, .int .i64 x2, .int .i64 x3] 56) = W3 at *
        have c0 := m0.cell 0
        have a0 := kX.cell 0
        have a1 := kX.cell 1
        have a2 := kX.cell 2
        have a3 := kX.cell 3
        simp only [List.getElem?_toArray, List.getElem?_cons_zero, List.getElem?_cons_succ] at c0 a0 a1 a2 a3
        by_cases hf : f = 0
        · subst hf
          have hok3 := hide (hok2 rfl)
          clear hbad hok2
          refine (must_ok _ _).mono ?_
          rintro e w' ⟨rfl, rfl⟩
          rw [hti] at hown3
          generalize hL : evl (rows.take i) = L at *
          have kN : SlR 4 (Flat Ev.enc) (W3.alloc (.cells #[.int .i64 x0, .int .i64 x1, .int .i64 x2, .int .i64 x3] 56)) (fun _ => True) (.slice (some ⟨W3.heap.size, 0, none⟩) 1 1) [(⟨x0, x1, x2, x3⟩ : Ev)] := SlR.one (R := Flat Ev.enc) (K := fun _ => True) (x := (⟨x0, x1, x2, x3⟩ : Ev)) (Blk.new W3 56 #[.int .i64 x0, .int .i64 x1, .int .i64 x2, .int .i64 x3]) rfl rfl trivial
          replace kN := hide kN
          replace hti := hide hti
          replace hoff := hide hoff
          replace hy := hide hy
          go_wp2_with (at_builtin; refine wpList_append_flat (enc := Ev.enc) rfl (.tmp 34) (.tmp 36) 41 rfl B1 56 ie _ 4 32 Tryz.underlying41 hie hie1 hie2 hie3 rfl (by decide) v (fun _ => True) L rfl (by rw [hti.out]; exact hown3.alloc _) (fun _ => rfl) _ [(⟨x0, x1, x2, x3⟩ : Ev)] rfl kN.out encE_one (by have := hti.out; simp [maxLen]; omega) (by have := hti.out; simp; omega) (by have := hB3.size; simp; omega) ?_; intro v6 W6 hown6 hgrow6 hat6; obtain ⟨A6, c6, rfl⟩ := own_slice hown6; have m0' := (m0.alloc (.cells #[.int .i64 x0, .int .i64 x1, .int .i64 x2, .int .i64 x3] 56)).grown hgrow6 (fun e => by have := hoff.out _ e.symm; omega); have cm := m0'.cell 0; have fm := m0'.frozen 0; simp only [List.getElem?_toArray, List.getElem?_cons_zero] at cm)
          go_roundw
          case rel =>
            have m1' := (m1.alloc (.cells #[.int .i64 x0, .int .i64 x1, .int .i64 x2, .int .i64 x3] 56)).grown hgrow6 (fun e => by have := hoff.out _ e.symm; omega)
            have m2' := (m2.alloc (.cells #[.int .i64 x0, .int .i64 x1, .int .i64 x2, .int .i64 x3] 56)).grown hgrow6 (fun e => by have := hoff.out _ e.symm; omega)
            refine ⟨i + 1, _, by omega, by go_num, m0'.set_ 0 _, m1'.far (by simp) _, m2'.far (by simp) _, ?_, ?_, hok3, ?_, ?_⟩
            · exact StrS.keep hl3 (((Agree.alloc (fun b h => Nat.lt_of_lt_of_le h.2 hs3) _).trans (Agree.grown hgrow6 (fun b h => ⟨by have := h.2; simp; omega, fun e => by have := hoff.out _ e.symm; have := h.2; omega⟩))).trans (Agree.setCell _ (by intro h; have := h.1; simp at this; omega) _)) (fun _ h => h)
            · rw [htk.out]
              have hq := own_setCell hown6 (p := ⟨w.heap.size, 0, none⟩) (fun e => by have : B1 ≤ w.heap.size := (hown6.lt _ e).1; omega) (.slice A6 (L.length + 1) c6)
              rw [List.length_append] at hq ⊢
              exact hq
            · exact ((hB3.alloc hB3.size _).grown hgrow6 (by have := hB3.size; simp; omega) (fun b h => by have := hoff.out b h; omega)).setCell (by simp) _
            · have h1 := hgrow6.size
              rw [World.size_alloc] at h1
              rw [World.size_setCell]
              omega
          case measure => simp [intOf]; omega
        · have hbad2 := hide (hbad.out hf)
          clear hbad hok2
          refine (must_bad _ f hf _).mono ?_
          rintro e w' ⟨rfl, rfl⟩
          go_wp2
          refine leaves_bad _ f m0 m1 m2 rfl rfl rfl fun w' hb' => ?_
          exact ⟨.slice none 0 0, by rw [hr.out, hbad2.out], by rw [hr.out, hbad2.out]; exact EvS.nil _ _ _ _, hB3.trans hb'⟩
      · have : i = rows.length := by omega
        subst this
        rw [List.take_length] at hown
        have hgd := hide (evsR_good hok.out)
        obtain ⟨Av, cv, rfl⟩ := own_slice hown
        have c0 := k0.cell 0
        have c1 := k1.cell 0
        have c2 := k2.cell 0
        simp only [List.getElem?_toArray, List.getElem?_cons_zero, List.getElem?_cons_succ] at c0 c1 c2
        have f0 := k0.frozen 0
        have f1 := k1.frozen 0
        have f2 := k2.frozen 0
        have i0 := ((k0.set_ 0 (.slice Av (evl rows).length cv)).far (p := ⟨w.heap.size + 1, 0, none⟩) (by simp) (.int .i64 0)).far (p := ⟨w.heap.size + 2, 0, none⟩) (by simp) (.int .i64 0)
        have i1 := ((k1.far (p := ⟨w.heap.size, 0, none⟩) (by simp) (.slice Av (evl rows).length cv)).set_ 0 (.int .i64 0)).far (p := ⟨w.heap.size + 2, 0, none⟩) (by simp) (.int .i64 0)
        have i2 := ((k2.far (p := ⟨w.heap.size, 0, none⟩) (by simp) (.slice Av (evl rows).length cv)).far (p := ⟨w.heap.size + 1, 0, none⟩) (by simp) (.int .i64 0)).set_ 0 (.int .i64 0)
        have hoff : ∀ b', (Value.slice Av (evl rows).length cv).ownBlock = some b' → B1 ≤ b' := fun b' h => (hown.lt b' h).1
        have hown4 := own_setCell (own_setCell (own_setCell hown (p := ⟨w.heap.size, 0, none⟩) (fun e => by have := hoff _ e; simp at this; omega) (.slice Av (evl rows).length cv)) (p := ⟨w.heap.size + 1, 0, none⟩) (fun e => by have := hoff _ e; simp at this; omega) (.int .i64 0)) (p := ⟨w.heap.size + 2, 0, none⟩) (fun e => by have := hoff _ e; simp at this; omega) (.int .i64 0)
        have hB4 := ((hbr.setCell (p := ⟨w.heap.size, 0, none⟩) (by simp) (.slice Av (evl rows).length cv)).setCell (p := ⟨w.heap.size + 1, 0, none⟩) (by simp) (.int .i64 0)).setCell (p := ⟨w.heap.size + 2, 0, none⟩) (by simp) (.int .i64 0)
        go_wp2
        refine leaves_good i0 i1 i2 rfl rfl rfl fun w' hb' => ?_
        have hown5 := own_below hown4 hb' (Nat.le_refl _)
        exact ⟨.slice Av (evl rows).length cv, by rw [hr.out, hgd.out], by rw [hr.out, hgd.out]; exact SlR.of_flat hown5 rfl (fun _ => rfl) (fun b h1 h2 => ⟨by omega, h2⟩), hB4.trans (hb'.mono hB4.size)⟩
end Go.Proofs.YtphcebgpllecjaaGreatDoor

namespace Go.Proofs.YtphcebgpllecjaaGreatDoor
open Go.RowKit Go.Inq

theorem noteE_op (l : List Tx) (i : Nat) (ops : List Ev) (j : Nat) : noteE (sumW l i) ops j = opE l i ops j := by
  unfold noteE opE
  cases ops[j]? <;> rfl
theorem noteR_op {l : List Tx} {i : Nat} (hi : i < l.length) : noteR (sumW l i) l[i].ops = unlikeR l i := by
  have e : noteE (sumW l i) l[i].ops = opE l i l[i].ops := funext fun j => noteE_op l i _ j
  unfold noteR unlikeR
  rw [List.getElem?_eq_getElem hi, e]
  dsimp only
  cases firstN l[i].ops.length (opE l i l[i].ops) <;> rfl
theorem who_take_some {l : List Tx} {i : Nat} {x : It} : (whoR (l.take i) x).isSome = decide (0 < sumW l i x) := by
  rw [Bool.eq_iff_iff, decide_eq_true_iff]
  constructor
  · intro h
    cases hw : whoR (l.take i) x with
    | none => rw [hw] at h; cases h
    | some k =>
      obtain ⟨t, ht, hp⟩ := who_some hw
      rw [List.getElem?_take] at ht
      split at ht
      · exact sumW_pos.2 ⟨k, t, by assumption, ht, hp⟩
      · cases ht
  · intro h
    obtain ⟨k, t, hk, ht, hp⟩ := sumW_pos.1 h
    cases hw : whoR (l.take i) x with
    | some k => rfl
    | none =>
      have := who_none hw t (List.mem_of_getElem? (i := k) (by rw [List.getElem?_take, if_pos hk, ht]))
      omega
theorem byF_some (l : List Tx) (i : Nat) (x : It) : (byF l i x).isSome = decide (0 < sumW l i x) := by
  rw [← who_take_some]
  unfold byF
  cases whoR (l.take i) x <;> rfl
theorem who_step {l : List Tx} {i : Nat} (hi : i < l.length) (x : It) : whoR (l.take (i + 1)) x = match whoR (l.take i) x with | some k => some k | none => if 0 < wrT l[i] x then some i else none := by
  unfold whoR
  rw [List.take_succ_eq_append_getElem hi, List.findIdx?_append, List.length_take, Nat.min_eq_left (by omega)]
  cases List.findIdx? (fun t => decide (0 < wrT t x)) (l.take i) with
  | some k => rfl
  | none =>
    by_cases h : 0 < wrT l[i] x
    · simp [h]
    · simp [h]
/-- Who writes, told as the program's map has it. -/
def writerOf (l : List Tx) (i : Nat) (t : Tx) : Int × Int := ((i : Int), if t.done = true then (numR7 l i : Int) else -1)
theorem byF_next {l : List Tx} {i : Nat} (hi : i < l.length) (hu : unlikeR l i = 0) (x : It) : noted (byF l i) (writerOf l i l[i]) l[i].ops l[i].ops.length x = byF l (i + 1) x := by
  have hi' : l[i]? = some l[i] := List.getElem?_eq_getElem hi
  unfold noted
  by_cases h : 0 < Go.Inq.wr l[i].ops l[i].ops.length x
  · rw [if_pos h]
    have hs := (unlike_write hi' hu (x := x) h).2
    have hw : whoR (l.take i) x = none := by
      have := who_take_some (l := l) (i := i) (x := x)
      rw [hs] at this
      cases hw : whoR (l.take i) x with
      | none => rfl
      | some k => rw [hw] at this; cases this
    have h2 : 0 < wrT l[i] x := h
    unfold byF
    rw [who_step hi, hw]
    dsimp only
    rw [if_pos h2]
    simp [hi', writerOf]
  · rw [if_neg h]
    have h2 : ¬ 0 < wrT l[i] x := h
    unfold byF
    rw [who_step hi]
    cases whoR (l.take i) x with
    | some k => rfl
    | none => dsimp only; rw [if_neg h2]
theorem byF_zero (l : List Tx) (x : It) : byF l 0 x = none := by
  unfold byF whoR
  simp
theorem byF_none {l : List Tx} {x : It} (h : whoR l x = none) : byF l l.length x = none := by
  unfold byF
  rw [List.take_length, h]
  rfl
theorem byF_hit {l : List Tx} {x : It} {k : Nat} (hk : k < l.length) (h : whoR l x = some k) : byF l l.length x = some (writerOf l k l[k]) := by
  unfold byF
  rw [List.take_length, h]
  simp [List.getElem?_eq_getElem hk, writerOf]
end Go.Proofs.YtphcebgpllecjaaGreatDoor

namespace Go.Proofs.YtphcebgpllecjaaGreatDoor
open Go.RowKit Go.Inq

/-- What is looked at of a transaction: reads, writes; nothing of one that was given up. -/
def faceAt (l : List Tx) (j : Nat) : List It × List It := match l[j]? with
  | some t => if t.done = true then ((lookR t.ops).reads, (lookR t.ops).writes) else ([], [])
  | none => ([], [])
def faceTo (l : List Tx) (i j : Nat) : List It × List It := if j < i then faceAt l j else ([], [])
theorem faceAt_at {l : List Tx} {j : Nat} (hj : j < l.length) : faceAt l j = if l[j].done = true then ((lookR l[j].ops).reads, (lookR l[j].ops).writes) else ([], []) := by
  unfold faceAt
  rw [List.getElem?_eq_getElem hj]
theorem faceTo_next (l : List Tx) (i j : Nat) : faceTo l (i + 1) j = if j = i then faceAt l i else faceTo l i j := by
  unfold faceTo
  by_cases h : j = i
  · subst h
    rw [if_pos (by omega), if_pos rfl]
  · rw [if_neg h]
    by_cases h2 : j < i
    · rw [if_pos (by omega), if_pos h2]
    · rw [if_neg (by omega), if_neg h2]
theorem faceTo_all {l : List Tx} {j : Nat} (hj : j < l.length) : faceTo l l.length j = faceAt l j := by
  unfold faceTo; rw [if_pos hj]

/-- A block of n faces. -/
def Faces (w : World) (g n : Nat) (t : TypeId) (K : Nat → Prop) (F : Nat → List It × List It) : Prop :=
  ∃ cs : Array Value, Blk w g t cs ∧ cs.size = n * 2 ∧ ∀ j, j < n → ∃ Ar cr Aw cw, cs[j * 2]? = some (.slice Ar (F j).1.length cr) ∧ cs[j * 2 + 1]? = some (.slice Aw (F j).2.length cw) ∧
    ItS w K (.slice Ar (F j).1.length cr) (F j).1 ∧ ItS w K (.slice Aw (F j).2.length cw) (F j).2
section
variable {w w' : World} {g n : Nat} {t : TypeId} {K K' : Nat → Prop} {F F' : Nat → List It × List It}
theorem Faces.lt (h : Faces w g n t K F) : g < w.heap.size := by
  obtain ⟨cs, hb, _⟩ := h
  exact hb.lt
theorem Faces.frozen (h : Faces w g n t K F) (i : Nat) : w.frozen? ⟨g, i, none⟩ = false := by
  obtain ⟨cs, hb, _⟩ := h
  exact hb.frozen i
theorem Faces.at_ (h : Faces w g n t K F) {j : Nat} (hj : j < n) : ∃ Ar cr Aw cw, w.cell? ⟨g, j * 2, none⟩ = some (.slice Ar (F j).1.length cr) ∧ w.cell? ⟨g, j * 2 + 1, none⟩ = some (.slice Aw (F j).2.length cw) ∧
    ItS w K (.slice Ar (F j).1.length cr) (F j).1 ∧ ItS w K (.slice Aw (F j).2.length cw) (F j).2 := by
  obtain ⟨cs, hb, hn, hc⟩ := h
  obtain ⟨Ar, cr, Aw, cw, h1, h2, h3, h4⟩ := hc j hj
  exact ⟨Ar, cr, Aw, cw, (hb.cell _).trans h1, (hb.cell _).trans h2, h3, h4⟩
theorem Faces.keep (h : Faces w g n t K F) (ha : Agree K w w') (hg : w'.heap[g]? = w.heap[g]?) (hk : ∀ b, K b → K' b) : Faces w' g n t K' F := by
  obtain ⟨cs, hb, hn, hc⟩ := h
  refine ⟨cs, hg.trans hb, hn, fun j hj => ?_⟩
  obtain ⟨Ar, cr, Aw, cw, h1, h2, h3, h4⟩ := hc j hj
  exact ⟨Ar, cr, Aw, cw, h1, h2, ItS.keep h3 ha hk, ItS.keep h4 ha hk⟩
theorem Faces.same (h : Faces w g n t K F) (hF : ∀ j, j < n → F j = F' j) : Faces w g n t K F' := by
  obtain ⟨cs, hb, hn, hc⟩ := h
  refine ⟨cs, hb, hn, fun j hj => ?_⟩
  rw [← hF j hj]
  exact hc j hj
theorem Faces.set_ (h : Faces w g n t K F) {i : Nat} (hi : i < n) (hg : ¬ K g) {Ar Aw : Option Addr} {cr cw : Nat} {rs ws : List It} (hr : ItS w K (.slice Ar rs.length cr) rs) (hw : ItS w K (.slice Aw ws.length cw) ws) :
    Faces ((w.setCell ⟨g, i * 2, none⟩ (.slice Ar rs.length cr)).setCell ⟨g, i * 2 + 1, none⟩ (.slice Aw ws.length cw)) g n t K (fun j => if j = i then (rs, ws) else F j) := by
  obtain ⟨cs, hb, hn, hc⟩ := h
  have ha : Agree K w ((w.setCell ⟨g, i * 2, none⟩ (.slice Ar rs.length cr)).setCell ⟨g, i * 2 + 1, none⟩ (.slice Aw ws.length cw)) := (Agree.setCell ⟨g, i * 2, none⟩ hg _).trans (Agree.setCell ⟨g, i * 2 + 1, none⟩ hg _)
  refine ⟨_, (hb.set_ (i * 2) _).set_ (i * 2 + 1) _, by simp [hn], fun j hj => ?_⟩
  by_cases hji : j = i
  · subst hji
    dsimp only
    rw [if_pos rfl]
    refine ⟨Ar, cr, Aw, cw, ?_, ?_, ItS.keep hr ha (fun _ h => h), ItS.keep hw ha (fun _ h => h)⟩
    · rw [Array.getElem?_setIfInBounds_ne (by omega), Array.getElem?_setIfInBounds_self_of_lt (by omega)]
    · rw [Array.getElem?_setIfInBounds_self_of_lt (by rw [Array.size_setIfInBounds]; omega)]
  · obtain ⟨Ar', cr', Aw', cw', h1, h2, h3, h4⟩ := hc j hj
    dsimp only
    rw [if_neg hji]
    refine ⟨Ar', cr', Aw', cw', ?_, ?_, ItS.keep h3 ha (fun _ h => h), ItS.keep h4 ha (fun _ h => h)⟩
    · rw [Array.getElem?_setIfInBounds_ne (by omega), Array.getElem?_setIfInBounds_ne (by omega)]
      exact h1
    · rw [Array.getElem?_setIfInBounds_ne (by omega), Array.getElem?_setIfInBounds_ne (by omega)]
      exact h2
theorem Faces.new (w : World) (n : Nat) (t : TypeId) (K : Nat → Prop) : Faces (w.alloc (.cells (madeCells (#[.slice none 0 0, .slice none 0 0] : Array Value) (n * 2)) t)) w.heap.size n t K (fun _ => ([], [])) := by
  refine ⟨_, Blk.new w t _, by simp [madeCells], fun j hj => ⟨none, 0, none, 0, ?_, ?_, SlR.nil _ _ _ _ _ _, SlR.nil _ _ _ _ _ _⟩⟩
  · have h1 : j * 2 < n * 2 := by omega
    simp [madeCells, h1]
  · have h1 : j * 2 + 1 < n * 2 := by omega
    have h2 : (j * 2 + 1) % 2 = 1 := by omega
    simp [madeCells, h1, h2]
end

/-- Some face of the first, or some of the first writes of the next, has it. -/
def lastW (l : List Tx) (i m : Nat) (x : It) : Bool := (List.range i).any (fun j => (faceAt l j).2.contains x) || ((faceAt l i).2.take m).contains x
def lastO (l : List Tx) (i m : Nat) (x : It) : Option Bool := if lastW l i m x = true then some true else none
theorem last_zero (l : List Tx) (x : It) : lastO l 0 0 x = none := by
  unfold lastO lastW
  simp
theorem last_round (l : List Tx) (i : Nat) (x : It) : lastO l (i + 1) 0 x = lastO l i (faceAt l i).2.length x := by
  unfold lastO lastW
  rw [List.range_succ, List.any_append, List.take_length, List.take_zero]
  simp
theorem last_next {l : List Tx} {i m : Nat} (hm : m < (faceAt l i).2.length) (x : It) : lastO l i (m + 1) x = if x = (faceAt l i).2[m] then some true else lastO l i m x := by
  unfold lastO lastW
  rw [List.take_succ_eq_append_getElem hm]
  generalize (List.range i).any (fun j => (faceAt l j).2.contains x) = u
  generalize (faceAt l i).2[m] = y
  generalize (faceAt l i).2.take m = r
  by_cases hx : x = y
  · subst hx
    simp
  · rw [if_neg hx]
    simp [hx]
theorem last_all (l : List Tx) (x : It) : lastO l l.length 0 x = if lastB l x = true then some true else none := by
  unfold lastO
  have : lastW l l.length 0 x = lastB l x := by
    unfold lastW lastB
    rw [List.take_zero]
    rw [Bool.eq_iff_iff]
    simp only [Bool.or_eq_true, List.any_eq_true, List.mem_range, List.contains_nil, Bool.false_eq_true, or_false, Bool.and_eq_true]
    constructor
    · rintro ⟨j, hj, hc⟩
      rw [faceAt_at hj] at hc
      by_cases hd : l[j].done = true
      · rw [if_pos hd] at hc
        exact ⟨l[j], List.getElem_mem hj, hd, hc⟩
      · rw [if_neg hd] at hc
        simp at hc
    · rintro ⟨t, ht, hd, hc⟩
      obtain ⟨j, hj, rfl⟩ := List.getElem_of_mem ht
      refine ⟨j, hj, ?_⟩
      rw [faceAt_at hj, if_pos hd]
      exact hc
  rw [this]
theorem last_val (l : List Tx) (x : It) : valOr encB (.bool false) (lastO l l.length 0 x) = .bool (lastB l x) := by
  rw [last_all]
  cases lastB l x <;> rfl

theorem from_zero {l : List Tx} {x : It} (h : x.b = 0) : fromR l x = (-1, 0) := by
  unfold fromR; rw [if_pos h]
theorem by_ways (l : List Tx) (x : It) : (whoR l x = none ∧ byF l l.length x = none) ∨ ∃ k, ∃ hk : k < l.length, whoR l x = some k ∧ byF l l.length x = some (writerOf l k l[k]) := by
  cases hw : whoR l x with
  | none => exact .inl ⟨rfl, byF_none hw⟩
  | some k =>
    obtain ⟨t, ht, _⟩ := who_some hw
    have hk : k < l.length := by
      rcases Nat.lt_or_ge k l.length with h | h
      · exact h
      · rw [List.getElem?_eq_none h] at ht; cases ht
    exact .inr ⟨k, hk, rfl, byF_hit hk hw⟩
theorem from_thin {l : List Tx} {x : It} (h : x.b ≠ 0) (hb : byF l l.length x = none) : fromR l x = (0, 12) := by
  rcases by_ways l x with ⟨h1, _⟩ | ⟨k, hk, _, h2⟩
  · unfold fromR; rw [if_neg h, h1]
  · rw [hb] at h2; cases h2
theorem from_gone {l : List Tx} {x : It} {p q : Int} (h : x.b ≠ 0) (hb : byF l l.length x = some (p, q)) (hq : q < 0) : fromR l x = (0, 13) := by
  rcases by_ways l x with ⟨_, h2⟩ | ⟨k, hk, h1, h2⟩
  · rw [hb] at h2; cases h2
  · rw [hb] at h2
    injection h2 with h2
    unfold writerOf at h2
    injection h2 with h3 h4
    unfold fromR
    rw [if_neg h, h1]
    dsimp only
    rw [List.getElem?_eq_getElem hk]
    dsimp only
    by_cases hd : l[k].done = true
    · rw [if_pos hd] at h4; omega
    · rw [if_pos (by simpa using hd)]
theorem from_kept {l : List Tx} {x : It} {p q : Int} (h2 : ∀ i, i < l.length → unlikeR l i = 0) (h3 : ∀ i, i < l.length → lookAt l i = 0) (h : x.b ≠ 0) (hb : byF l l.length x = some (p, q)) (hq : ¬ q < 0) :
    fromR l x = if lastB l x = false then (0, 14) else (q, 0) := by
  rcases by_ways l x with ⟨_, h5⟩ | ⟨k, hk, h1, h5⟩
  · rw [hb] at h5; cases h5
  · rw [hb] at h5
    injection h5 with h5
    unfold writerOf at h5
    injection h5 with h6 h4
    have hk2 := List.getElem?_eq_getElem hk
    unfold fromR
    rw [if_neg h, h1]
    dsimp only
    rw [hk2]
    dsimp only
    by_cases hd : l[k].done = true
    · rw [if_pos hd] at h4
      rw [if_neg (by simp [hd])]
      obtain ⟨t, ht, hp⟩ := who_some h1
      rw [hk2] at ht
      injection ht with ht
      subst ht
      rw [last_middle h2 h3 hk2 hd hp]
      cases middleB (lookR l[k].ops).writes x with
      | true => rfl
      | false => simp [h4]
    · rw [if_neg hd] at h4; omega
end Go.Proofs.YtphcebgpllecjaaGreatDoor

namespace Go.Proofs.YtphcebgpllecjaaGreatDoor
open Go.RowKit Go.Inq
set_option maxHeartbeats 4000000
attribute [local go_sem ↓] Go.wp_at_zero Go.wp_at_succ

/-- Transactions that are few, and short. -/
def SmallT (l : List Tx) : Prop := l.length ≤ 1000 ∧ ∀ t ∈ l, t.ops.length ≤ 1000
theorem sumW_le {l : List Tx} (h : ∀ t ∈ l, t.ops.length ≤ 1000) (x : It) : ∀ n, n ≤ l.length → sumW l n x ≤ n * 1000
  | 0, _ => Nat.zero_le _
  | n + 1, hn => by
    have h1 := sumW_le h x n (by omega)
    have h2 := h _ (List.getElem_mem (show n < l.length by omega))
    have h3 := wr_le (l[n]'(by omega)).ops (l[n]'(by omega)).ops.length x
    rw [sumW_step (by omega)]
    unfold wrT
    omega
theorem opE_at {l : List Tx} {i : Nat} {ops : List Ev} {j : Nat} (hj : j < ops.length) : opE l i ops j = if ops[j].kind ≠ 2 then 0 else if ops[j].val = 0 then 7 else if 0 < wr ops j ⟨ops[j].key, ops[j].val⟩ + sumW l i ⟨ops[j].key, ops[j].val⟩ then 8 else 0 := by
  unfold opE
  rw [List.getElem?_eq_getElem hj]
theorem unlike_bad {l : List Tx} {i : Nat} (hi : i < l.length) {j : Nat} (hj : j < l[i].ops.length) (hall : ∀ k, k < j → opE l i l[i].ops k = 0) (hb : opE l i l[i].ops j ≠ 0) : unlikeR l i = opE l i l[i].ops j := by
  unfold unlikeR
  rw [List.getElem?_eq_getElem hi]
  dsimp only
  rw [firstN_some hj hall hb]
theorem unlike_good {l : List Tx} {i : Nat} (hi : i < l.length) (hall : ∀ k, k < l[i].ops.length → opE l i l[i].ops k = 0) : unlikeR l i = 0 := by
  unfold unlikeR
  rw [List.getElem?_eq_getElem hi]
  dsimp only
  rw [firstN_none hall]

set_option maxRecDepth 100000 in
theorem unlike7_any (l : List Tx) (A : Option Addr) (c : Nat) (i : Nat) (w : World) (h : TxS w (Old w) (.slice A l.length c) l) (hi : i < l.length) (hs : SmallT l) :
    Calls Tryz.prog 41 #[.slice A l.length c, .int .i64 i] w fun e w' => e = .returned (.int .i64 (unlikeR l i)) ∧ Below w.heap.size w w' := by
  have hn := hs.1
  have hi1 : (0 : Int) ≤ (i : Int) := Int.natCast_nonneg _
  have hi2 : (i : Int) < (l.length : Int) := by omega
  have hsw := hide (fun x n hn => sumW_le hs.2 x n hn)
  have hops := hs.2 _ (List.getElem_mem hi)
  have hbad := hide (fun j => unlike_bad (l := l) hi (j := j))
  have hgood := hide (unlike_good (l := l) hi)
  have hsm := hide hs.2
  clear hs
  obtain ⟨b, off, A', c', rfl, hbK, u0, u1, u2, u3, hev⟩ := TxS.at_ h hi
  have hu0 := hide (show ∀ W, Below w.heap.size w W → W.cell? ⟨b, off + i * 4, none⟩ = some (.int .i64 l[i].sess) from fun W hW => (hW.cell (p := ⟨b, _, none⟩) hbK).trans u0)
  have hu1 := hide (show ∀ W, Below w.heap.size w W → W.cell? ⟨b, off + i * 4 + 1, none⟩ = some (.bool l[i].done) from fun W hW => (hW.cell (p := ⟨b, _, none⟩) hbK).trans u1)
  have hu2 := hide (show ∀ W, Below w.heap.size w W → W.cell? ⟨b, off + i * 4 + 2, none⟩ = some (.int .i64 l[i].first) from fun W hW => (hW.cell (p := ⟨b, _, none⟩) hbK).trans u2)
  have hu3 := hide (show ∀ W, Below w.heap.size w W → W.cell? ⟨b, off + i * 4 + 3, none⟩ = some (.slice A' l[i].ops.length c') from fun W hW => (hW.cell (p := ⟨b, _, none⟩) hbK).trans u3)
  have hwt := hide (fun (m : Nat) (x : It) (W : World) (hW : Below w.heap.size w W) (hm : m ≤ l[i].ops.length) => writes7_any l[i] A' c' m x W (EvS.keep hev (Agree.below hW fun _ h => h) (fun b hb => Nat.lt_of_lt_of_le hb hW.size)) hm (by omega))
  clear u0 u1 u2 u3
  generalize hti : l[i] = t at *
  obtain ⟨ts, td, tf, ops⟩ := t
  dsimp only at *
  go_enter Tryz.func41, Tryz.ntmps41
  go_wp2_with fail
  go_loopw [5, 6, 7, 8] (fun s5 _ _ _ wr => ∃ j : Nat, j ≤ ops.length ∧ s5 = .int .i64 j ∧ Hid (∀ k, k < j → opE l i ops k = 0) ∧ Below w.heap.size w wr) (fun s5 _ _ _ _ => ops.length - (intOf s5).toNat)
  case atStart => exact ⟨0, Nat.zero_le _, by go_num, fun k h => absurd h (by omega), Below.refl _ _⟩
  case round =>
    obtain ⟨j, hj, rfl, hall, hb⟩ := hrel
    have hj1 : (0 : Int) ≤ (j : Int) := Int.natCast_nonneg _
    have u3 := hu3.out wr hb
    by_cases hlt : j < ops.length
    · have hj2 : (j : Int) < (ops.length : Int) := by omega
      have hevW := EvS.keep hev (Agree.below hb fun _ h => h) (fun _ h => h)
      obtain ⟨bo, oo, rfl, hbo, c0, c1, c2, c3⟩ := EvS.at_ hevW hlt
      have hop := opE_at (l := l) (i := i) hlt
      have hbd := hide (fun hb => hbad.out j hlt hall.out hb)
      have hstep : opE l i ops j = 0 → ∀ k, k < j + 1 → opE l i ops k = 0 := fun g k hk => by
        by_cases hkj : k = j
        · subst hkj; exact g
        · exact hall.out k (by omega)
      have hwrj := hide (fun x => wr_le ops j x)
      generalize opE l i ops j = oe at *
      generalize ops[j] = e at *
      have kE : Blk (wr.alloc (.cells #[.int .i64 e.kind, .int .i64 e.sess, .int .i64 e.key, .int .i64 e.val] 56)) wr.heap.size 56 _ := Blk.new _ _ _
      have hb2 := hb.alloc hb.size (.cells #[.int .i64 e.kind, .int .i64 e.sess, .int .i64 e.key, .int .i64 e.val] 56)
      have hgE : w.heap.size ≤ wr.heap.size := hb.size
      clear hall hevW
      by_cases hk : e.kind = 2
      · rw [if_neg (by simp [hk])] at hop
        have hkb : (e.kind != 2) = false := by simpa using hk
        by_cases hv : e.val = 0
        · rw [if_pos hv] at hop
          have hvb : (e.val == 0) = true := by simpa using hv
          have hr := hbd.out (by rw [hop]; decide)
          rw [hop] at hr
          replace hr := hide hr
          clear hbd hstep hop hk hv
          go_wp2
          go_ret
          exact ⟨by rw [hr.out]; rfl, hb2⟩
        · rw [if_neg hv] at hop
          have hvb : (e.val == 0) = false := by simpa using hv
          clear hk hv
          go_wp2_with fail
          generalize wr.alloc (.cells #[.int .i64 e.kind, .int .i64 e.sess, .int .i64 e.key, .int .i64 e.val] 56) = W2 at *
          replace kE : Blk W2 wr.heap.size 56 _ := kE
          generalize wr.heap.size = gE at *
          have hW0 := hide (fun (W : World) (hW : Below W2.heap.size W2 W) => hb2.trans (hW.mono hb2.size))
          have hlenE := kE.lt
          refine wp_region_float (fun W => Below W2.heap.size W2 W) (by kernel_rfl) (by kernel_rfl) (Below.refl _ _).drew ?_
          refine ⟨.slice (some ⟨b, off, none⟩) l.length c, fun W hW => (by go_wp2), ?_⟩
          refine ⟨.int .i64 i, fun W hW => (by go_wp2), ?_⟩
          refine ⟨.pointer (some ⟨b, off + i * 4, none⟩), fun W hW => (by go_wp2), ?_⟩
          refine ⟨.agg #[.int .i64 ts, .bool td, .int .i64 tf, .slice (some ⟨bo, oo, none⟩) ops.length c'], fun W hW => (by have u0 := hu0.out W (hW0.out W hW); have u1 := hu1.out W (hW0.out W hW); have u2 := hu2.out W (hW0.out W hW); have u3 := hu3.out W (hW0.out W hW); go_wp2), ?_⟩
          refine ⟨.int .i64 j, fun W hW => (by go_wp2), ?_⟩
          refine ⟨.pointer (some ⟨gE, 2, none⟩), fun W hW => (by go_wp2), ?_⟩
          refine ⟨.int .i64 e.key, fun W hW => (by have e2 := (kE.below hW kE.lt).cell 2; have e3 := (kE.below hW kE.lt).cell 3; simp only [List.getElem?_toArray, List.getElem?_cons_zero, List.getElem?_cons_succ] at e2 e3; go_wp2), ?_⟩
          refine ⟨.pointer (some ⟨gE, 3, none⟩), fun W hW => (by go_wp2), ?_⟩
          refine ⟨.int .i64 e.val, fun W hW => (by have e2 := (kE.below hW kE.lt).cell 2; have e3 := (kE.below hW kE.lt).cell 3; simp only [List.getElem?_toArray, List.getElem?_cons_zero, List.getElem?_cons_succ] at e2 e3; go_wp2), ?_⟩
          refine ⟨.int .i64 (Go.Inq.wr ops j ⟨e.key, e.val⟩), fun W hW => (by go_wp2_with (go_at_call 63; refine (hwt.out j ⟨e.key, e.val⟩ W (hW0.out W hW) (by omega)).mono ?_; rintro e' w' ⟨rfl, hb'⟩; replace hW := hW.trans (hb'.mono hW.size))), ?_⟩
          refine ⟨.int .i64 (Go.Inq.wr ops j ⟨e.key, e.val⟩), fun W hW => (by go_wp2), ?_⟩
          intro w3 hw3
          simp only [Act.put]
          have hx0 := hide (show sumW l 0 ⟨e.key, e.val⟩ = 0 from rfl)
          go_wp2_with fail
          generalize hxe : (⟨e.key, e.val⟩ : It) = x at *
          have hxa : e.key = x.a := by rw [← hxe]
          have hxb : e.val = x.b := by rw [← hxe]
          rw [hxa, hxb] at kE
          clear hxa hxb hxe
          have hwj := hwrj.out x
          generalize Go.Inq.wr ops j x = n0 at *
          go_loopw [7, 8] (fun s7 s8 wq => ∃ k : Nat, k ≤ i ∧ s8 = .int .i64 k ∧ s7 = .int .i64 (n0 + sumW l k x : Nat) ∧ Below W2.heap.size W2 wq) (fun _ s8 _ => i - (intOf s8).toNat)
          case atStart => exact ⟨0, Nat.zero_le _, by go_num, by rw [hx0.out]; go_num, hw3⟩
          case round =>
            obtain ⟨k, hk, rfl, rfl, hq⟩ := hrel
            have hk1 : (0 : Int) ≤ (k : Int) := Int.natCast_nonneg _
            by_cases hlk : k < i
            · have hkl : k < l.length := by omega
              have hk2 : (k : Int) < (l.length : Int) := by omega
              have hk3 : (k : Int) < (i : Int) := by omega
              obtain ⟨b2, off2, A2, c2, hAA, hbK2, v0, v1, v2, v3, hev2⟩ := TxS.at_ h hkl
              injection hAA with hAA
              injection hAA with hA1 hA2
              subst hA1 hA2
              have hv0 := hide (show ∀ W, Below w.heap.size w W → W.cell? ⟨b, off + k * 4, none⟩ = some (.int .i64 l[k].sess) from fun W hW => (hW.cell (p := ⟨b, _, none⟩) hbK).trans v0)
              have hv1 := hide (show ∀ W, Below w.heap.size w W → W.cell? ⟨b, off + k * 4 + 1, none⟩ = some (.bool l[k].done) from fun W hW => (hW.cell (p := ⟨b, _, none⟩) hbK).trans v1)
              have hv2 := hide (show ∀ W, Below w.heap.size w W → W.cell? ⟨b, off + k * 4 + 2, none⟩ = some (.int .i64 l[k].first) from fun W hW => (hW.cell (p := ⟨b, _, none⟩) hbK).trans v2)
              have hv3 := hide (show ∀ W, Below w.heap.size w W → W.cell? ⟨b, off + k * 4 + 3, none⟩ = some (.slice A2 l[k].ops.length c2) from fun W hW => (hW.cell (p := ⟨b, _, none⟩) hbK).trans v3)
              have hlk2 := hsm.out _ (List.getElem_mem hkl)
              have hwk := hide (fun (W : World) (hW : Below w.heap.size w W) => writes7_any l[k] A2 c2 l[k].ops.length x W (EvS.keep hev2 (Agree.below hW fun _ h => h) (fun b hb => Nat.lt_of_lt_of_le hb hW.size)) (Nat.le_refl _) (by omega))
              have hst := sumW_step hkl x
              have hwl := wr_le l[k].ops l[k].ops.length x
              have hwT : wrT l[k] x = Go.Inq.wr l[k].ops l[k].ops.length x := rfl
              rw [hwT] at hst
              have hs1 := hsw.out x k (by omega)
              clear v0 v1 v2 v3 hev2 hbK2 hwT
              generalize l[k] = y at *
              obtain ⟨xs, xd, xf, xo⟩ := y
              dsimp only at *
              generalize Go.Inq.wr xo xo.length x = n2 at *
              have hs3 : n0 + sumW l (k + 1) x = n0 + sumW l k x + n2 := by omega
              replace hs3 := hide hs3
              have hs4 : n0 + sumW l k x ≤ 2000000 := by omega
              clear hst
              generalize n0 + sumW l k x = n1 at *
              have hs5 : n2 ≤ 1000 := by omega
              go_wp2_with fail
              have hqz := hq.size
              have hW1 := hide (fun (W : World) (hW : Below wr.heap.size wr W) => hq.trans (hW.mono hqz))
              refine wp_region_float (fun W => Below W2.heap.size W2 W) (by kernel_rfl) (by kernel_rfl) hq.drew ?_
              refine ⟨.int .i64 n1, fun W hW => (by go_wp2), ?_⟩
              refine ⟨.slice (some ⟨b, off, none⟩) l.length c, fun W hW => (by go_wp2), ?_⟩
              refine ⟨.int .i64 k, fun W hW => (by go_wp2), ?_⟩
              refine ⟨.pointer (some ⟨b, off + k * 4, none⟩), fun W hW => (by go_wp2), ?_⟩
              refine ⟨.agg #[.int .i64 xs, .bool xd, .int .i64 xf, .slice A2 xo.length c2], fun W hW => (by have v0 := hv0.out W (hW0.out W hW); have v1 := hv1.out W (hW0.out W hW); have v2 := hv2.out W (hW0.out W hW); have v3 := hv3.out W (hW0.out W hW); go_wp2), ?_⟩
              refine ⟨.slice (some ⟨b, off, none⟩) l.length c, fun W hW => (by go_wp2), ?_⟩
              refine ⟨.int .i64 k, fun W hW => (by go_wp2), ?_⟩
              refine ⟨.pointer (some ⟨b, off + k * 4, none⟩), fun W hW => (by go_wp2), ?_⟩
              refine ⟨.pointer (some ⟨b, off + k * 4 + 3, none⟩), fun W hW => (by go_wp2), ?_⟩
              refine ⟨.slice A2 xo.length c2, fun W hW => (by have v3 := hv3.out W (hW0.out W hW); go_wp2), ?_⟩
              refine ⟨.int .i64 xo.length, fun W hW => (by go_wp2), ?_⟩
              refine ⟨.pointer (some ⟨gE, 2, none⟩), fun W hW => (by go_wp2), ?_⟩
              refine ⟨.int .i64 x.a, fun W hW => (by have e2 := (kE.below hW kE.lt).cell 2; have e3 := (kE.below hW kE.lt).cell 3; simp only [List.getElem?_toArray, List.getElem?_cons_zero, List.getElem?_cons_succ] at e2 e3; go_wp2), ?_⟩
              refine ⟨.pointer (some ⟨gE, 3, none⟩), fun W hW => (by go_wp2), ?_⟩
              refine ⟨.int .i64 x.b, fun W hW => (by have e2 := (kE.below hW kE.lt).cell 2; have e3 := (kE.below hW kE.lt).cell 3; simp only [List.getElem?_toArray, List.getElem?_cons_zero, List.getElem?_cons_succ] at e2 e3; go_wp2), ?_⟩
              refine ⟨.int .i64 n2, fun W hW => (by go_wp2_with (go_at_call 63; refine (hwk.out W (hW0.out W hW)).mono ?_; rintro e' w' ⟨rfl, hb'⟩; replace hW := hW.trans (hb'.mono hW.size))), ?_⟩
              refine ⟨.int .i64 ((n1 : Int) + (n2 : Int)), fun W hW => (by go_wp2), ?_⟩
              refine ⟨.int .i64 ((n1 : Int) + (n2 : Int)), fun W hW => (by go_wp2), ?_⟩
              intro w4 hw4
              simp only [Act.put]
              go_wp2
              go_roundw
              case rel => exact ⟨k + 1, by omega, by go_num, by rw [hs3.out]; go_num, hw4⟩
              case measure => simp [intOf]; omega
            · have : k = i := by omega
              subst this
              have hb5 := hW0.out wr hq
              by_cases hpos : 0 < n0 + sumW l k x
              · rw [if_pos hpos] at hop
                have hr := hbd.out (by rw [hop]; decide)
                rw [hop] at hr
                replace hr := hide hr
                have hs1 := hsw.out x k (by omega)
                clear hbd hstep hop
                generalize n0 + sumW l k x = nn at *
                have hpz : (0 : Int) < (nn : Int) := by omega
                go_wp2
                go_ret
                exact ⟨by rw [hr.out]; rfl, hb5⟩
              · rw [if_neg hpos] at hop
                have hst := hide (hstep hop)
                have hz : n0 + sumW l k x = 0 := by omega
                clear hbd hstep hop hpos
                rw [hz]
                go_wp2
                go_roundw
                case rel => exact ⟨j + 1, by omega, by go_num, hst, hb5⟩
                case measure => simp [intOf]; omega
      · rw [if_pos hk] at hop
        have hkb : (e.kind != 2) = true := by simpa using hk
        have hst := hide (hstep hop)
        clear hbd hstep hop hk
        go_wp2
        go_roundw
        case rel => exact ⟨j + 1, by omega, by go_num, hst, hb2⟩
        case measure => simp [intOf]; omega
    · have : j = ops.length := by omega
      subst this
      have hr := hide (hgood.out hall.out)
      go_wp2
      go_ret
      exact ⟨by rw [hr.out]; rfl, hb⟩
end Go.Proofs.YtphcebgpllecjaaGreatDoor

namespace Go.Proofs.YtphcebgpllecjaaGreatDoor
open Go.RowKit Go.Inq
set_option maxHeartbeats 400000

theorem ahead_any {K : Nat → Prop} (A : Option Addr) (c : Nat) (l : List Ev) (i kind key : Int) (w : World) (h : EvS w K (.slice A l.length c) l) (hi : 0 ≤ i) (hil : i ≤ l.length) (hn : l.length ≤ 1000000) :
    Calls Tryz.prog 65 #[.slice A l.length c, .int .i64 i, .int .i64 kind, .int .i64 key] w fun e w' => e = .returned (.int .i64 (aheadN l kind key i.toNat)) ∧ w = w' := by
  go_enter Tryz.func65, Tryz.ntmps65
  go_wp2
  go_loop [9] (fun s => ∃ k : Nat, (k : Int) ≤ i ∧ s = .int .i64 ((k : Int) - 1) ∧ aheadN l kind key i.toNat = aheadN l kind key k) (fun s => (intOf s + 1).toNat)
  case atStart => exact ⟨i.toNat, by omega, by rw [Int.toNat_of_nonneg hi], rfl⟩
  case round =>
    obtain ⟨k, hk, rfl, heq⟩ := hrel
    have HQ := hide heq
    clear heq
    cases k with
    | zero =>
      go_wp2
      go_ret
      exact ⟨ret_int (by rw [HQ.out]; rfl), rfl⟩
    | succ m =>
      have hm : m < l.length := by omega
      have e0 : ((m + 1 : Nat) : Int) - 1 = (m : Int) := by omega
      rw [e0]
      clear e0
      obtain ⟨b, off, hA, _, c0, c1, c2, c3⟩ := EvS.at_ h hm
      subst hA
      have hg : l[m]? = some l[m] := List.getElem?_eq_getElem hm
      have HG := hide hg
      clear hg
      generalize l[m] = x at *
      go_wp2
      · go_ret
        exact ⟨ret_int (by rw [HQ.out]; exact (aheadN_hit HG.out (by assumption) (eq_of_beq (by assumption))).symm), rfl⟩
      · exact ⟨⟨m, by omega, rfl, by rw [HQ.out]; exact aheadN_miss HG.out (fun hh => by simp_all)⟩, by simp [intOf]⟩
      · exact ⟨⟨m, by omega, rfl, by rw [HQ.out]; exact aheadN_miss HG.out (fun hh => by simp_all)⟩, by simp [intOf]⟩
theorem wrong_any (A : Option Addr) (c : Nat) (l : List Ev) (i : Nat) (w : World) (h : EvS w (Old w) (.slice A l.length c) l) (hi : i < l.length) (hn : l.length ≤ 1000000) :
    Calls Tryz.prog 64 #[.slice A l.length c, .int .i64 i] w fun e w' => e = .returned (.int .i64 (wrongE l i l[i])) ∧ Below w.heap.size w w' := by
  obtain ⟨b, off, rfl, hb, c0, c1, c2, c3⟩ := EvS.at_ h hi
  have hg : l[i]? = some l[i] := List.getElem?_eq_getElem hi
  have HG := hide hg
  clear hg
  generalize l[i] = x at *
  go_enter Tryz.func64, Tryz.ntmps64
  go_wp2_with fail
  refine (rright_any x _).mono ?_
  rintro e w1 ⟨rfl, hb1⟩
  have h1 := EvS.below h hb1
  have hbc := fun o => hb1.cell (p := ⟨b, o, none⟩) hb
  rw [← hbc] at c0 c1 c2 c3
  clear hbc
  by_cases hr : x.right = true
  · by_cases hk2 : x.kind = 2
    · go_wp2
      go_ret
      exact ⟨ret_int (by simp [wrongE, hr, hk2]), hb1⟩
    · by_cases hk1 : x.kind = 1
      · have hlo := aheadN_lt l 2 x.key i
        go_wp2_with fail
        refine (ahead_any _ c l i 2 x.key w1 h1 (by omega) (by omega) hn).mono ?_
        rintro e w2 ⟨rfl, rfl⟩
        rw [Int.toNat_natCast]
        have E : Hid (wrongE l i x = if 0 ≤ aheadN l 2 x.key i then (if valAt l (aheadN l 2 x.key i) = x.val then 0 else 10) else if 0 ≤ aheadN l 1 x.key i then (if valAt l (aheadN l 1 x.key i) = x.val then 0 else 11)
            else if future l i x.key x.val = true then 9 else 0) := by
          unfold Hid wrongE; rw [if_neg (by simp [hr, hk1]), if_neg hk2]
        generalize hv : aheadN l 2 x.key i = v at *
        clear hv
        by_cases h0 : 0 ≤ v
        · obtain ⟨m, rfl⟩ := Int.eq_ofNat_of_zero_le h0
          have hm : m < l.length := by omega
          obtain ⟨_, d0, d1, d2, d3⟩ := EvS.cells h1 hm
          have hv : Hid (valAt l m = l[m].val) := by unfold Hid valAt; rw [Int.toNat_natCast, List.getElem?_eq_getElem hm]; rfl
          generalize l[m] = y at *
          go_wp2
          go_quiet (fail)
          go_wp2
          all_goals go_ret
          · exact ⟨ret_int (by rw [E.out, if_pos h0, hv.out, if_neg (by simp_all)]), below_drewN hb1 _⟩
          · exact ⟨ret_int (by rw [E.out, if_pos h0, hv.out, if_pos (by simp_all)]), below_drewN hb1 _⟩
        · have hlo1 := aheadN_lt l 1 x.key i
          go_wp2_with fail
          refine (ahead_any _ c l i 1 x.key w1 h1 (by omega) (by omega) hn).mono ?_
          rintro e w2 ⟨rfl, rfl⟩
          rw [Int.toNat_natCast]
          have E1 := E.out
          rw [if_neg (by omega)] at E1
          clear E
          have E := hide E1
          clear E1
          generalize hv : aheadN l 1 x.key i = v1 at *
          clear hv
          by_cases h01 : 0 ≤ v1
          · obtain ⟨m, rfl⟩ := Int.eq_ofNat_of_zero_le h01
            have hm : m < l.length := by omega
            obtain ⟨_, d0, d1, d2, d3⟩ := EvS.cells h1 hm
            have hv : Hid (valAt l m = l[m].val) := by unfold Hid valAt; rw [Int.toNat_natCast, List.getElem?_eq_getElem hm]; rfl
            generalize l[m] = y at *
            go_wp2
            go_quiet (fail)
            go_wp2
            all_goals go_ret
            · exact ⟨ret_int (by rw [E.out, if_pos h01, hv.out, if_neg (by simp_all)]), below_drewN hb1 _⟩
            · exact ⟨ret_int (by rw [E.out, if_pos h01, hv.out, if_pos (by simp_all)]), below_drewN hb1 _⟩
          · have E1 := E.out
            rw [if_neg (by omega)] at E1
            clear E hlo hlo1
            have E := hide E1
            clear E1
            go_wp2
            go_loopw [8] (fun s wr => ∃ k : Nat, i < k ∧ k ≤ l.length ∧ s = .int .i64 k ∧ (∃ n, wr = w1.drewN n) ∧ wrongE l i x = if (l.drop k).any (fun z => z.kind == 2 && z.key == x.key && z.val == x.val) = true then 9 else 0) (fun s _ => l.length - (intOf s).toNat)
            case atStart => exact ⟨i + 1, by omega, by omega, by go_num, ⟨0, rfl⟩, E.out⟩
            case round =>
              obtain ⟨k, hk, hkl, rfl, ⟨nd, rfl⟩, heq⟩ := hrel
              have HQ := hide heq
              clear heq E
              by_cases hlt : k < l.length
              · obtain ⟨_, d0, d1, d2, d3⟩ := EvS.cells h1 hlt
                have hst := hide (future_step (key := x.key) (val := x.val) hk (List.getElem?_eq_getElem hlt))
                generalize l[k] = y at *
                obtain ⟨yk, ys, yy, yv⟩ := y
                by_cases g1 : yk = 2
                · subst g1
                  by_cases g2 : yy = x.key
                  · subst g2
                    have b1 : (x.key == x.key) = true := by simp
                    by_cases g3 : yv = x.val
                    · subst g3
                      go_wp2
                      go_quiet (fail)
                      go_wp2
                      go_ret
                      exact ⟨ret_int (by rw [HQ.out, hst.out]; simp), below_drewN (below_drewN hb1 _) _⟩
                    · have b2 : (yv == x.val) = false := by simp [g3]
                      go_wp2
                      go_quiet (fail)
                      go_wp2
                      go_roundw
                      case rel => exact ⟨k + 1, by omega, by omega, by go_num, ⟨_, rfl⟩, by rw [HQ.out, hst.out]; simp [g3]⟩
                      case measure => simp [intOf]; omega
                  · have b1 : (yy == x.key) = false := by simp [g2]
                    go_wp2
                    go_quiet (fail)
                    go_wp2
                    go_roundw
                    case rel => exact ⟨k + 1, by omega, by omega, by go_num, ⟨_, rfl⟩, by rw [HQ.out, hst.out]; simp [g2]⟩
                    case measure => simp [intOf]; omega
                · have b1 : (yk == 2) = false := by simp [g1]
                  go_wp2
                  go_quiet (fail)
                  go_wp2
                  go_roundw
                  case rel => exact ⟨k + 1, by omega, by omega, by go_num, ⟨_, rfl⟩, by rw [HQ.out, hst.out]; simp [g1]⟩
                  case measure => simp [intOf]; omega
              · have : k = l.length := by omega
                subst this
                go_wp2
                go_ret
                exact ⟨ret_int (by rw [HQ.out]; simp), below_drewN hb1 _⟩
      · go_wp2
        go_ret
        exact ⟨ret_int (by simp [wrongE, hr, hk1, hk2]), hb1⟩
  · go_wp2
    go_ret
    exact ⟨ret_int (by simp [wrongE, hr]), hb1⟩
end Go.Proofs.YtphcebgpllecjaaGreatDoor

namespace Go.Proofs.YtphcebgpllecjaaGreatDoor
open Go.RowKit Go.Inq
set_option maxHeartbeats 1000000
attribute [local go_sem ↓] Go.wp_at_zero Go.wp_at_succ
theorem rinfo : (Tryz.prog.info? 127).map (fun i => (i.zero, i.size, i.bytes)) = some (some (.agg #[.int .i64 0, .int .i64 0]), 2, 16) := by kernel_rfl

/-- The local 'out' at block N, the result's cell at gR: reads of the first n keys, writes of the first m. -/
def RL (l : List Ev) (N gR : Nat) (w w2 : World) (n m : Nat) : Prop :=
  ∃ rv wv, Blk w2 N 99 #[rv, wv] ∧ Blk w2 gR 99 #[.slice none 0 0, .slice none 0 0] ∧
    w2.ownsRow (N + 1) 127 2 rv (readsTo l n).length ((readsTo l n).map It.enc).flatten ∧ w2.ownsRow (N + 1) 127 2 wv (writesTo l m).length ((writesTo l m).map It.enc).flatten ∧
    (∀ g, rv.ownBlock = some g → wv.ownBlock ≠ some g) ∧ Below w.heap.size w w2

theorem RL_read {l : List Ev} {N gR n m : Nat} {w wr w1 : World} {rv wv : Value} {o : Obj} {gg cap : Nat} {x : It} (hN : N < wr.heap.size) (hg : gR < N) (hw : w.heap.size ≤ gR)
    (hBo : Blk wr N 99 #[rv, wv]) (hBr : Blk wr gR 99 #[.slice none 0 0, .slice none 0 0])
    (hown : wr.ownsRow (N + 1) 127 2 rv (readsTo l n).length ((readsTo l n).map It.enc).flatten)
    (howw : wr.ownsRow (N + 1) 127 2 wv (writesTo l m).length ((writesTo l m).map It.enc).flatten)
    (hdis : ∀ g, rv.ownBlock = some g → wv.ownBlock ≠ some g) (hb : Below w.heap.size w wr)
    (hgrow : (wr.alloc o).drew.grownBy w1 rv.ownBlock) (hx : readOf l n = some x)
    (hown1 : w1.ownsRow (N + 1) 127 2 (.slice (some ⟨gg, 0, none⟩) ((readsTo l n).length + 1) cap) ((readsTo l n).length + 1) (((readsTo l n).map It.enc).flatten ++ x.enc))
    (hat : rv.ownBlock = some gg ∨ gg = wr.heap.size + 1) :
    RL l N gR w (w1.setCell ⟨N, 0, none⟩ (.slice (some ⟨gg, 0, none⟩) ((readsTo l n).length + 1) cap)) (n + 1) m := by
  have hlt : ∀ g, rv.ownBlock = some g → N + 1 ≤ g := fun g hg => (hown.lt g hg).1
  have hltw : ∀ g, wv.ownBlock = some g → N + 1 ≤ g ∧ g < wr.heap.size := fun g hg => howw.lt g hg
  have hgg : N + 1 ≤ gg := (hown1.lt gg rfl).1
  have hne : ∀ k : Nat, k < N + 1 → some k ≠ rv.ownBlock := fun k hk e => by have := hlt _ e.symm; omega
  have hsz : (wr.alloc o).drew.heap.size = wr.heap.size + 1 := by simp
  have e1 : readsTo l (n + 1) = readsTo l n ++ [x] := by rw [readsTo_succ, hx]; rfl
  have howw1 : w1.ownsRow (N + 1) 127 2 wv (writesTo l m).length ((writesTo l m).map It.enc).flatten := by
    refine (howw.alloc o).drew.kept hgrow ?_
    cases hv : wv.ownBlock with
    | none => exact .inl rfl
    | some g => exact .inr fun e => hdis g e.symm hv
  refine ⟨.slice (some ⟨gg, 0, none⟩) ((readsTo l n).length + 1) cap, wv, ?_, (((hBr.alloc o).drew.grown hgrow (hne gR (by omega))).far (p := ⟨N, 0, none⟩) (by simp; omega) _), ?_, own_setCell howw1 (fun e => by have := (hltw _ e).1; simp at this; omega) _, ?_, ?_⟩
  · exact ((hBo.alloc o).drew.grown hgrow (hne N (by omega))).set_ 0 _
  · rw [e1, List.length_append, flat_snoc]
    exact own_setCell hown1 (fun e => by simp [Value.ownBlock] at e; omega) _
  · intro g hg hw2
    simp [Value.ownBlock] at hg
    subst hg
    rcases hat with h | h
    · exact hdis gg h hw2
    · have := (hltw _ hw2).2; omega
  · exact ((hb.alloc (o := o) (by omega)).drew.grown hgrow (by omega) (fun k hk => by have := hlt k hk; omega)).setCell (by simp; omega) _

theorem RL_write {l : List Ev} {N gR n m : Nat} {w wr w1 : World} {rv wv : Value} {o : Obj} {gg cap : Nat} {x : It} (hN : N < wr.heap.size) (hg : gR < N) (hw : w.heap.size ≤ gR)
    (hBo : Blk wr N 99 #[rv, wv]) (hBr : Blk wr gR 99 #[.slice none 0 0, .slice none 0 0])
    (hown : wr.ownsRow (N + 1) 127 2 rv (readsTo l n).length ((readsTo l n).map It.enc).flatten)
    (howw : wr.ownsRow (N + 1) 127 2 wv (writesTo l m).length ((writesTo l m).map It.enc).flatten)
    (hdis : ∀ g, rv.ownBlock = some g → wv.ownBlock ≠ some g) (hb : Below w.heap.size w wr)
    (hgrow : (wr.alloc o).drew.grownBy w1 wv.ownBlock) (hx : writeOf l m = some x)
    (hown1 : w1.ownsRow (N + 1) 127 2 (.slice (some ⟨gg, 0, none⟩) ((writesTo l m).length + 1) cap) ((writesTo l m).length + 1) (((writesTo l m).map It.enc).flatten ++ x.enc))
    (hat : wv.ownBlock = some gg ∨ gg = wr.heap.size + 1) :
    RL l N gR w (w1.setCell ⟨N, 1, none⟩ (.slice (some ⟨gg, 0, none⟩) ((writesTo l m).length + 1) cap)) n (m + 1) := by
  have hlt : ∀ g, wv.ownBlock = some g → N + 1 ≤ g := fun g hg => (howw.lt g hg).1
  have hltw : ∀ g, rv.ownBlock = some g → N + 1 ≤ g ∧ g < wr.heap.size := fun g hg => hown.lt g hg
  have hgg : N + 1 ≤ gg := (hown1.lt gg rfl).1
  have hne : ∀ k : Nat, k < N + 1 → some k ≠ wv.ownBlock := fun k hk e => by have := hlt _ e.symm; omega
  have hsz : (wr.alloc o).drew.heap.size = wr.heap.size + 1 := by simp
  have e1 : writesTo l (m + 1) = writesTo l m ++ [x] := by rw [writesTo_succ, hx]; rfl
  have howw1 : w1.ownsRow (N + 1) 127 2 rv (readsTo l n).length ((readsTo l n).map It.enc).flatten := by
    refine (hown.alloc o).drew.kept hgrow ?_
    cases hv : rv.ownBlock with
    | none => exact .inl rfl
    | some g => exact .inr fun e => hdis g hv e.symm
  refine ⟨rv, .slice (some ⟨gg, 0, none⟩) ((writesTo l m).length + 1) cap, ?_, (((hBr.alloc o).drew.grown hgrow (hne gR (by omega))).far (p := ⟨N, 1, none⟩) (by simp; omega) _), own_setCell howw1 (fun e => by have := (hltw _ e).1; simp at this; omega) _, ?_, ?_, ?_⟩
  · exact ((hBo.alloc o).drew.grown hgrow (hne N (by omega))).set_ 1 _
  · rw [e1, List.length_append, flat_snoc]
    exact own_setCell hown1 (fun e => by simp [Value.ownBlock] at e; omega) _
  · intro g hg hw2
    simp [Value.ownBlock] at hw2
    subst hw2
    rcases hat with h | h
    · exact hdis gg hg h
    · have := (hltw _ hg).2; omega
  · exact ((hb.alloc (o := o) (by omega)).drew.grown hgrow (by omega) (fun k hk => by have := hlt k hk; omega)).setCell (by simp; omega) _

set_option maxRecDepth 100000 in
theorem rlook_any (A : Option Addr) (c : Nat) (l : List Ev) (w : World) (h : EvS w (Old w) (.slice A l.length c) l) (hn : l.length ≤ 1000000) :
    Calls Tryz.prog 42 #[.slice A l.length c] w fun e w' => ∃ rv wv, e = .returned (.tuple #[.agg #[rv, wv], .int .i64 (lookR l).at_, .int .i64 (lookR l).err]) ∧
      ItS w' (fun b => w.heap.size ≤ b ∧ b < w'.heap.size) rv (lookR l).reads ∧ ItS w' (fun b => w.heap.size ≤ b ∧ b < w'.heap.size) wv (lookR l).writes ∧ Below w.heap.size w w' := by
  obtain ⟨i0, hi0, hz0, hz1, hz2⟩ := info_parts rinfo
  go_enter Tryz.func42, Tryz.ntmps42
  go_wp2
  go_loopw [5, 6] (fun i _ wr => ∃ k : Nat, k ≤ l.length ∧ i = .int .i64 k ∧ (∀ j, j < k → wrongAt l j = 0) ∧ Below w.heap.size w wr ∧ Blk wr w.heap.size 99 #[.slice none 0 0, .slice none 0 0]) (fun i _ _ => l.length - (intOf i).toNat)
  case atStart => exact ⟨0, Nat.zero_le _, by go_num, fun j hj => absurd hj (by omega), (Below.refl _ _).alloc (Nat.le_refl _) _, Blk.new _ _ _⟩
  case round =>
    obtain ⟨k, hk, rfl, hall, hb, hB⟩ := hrel
    have HA := hide hall
    clear hall
    by_cases hlt : k < l.length
    · have hwr : EvS wr (Old wr) (.slice A l.length c) l := EvS.below h hb
      have c0 := hB.cell 0
      have c1 := hB.cell 1
      have f0 := hB.frozen 0
      have f1 := hB.frozen 1
      simp at c0 c1
      go_wp2_with fail
      refine (wrong_any A c l k wr hwr hlt hn).mono ?_
      rintro e w1 ⟨rfl, hb1⟩
      have hbx : Below w.heap.size w w1 := hb.trans (hb1.mono hb.size)
      have hBx : Blk w1 w.heap.size 99 #[.slice none 0 0, .slice none 0 0] := hB.below hb1 hB.lt
      have hw : Hid (wrongAt l k = wrongE l k l[k]) := by unfold Hid wrongAt; rw [List.getElem?_eq_getElem hlt]
      clear c0 c1 f0 f1
      have c0 := hBx.cell 0
      have c1 := hBx.cell 1
      have f0 := hBx.frozen 0
      have f1 := hBx.frozen 1
      simp at c0 c1
      generalize wrongE l k l[k] = x at *
      by_cases hx : x = 0
      · subst hx
        go_wp2
        go_roundw
        case rel => exact ⟨k + 1, by omega, by go_num, fun j hj => (by
            by_cases hjk : j = k
            · subst hjk; exact hw.out
            · exact HA.out j (by omega)), hbx, hBx⟩
        case measure => simp [intOf]; omega
      · go_wp2
        refine bodyPost_ret (v := .tuple #[.agg #[.slice none 0 0, .slice none 0 0], .int .i64 k, .int .i64 x]) (by simp [results, Tryz.results42, go_sem, c0, c1]) rfl ?_
        have e : lookR l = ⟨[], [], k, x⟩ := by unfold lookR; rw [firstBad_some hlt HA.out (by rw [hw.out]; exact hx)]; simp [hw.out]
        rw [e]
        exact ⟨_, _, rfl, SlR.nil _ _ _ _ _ _, SlR.nil _ _ _ _ _ _, (hbx.setCell (Nat.le_refl _) _).setCell (Nat.le_refl _) _⟩
    · have : k = l.length := by omega
      subst this
      have hz : w.heap.size < wr.heap.size := hB.lt
      have HE : Hid (lookR l = ⟨readsTo l 16, writesTo l 16, 0, 0⟩) := by unfold Hid lookR; rw [firstBad_none HA.out]
      clear HA
      have hR : RL l wr.heap.size w.heap.size w (wr.alloc (.cells #[.slice none 0 0, .slice none 0 0] 99)) 0 0 :=
        ⟨_, _, Blk.new _ _ _, hB.alloc _, World.ownsRow_nil _ _ _ _, World.ownsRow_nil _ _ _ _, fun g hg => by simp [Value.ownBlock] at hg, hb.alloc hb.size _⟩
      clear hB
      generalize hW : wr.alloc (.cells #[.slice none 0 0, .slice none 0 0] 99) = W at *
      go_wp2
      generalize wr.heap.size = N at *
      clear hW hlt hb
      clear wr
      go_loopg [8, 9, 10, 11] 16 (fun gk s8 _ _ _ wx => ∃ n : Nat, n + gk = 16 ∧ s8 = .int .i64 n ∧ RL l N w.heap.size w wx n n)
      case atStart => exact ⟨0, by omega, by go_num, hR⟩
      case round =>
        clear hR
        obtain ⟨n, hng, rfl, hR⟩ := hrel
        have hRb : Below w.heap.size w wr := hR.choose_spec.choose_spec.2.2.2.2.2
        by_cases hlt : n < 16
        · have hd : decide ((n : Int) < 16) = true := by simp; omega
          have hwx : EvS wr (Old w) (.slice A l.length c) l := EvS.keep h (Agree.below hRb fun _ hh => hh) fun _ hh => hh
          go_wp2
          go_loop [9, 10] (fun f s => ∃ k : Nat, k ≤ l.length ∧ s = .int .i64 ((k : Int) - 1) ∧ f = .int .i64 (firstD l n k)) (fun _ s => (intOf s + 1).toNat)
          case atStart => exact ⟨l.length, Nat.le_refl _, rfl, by rw [firstD_end]⟩
          case round =>
            obtain ⟨k, hk, rfl, rfl⟩ := hrel
            cases k with
            | succ m =>
              have e0 : ((m + 1 : Nat) : Int) - 1 = (m : Int) := by omega
              rw [e0]
              clear e0
              obtain ⟨b, off, rfl, _, c0, c1, c2, c3⟩ := EvS.at_ hwx (i := m) (by omega)
              have hst := hide (firstD_step (key := (n : Int)) (List.getElem?_eq_getElem (show m < l.length by omega)))
              generalize l[m] = x at *
              by_cases hx : x.key = n
              · have hx' : (x.key == (n : Int)) = true := by simp [hx]
                clear hx
                go_wp2
                go_round
                case rel => exact ⟨m, by omega, rfl, by rw [hst.out, if_pos (eq_of_beq hx')]⟩
                case measure => simp [intOf]
              · have hx' : (x.key == (n : Int)) = false := by simp [hx]
                go_wp2
                go_round
                case rel => exact ⟨m, by omega, rfl, by rw [hst.out, if_neg hx]⟩
                case measure => simp [intOf]
            | zero =>
              have hf := firstD_lt l n
              have hro : Hid (readOf l n = if 0 ≤ firstD l n 0 ∧ kindAt l (firstD l n 0) = 1 then some ⟨n, valAt l (firstD l n 0)⟩ else none) := rfl
              generalize firstD l n 0 = f at *
              go_upto_region 17 with fail
              go_cut [54] (fun s54 wx => ∃ bb : Bool, s54 = .bool bb ∧ Hid (bb = decide (0 ≤ f ∧ kindAt l f = 1)) ∧ wr = wx)
              case first =>
                by_cases h0 : 0 ≤ f
                · obtain ⟨m, rfl⟩ := Int.eq_ofNat_of_zero_le h0
                  obtain ⟨b, off, rfl, _, c0, c1, c2, c3⟩ := EvS.at_ hwx (i := m) (by omega)
                  have hka : Hid (kindAt l m = l[m].kind) := by unfold Hid kindAt; rw [Int.toNat_natCast, List.getElem?_eq_getElem (by omega)]; rfl
                  generalize l[m] = x at *
                  go_wp2
                  go_meet
                  exact ⟨_, rfl, by unfold Hid; rw [hka.out]; simp; rfl, rfl⟩
                · have h0' : decide (0 ≤ f) = false := by simp; omega
                  go_wp2
                  go_meet
                  exact ⟨_, rfl, by unfold Hid; simp; intro; omega, rfl⟩
              case rest =>
                obtain ⟨bb, rfl, hbb, rfl⟩ := hcut
                go_upto_if 54 with fail
                go_cut [] (fun wx => RL l N w.heap.size w wx (n + 1) n)
                case first =>
                  by_cases hr : 0 ≤ f ∧ kindAt l f = 1
                  · obtain rfl : bb = true := by rw [hbb.out]; simpa using hr
                    clear hbb
                    have hro' : Hid (readOf l n = some ⟨n, valAt l f⟩) := by unfold Hid; rw [hro.out, if_pos hr]
                    obtain ⟨m, rfl⟩ := Int.eq_ofNat_of_zero_le hr.1
                    clear hr
                    have hm : m < l.length := by omega
                    obtain ⟨b, off, rfl, hbK, c0, c1, c2, c3⟩ := EvS.at_ hwx (i := m) hm
                    have hva : Hid (valAt l m = l[m].val) := by unfold Hid valAt; rw [Int.toNat_natCast, List.getElem?_eq_getElem hm]; rfl
                    generalize l[m] = x at *
                    obtain ⟨rv, wv, hBo, hBr, hown, howw, hdis, hbw⟩ := hR
                    have d0 := hBo.cell 0
                    have d1 := hBo.cell 1
                    have f0 := hBo.frozen 0
                    have hNz := hBo.lt
                    have hlen := readsTo_len l n
                    simp at d0 d1
                    have hi1 : (0 : Int) ≤ (m : Int) := Int.natCast_nonneg _
                    have hi2 : (m : Int) < (l.length : Int) := by omega
                    have hbK2 : b < w.heap.size := hbK
                    go_wp2
                    refine wp_region_plan [0, 1, 2, 3, 4, 5, 6, 7, 8] [9, 10, 11, 12] (by kernel_rfl) (by kernel_rfl) (fun _ _ d _ _ h => by cases d <;> exact h) ?_
                    simp only [List.filterMap_cons, List.filterMap_nil, List.getElem?_cons_zero, List.getElem?_cons_succ]
                    repeat still_step
                    refine wpStill_nil ?_
                    refine wpList_plain rfl (fun K hK => ?_)
                    go_simp
                    refine hK _ _ ?_
                    clear hK K
                    refine wpList_append_lies _ (by rfl) _ _ _ (by rfl) (N + 1) 127 i0 _ 2 16 Tryz.underlying97 hi0 hz0 hz1 hz2 (by rfl) (by omega) rv _ _ (by rfl) ((hown.alloc _).drew) ⟨wr.heap.size, 0, none⟩ 1 1 [.int .i64 n, .int .i64 x.val] (by rfl) (by rfl) (World.news_of_block (cs := #[.int .i64 n, .int .i64 x.val]) (t := 127) (fr := (0, 0)) (heap_alloc_new _ _)) (by simp [Value.oneCell']) (by omega) (by simp [maxLen]; omega) (by omega) (by simp; omega) (wr.heap.size + 1) (by simp) ?_
                    intro gg cap w1 hown1 hgrow hat hlt
                    have hfin := hide (RL_read (x := ⟨n, x.val⟩) hNz hz (Nat.le_refl _) hBo hBr hown howw hdis hbw hgrow (by rw [hro'.out, hva.out]) hown1 hat)
                    have e0 : w1.cell? ⟨N, 0, none⟩ = some rv := (hgrow.cell_far ⟨N, 0, none⟩ (by simp; omega) (fun e => by have := (hown.lt _ e.symm).1; simp at this; omega)).trans (by simp [d0, World.cell?_alloc_some])
                    have g0 : w1.frozen? ⟨N, 0, none⟩ = false := (hgrow.frozen_far ⟨N, 0, none⟩ (by simp; omega) (fun e => by have := (hown.lt _ e.symm).1; simp at this; omega)).trans (by simp [f0, frozen?_alloc_cells])
                    clear hown1 hgrow hat hown howw hdis hBo hBr hbw d0 d1 f0
                    go_wp2
                    go_meet
                    exact hfin.out
                  · obtain rfl : bb = false := by rw [hbb.out]; simpa using hr
                    clear hbb
                    have hro' : readOf l n = none := by rw [hro.out, if_neg hr]
                    have hR' : RL l N w.heap.size w wr (n + 1) n := by unfold RL at *; rw [readsTo_succ, hro']; simpa using hR
                    clear hro' hR
                    go_wp2
                    go_meet
                    exact hR'
                case rest =>
                  have hRb2 : Below w.heap.size w wc := hcut.choose_spec.choose_spec.2.2.2.2.2
                  have hwc : EvS wc (Old w) (.slice A l.length c) l := EvS.keep h (Agree.below hRb2 fun _ hh => hh) fun _ hh => hh
                  go_wp2_with fail
                  refine (ahead_any A c l l.length 2 n wc hwc (by omega) (by omega) hn).mono ?_
                  rintro e w2 ⟨rfl, rfl⟩
                  rw [Int.toNat_natCast]
                  have hf2 := aheadN_lt l 2 n l.length
                  have hwo : Hid (writeOf l n = if 0 ≤ aheadN l 2 n l.length then some ⟨n, valAt l (aheadN l 2 n l.length)⟩ else none) := rfl
                  generalize aheadN l 2 n l.length = f2 at *
                  by_cases h0 : 0 ≤ f2
                  · obtain ⟨m, rfl⟩ := Int.eq_ofNat_of_zero_le h0
                    have hwo' : Hid (writeOf l n = some ⟨n, valAt l m⟩) := by unfold Hid; rw [hwo.out, if_pos h0]
                    have hm : m < l.length := by omega
                    obtain ⟨b, off, rfl, hbK, c0, c1, c2, c3⟩ := EvS.at_ hwc (i := m) hm
                    have hva : Hid (valAt l m = l[m].val) := by unfold Hid valAt; rw [Int.toNat_natCast, List.getElem?_eq_getElem hm]; rfl
                    generalize l[m] = x at *
                    obtain ⟨rv, wv, hBo, hBr, hown, howw, hdis, hbw⟩ := hcut
                    have d0 := hBo.cell 0
                    have d1 := hBo.cell 1
                    have f1 := hBo.frozen 1
                    have hNz := hBo.lt
                    have hlen := writesTo_len l n
                    simp at d0 d1
                    have hi1 : (0 : Int) ≤ (m : Int) := Int.natCast_nonneg _
                    have hi2 : (m : Int) < (l.length : Int) := by omega
                    have hbK2 : b < w.heap.size := hbK
                    go_wp2
                    refine wp_region_plan [0, 1, 2, 3, 4, 5, 6, 7, 8] [9, 10, 11, 12] (by kernel_rfl) (by kernel_rfl) (fun _ _ d _ _ h => by cases d <;> exact h) ?_
                    simp only [List.filterMap_cons, List.filterMap_nil, List.getElem?_cons_zero, List.getElem?_cons_succ]
                    repeat still_step
                    refine wpStill_nil ?_
                    refine wpList_plain rfl (fun K hK => ?_)
                    go_simp
                    refine hK _ _ ?_
                    clear hK K
                    refine wpList_append_lies _ (by rfl) _ _ _ (by rfl) (N + 1) 127 i0 _ 2 16 Tryz.underlying97 hi0 hz0 hz1 hz2 (by rfl) (by omega) wv _ _ (by rfl) ((howw.alloc _).drew) ⟨wc.heap.size, 0, none⟩ 1 1 [.int .i64 n, .int .i64 x.val] (by rfl) (by rfl) (World.news_of_block (cs := #[.int .i64 n, .int .i64 x.val]) (t := 127) (fr := (0, 0)) (heap_alloc_new _ _)) (by simp [Value.oneCell']) (by omega) (by simp [maxLen]; omega) (by omega) (by simp; omega) (wc.heap.size + 1) (by simp) ?_
                    intro gg cap w1 hown1 hgrow hat hlt
                    have hfin := hide (RL_write (x := ⟨n, x.val⟩) hNz hz (Nat.le_refl _) hBo hBr hown howw hdis hbw hgrow (by rw [hwo'.out, hva.out]) hown1 hat)
                    have e0 : w1.cell? ⟨N, 1, none⟩ = some wv := (hgrow.cell_far ⟨N, 1, none⟩ (by simp; omega) (fun e => by have := (howw.lt _ e.symm).1; simp at this; omega)).trans (by simp [d1, World.cell?_alloc_some])
                    have g0 : w1.frozen? ⟨N, 1, none⟩ = false := (hgrow.frozen_far ⟨N, 1, none⟩ (by simp; omega) (fun e => by have := (howw.lt _ e.symm).1; simp at this; omega)).trans (by simp [f1, frozen?_alloc_cells])
                    clear hown1 hgrow hat hown howw hdis hBo hBr hbw d0 d1 f1
                    go_wp2
                    go_roundg (15 - n)
                    case measure => omega
                    case rel => exact ⟨n + 1, by omega, by go_num, hfin.out⟩
                  · have hwo' : writeOf l n = none := by rw [hwo.out, if_neg (by omega)]
                    have hR' : RL l N w.heap.size w wc (n + 1) (n + 1) := by unfold RL at *; rw [writesTo_succ, hwo']; simpa using hcut
                    clear hwo' hcut
                    go_wp2
                    go_roundg (15 - n)
                    case measure => omega
                    case rel => exact ⟨n + 1, by omega, by go_num, hR'⟩
        · have : n = 16 := by omega
          subst this
          obtain ⟨rv, wv, hBo, hBr, hown, howw, hdis, hbw⟩ := hR
          have d0 := hBo.cell 0
          have d1 := hBo.cell 1
          have c0 := hBr.cell 0
          have c1 := hBr.cell 1
          have f0 := hBr.frozen 0
          have f1 := hBr.frozen 1
          have hNz := hBo.lt
          simp at d0 d1 c0 c1
          obtain ⟨A1, c1', rfl⟩ := own_slice hown
          obtain ⟨A2, c2', rfl⟩ := own_slice howw
          go_wp2
          refine bodyPost_ret (v := .tuple #[.agg #[.slice A1 (readsTo l 16).length c1', .slice A2 (writesTo l 16).length c2'], .int .i64 0, .int .i64 0]) (by simp [results, Tryz.results42, go_sem, c0, c1]) rfl ?_
          rw [HE.out]
          have hne : ∀ v : Value, (∀ g, v.ownBlock = some g → N + 1 ≤ g) → v.ownBlock ≠ some w.heap.size := fun v hv e => by have := hv _ e; omega
          have o1 := own_setCell (p := ⟨w.heap.size, 1, none⟩) (own_setCell (p := ⟨w.heap.size, 0, none⟩) hown (hne _ fun g hg => (hown.lt g hg).1) (.slice A1 (readsTo l 16).length c1')) (hne _ fun g hg => (hown.lt g hg).1) (.slice A2 (writesTo l 16).length c2')
          have o2 := own_setCell (p := ⟨w.heap.size, 1, none⟩) (own_setCell (p := ⟨w.heap.size, 0, none⟩) howw (hne _ fun g hg => (howw.lt g hg).1) (.slice A1 (readsTo l 16).length c1')) (hne _ fun g hg => (howw.lt g hg).1) (.slice A2 (writesTo l 16).length c2')
          exact ⟨_, _, rfl, SlR.of_flat o1 rfl (fun _ => rfl) (fun g h1 h2 => ⟨by omega, h2⟩), SlR.of_flat o2 rfl (fun _ => rfl) (fun g h1 h2 => ⟨by omega, h2⟩), (hbw.setCell (Nat.le_refl _) _).setCell (Nat.le_refl _) _⟩
end Go.Proofs.YtphcebgpllecjaaGreatDoor

namespace Go.Proofs.YtphcebgpllecjaaGreatDoor
open Go.RowKit Go.Inq
set_option maxHeartbeats 4000000
attribute [local go_sem ↓] Go.wp_at_zero Go.wp_at_succ

theorem look_len (l : List Ev) : (lookR l).reads.length ≤ 16 ∧ (lookR l).writes.length ≤ 16 := by
  unfold lookR
  split
  · simp
  · have := readsTo_len l 16
    have := writesTo_len l 16
    exact ⟨by assumption, by assumption⟩
theorem who_hit {l : List Tx} {x : It} {i : Nat} (hi : i < l.length) (h : ∀ k (hk : k < l.length), k < i → wrT l[k] x = 0) (hp : 0 < wrT l[i] x) : whoR l x = some i := by
  unfold whoR
  rw [List.findIdx?_eq_some_iff_getElem]
  refine ⟨hi, by simpa using hp, fun j hj => ?_⟩
  have := h j (by omega) hj
  simp [this]
theorem who_miss {l : List Tx} {x : It} (h : ∀ k (hk : k < l.length), wrT l[k] x = 0) : whoR l x = none := by
  unfold whoR
  rw [List.findIdx?_eq_none_iff]
  intro t ht
  obtain ⟨j, hj, rfl⟩ := List.getElem_of_mem ht
  simp [h j hj]
theorem from_zero07 {l : List Tx} {x : It} (h : x.b = 0) : fromR l x = (-1, 0) := by unfold fromR; rw [if_pos h]
theorem from_none {l : List Tx} {x : It} (h : x.b ≠ 0) (hw : whoR l x = none) : fromR l x = (0, 12) := by unfold fromR; rw [if_neg h, hw]
theorem from_some {l : List Tx} {x : It} {i : Nat} (h : x.b ≠ 0) (hi : i < l.length) (hw : whoR l x = some i) :
    fromR l x = if l[i].done = false then (0, 13) else if middleB (lookR l[i].ops).writes x = true then (0, 14) else ((numR7 l i : Int), 0) := by
  unfold fromR
  rw [if_neg h, hw]
  dsimp only
  rw [List.getElem?_eq_getElem hi]
theorem middle_hit {ws : List It} {x : It} {m : Nat} (hm : m < ws.length) (h1 : ws[m].a = x.a) (h2 : ws[m].b ≠ x.b) : middleB ws x = true := by
  unfold middleB
  rw [List.any_eq_true]
  exact ⟨ws[m], List.getElem_mem hm, by simp [h1, h2]⟩
theorem middle_miss {ws : List It} {x : It} (h : ∀ m (hm : m < ws.length), ¬ (ws[m].a = x.a ∧ ws[m].b ≠ x.b)) : middleB ws x = false := by
  unfold middleB
  rw [List.any_eq_false]
  intro y hy
  obtain ⟨j, hj, rfl⟩ := List.getElem_of_mem hy
  have := h j hj
  simp
  intro g
  exact Decidable.of_not_not fun g2 => this ⟨g, g2⟩

set_option maxRecDepth 100000 in
theorem from7_any (l : List Tx) (A : Option Addr) (c : Nat) (x : It) (w : World) (h : TxS w (Old w) (.slice A l.length c) l) (hs : SmallT l) :
    Calls Tryz.prog 66 #[.slice A l.length c, .int .i64 x.a, .int .i64 x.b] w fun e w' => e = .returned (.tuple #[.int .i64 (fromR l x).1, .int .i64 (fromR l x).2]) ∧ Below w.heap.size w w' := by
  by_cases hx0 : x.b = 0
  · have hr := hide (from_zero07 (l := l) hx0)
    have hxb : (x.b == 0) = true := by simpa using hx0
    clear hx0
    go_enter Tryz.func66, Tryz.ntmps66
    go_wp2
    go_ret2
    exact ⟨by rw [hr.out]; rfl, Below.refl _ _⟩
  · have hxb : (x.b == 0) = false := by simpa using hx0
    have hn := hs.1
    have hsm := hide hs.2
    have hnone := hide (fun hw => from_none (l := l) hx0 hw)
    have hsome := hide (fun i hi hw => from_some (l := l) (x := x) (i := i) hx0 hi hw)
    have hhit := hide (fun i hi => who_hit (l := l) (x := x) (i := i) hi)
    have hmiss := hide (who_miss (l := l) (x := x))
    clear hs hx0
    go_enter Tryz.func66, Tryz.ntmps66
    go_wp2_with fail
    go_loopw [8, 9, 10, 11, 12] (fun s8 _ _ _ _ wr => ∃ i : Nat, i ≤ l.length ∧ s8 = .int .i64 i ∧ Hid (∀ k (hk : k < l.length), k < i → wrT l[k] x = 0) ∧ Below w.heap.size w wr) (fun s8 _ _ _ _ _ => l.length - (intOf s8).toNat)
    case atStart => exact ⟨0, Nat.zero_le _, by go_num, fun k _ h => absurd h (by omega), Below.refl _ _⟩
    case round =>
      obtain ⟨i, hi, rfl, hall, hq⟩ := hrel
      have hi1 : (0 : Int) ≤ (i : Int) := Int.natCast_nonneg _
      by_cases hlt : i < l.length
      · have hi2 : (i : Int) < (l.length : Int) := by omega
        obtain ⟨b, off, A2, c2, rfl, hbK, v0, v1, v2, v3, hev2⟩ := TxS.at_ h hlt
        have hv0 := hide (show ∀ W, Below w.heap.size w W → W.cell? ⟨b, off + i * 4, none⟩ = some (.int .i64 l[i].sess) from fun W hW => (hW.cell (p := ⟨b, _, none⟩) hbK).trans v0)
        have hv1 := hide (show ∀ W, Below w.heap.size w W → W.cell? ⟨b, off + i * 4 + 1, none⟩ = some (.bool l[i].done) from fun W hW => (hW.cell (p := ⟨b, _, none⟩) hbK).trans v1)
        have hv2 := hide (show ∀ W, Below w.heap.size w W → W.cell? ⟨b, off + i * 4 + 2, none⟩ = some (.int .i64 l[i].first) from fun W hW => (hW.cell (p := ⟨b, _, none⟩) hbK).trans v2)
        have hv3 := hide (show ∀ W, Below w.heap.size w W → W.cell? ⟨b, off + i * 4 + 3, none⟩ = some (.slice A2 l[i].ops.length c2) from fun W hW => (hW.cell (p := ⟨b, _, none⟩) hbK).trans v3)
        have hls := hsm.out _ (List.getElem_mem hlt)
        have hwk := hide (fun (W : World) (hW : Below w.heap.size w W) => writes7_any l[i] A2 c2 l[i].ops.length x W (EvS.keep hev2 (Agree.below hW fun _ h => h) (fun b hb => Nat.lt_of_lt_of_le hb hW.size)) (Nat.le_refl _) (by omega))
        have hlk := hide (fun (W : World) (hW : Below w.heap.size w W) => rlook_any A2 c2 l[i].ops W (EvS.keep hev2 (Agree.below hW fun _ h => h) (fun b hb => Nat.lt_of_lt_of_le hb hW.size)) (by omega))
        have hst : wrT l[i] x = 0 → ∀ k (hk : k < l.length), k < i + 1 → wrT l[k] x = 0 := fun g k hk hki => by
          by_cases hkk : k = i
          · subst hkk; exact g
          · exact hall.out k hk (by omega)
        have hsm2 := hide (fun g : 0 < wrT l[i] x => hsome.out i hlt (hhit.out i hlt hall.out g))
        have hwT : wrT l[i] x = Go.Inq.wr l[i].ops l[i].ops.length x := rfl
        have hnum := hide (fun (W : World) (hW : Below w.heap.size w W) => number7_any l (some ⟨b, off, none⟩) c i W (TxS.keep h (Agree.below hW fun _ h => h) (fun b hb => Nat.lt_of_lt_of_le hb hW.size)) (by omega) (by omega))
        have hwle := wr_le l[i].ops l[i].ops.length x
        rw [hwT] at hst hsm2
        clear v0 v1 v2 v3 hev2 hwT hall hnone hsome hhit hmiss
        have hll := look_len l[i].ops
        generalize l[i] = y at *
        obtain ⟨xs, xd, xf, xo⟩ := y
        dsimp only at *
        generalize Go.Inq.wr xo xo.length x = n2 at *
        generalize lookR xo = lk at *
        obtain ⟨lr, lw, lat, ler⟩ := lk
        dsimp only at *
        go_wp2_with fail
        replace hst := hide hst
        refine wp_region_float (fun W => Below w.heap.size w W) (by kernel_rfl) (by kernel_rfl) hq.drew ?_
        refine ⟨.slice (some ⟨b, off, none⟩) l.length c, fun W hW => (by go_wp2), ?_⟩
        refine ⟨.int .i64 i, fun W hW => (by go_wp2), ?_⟩
        refine ⟨.pointer (some ⟨b, off + i * 4, none⟩), fun W hW => (by go_wp2), ?_⟩
        refine ⟨.agg #[.int .i64 xs, .bool xd, .int .i64 xf, .slice A2 xo.length c2], fun W hW => (by have v0 := hv0.out W hW; have v1 := hv1.out W hW; have v2 := hv2.out W hW; have v3 := hv3.out W hW; go_wp2), ?_⟩
        refine ⟨.slice (some ⟨b, off, none⟩) l.length c, fun W hW => (by go_wp2), ?_⟩
        refine ⟨.int .i64 i, fun W hW => (by go_wp2), ?_⟩
        refine ⟨.pointer (some ⟨b, off + i * 4, none⟩), fun W hW => (by go_wp2), ?_⟩
        refine ⟨.pointer (some ⟨b, off + i * 4 + 3, none⟩), fun W hW => (by go_wp2), ?_⟩
        refine ⟨.slice A2 xo.length c2, fun W hW => (by have v3 := hv3.out W hW; go_wp2), ?_⟩
        refine ⟨.int .i64 xo.length, fun W hW => (by go_wp2), ?_⟩
        refine ⟨.int .i64 x.a, fun W hW => (by go_wp2), ?_⟩
        refine ⟨.int .i64 x.b, fun W hW => (by go_wp2), ?_⟩
        refine ⟨.int .i64 n2, fun W hW => (by go_wp2_with (go_at_call 63; refine (hwk.out W hW).mono ?_; rintro e' w' ⟨rfl, hb'⟩; replace hW := hW.trans (hb'.mono hW.size))), ?_⟩
        refine ⟨.bool ((n2 : Int) == 0), fun W hW => (by go_wp2), ?_⟩
        intro w4 hw4
        simp only [Act.put, List.setIfInBounds_toArray, List.set_cons_zero, List.set_cons_succ]
        clear hv0 hv2 hwk
        by_cases hz : n2 = 0
        · have hst2 := hide (hst.out hz)
          have hzt : ((n2 : Int) == 0) = true := by rw [hz]; rfl
          clear hst hsm2 hv1 hv3 hlk hnum hz
          go_wp2
          go_roundw
          case rel => exact ⟨i + 1, by omega, by go_num, hst2, hw4⟩
          case measure => simp [intOf]; omega
        · have hr := hsm2.out (by omega)
          have hzb : ((n2 : Int) == 0) = false := by simp; omega
          clear hst hsm2 hz
          have u1 := hv1.out w4 hw4
          have u3 := hv3.out w4 hw4
          cases hd : xd with
          | false =>
            rw [if_pos hd] at hr
            rw [hd] at u1
            replace hr := hide hr
            clear hd
            go_wp2
            go_ret2
            exact ⟨by rw [hr.out]; rfl, hw4⟩
          | true =>
            rw [if_neg (by simp [hd])] at hr
            rw [hd] at u1
            replace hr := hide hr
            clear hd
            go_wp2_with fail
            refine (hlk.out w4 hw4).mono ?_
            rintro e w5 ⟨rv, wv, rfl, hrv, hwv, hb5⟩
            obtain ⟨Aw, cw, rfl⟩ := SlR.form hwv
            obtain ⟨Ar, cr, rfl⟩ := SlR.form hrv
            have hw5 := hw4.trans (hb5.mono hw4.size)
            have hF : Below w5.heap.size w5 (w5.alloc (.cells #[.slice Ar lr.length cr, .slice Aw lw.length cw] 99)) := (Below.refl _ _).alloc (Nat.le_refl _) _
            have kF : Blk (w5.alloc (.cells #[.slice Ar lr.length cr, .slice Aw lw.length cw] 99)) w5.heap.size 99 _ := Blk.new _ _ _
            have hw6 := hw5.trans (hF.mono hw5.size)
            replace hwv : ItS (w5.alloc (.cells #[.slice Ar lr.length cr, .slice Aw lw.length cw] 99)) (Old (w5.alloc (.cells #[.slice Ar lr.length cr, .slice Aw lw.length cw] 99))) (.slice Aw lw.length cw) lw := ItS.below (ItS.fit hwv (fun b hb => hb.2)) hF
            clear hF hrv hb5 hlk u1 u3
            have f1 := kF.cell 1
            simp only [List.getElem?_toArray, List.getElem?_cons_zero, List.getElem?_cons_succ] at f1
            go_wp2_with fail
            generalize w5.alloc (.cells #[.slice Ar lr.length cr, .slice Aw lw.length cw] 99) = W5 at *
            have hmh := hide (fun m hm => middle_hit (ws := lw) (x := x) (m := m) hm)
            have hmm := hide (middle_miss (ws := lw) (x := x))
            go_loop [12] (fun s12 => ∃ m : Nat, m ≤ lw.length ∧ s12 = .int .i64 m ∧ Hid (∀ k (hk : k < lw.length), k < m → ¬ (lw[k].a = x.a ∧ lw[k].b ≠ x.b))) (fun s12 => lw.length - (intOf s12).toNat)
            case atStart => exact ⟨0, Nat.zero_le _, by go_num, fun k _ h => absurd h (by omega)⟩
            case round =>
              obtain ⟨m, hm, rfl, hmall⟩ := hrel
              have hm1 : (0 : Int) ≤ (m : Int) := Int.natCast_nonneg _
              by_cases hml : m < lw.length
              · have hm2 : (m : Int) < (lw.length : Int) := by omega
                obtain ⟨bw, ow, rfl, hbw, d0, d1⟩ := ItS.at_ hwv hml
                have hms := hmh.out m hml
                have hmst : ¬ (lw[m].a = x.a ∧ lw[m].b ≠ x.b) → ∀ k (hk : k < lw.length), k < m + 1 → ¬ (lw[k].a = x.a ∧ lw[k].b ≠ x.b) := fun g k hk hkm => by
                  by_cases hkk : k = m
                  · subst hkk; exact g
                  · exact hmall.out k hk (by omega)
                generalize lw[m] = z at *
                by_cases g1 : z.a = x.a
                · have g1b : (z.a == x.a) = true := by simpa using g1
                  by_cases g2 : z.b = x.b
                  · have g2b : (z.b != x.b) = false := by simpa using g2
                    have hmst2 := hide (hmst (fun h => h.2 g2))
                    clear hmst hms g1 g2
                    go_wp2
                    go_round
                    case rel => exact ⟨m + 1, by omega, by go_num, hmst2⟩
                    case measure => simp [intOf]; omega
                  · have g2b : (z.b != x.b) = true := by simpa using g2
                    have hr2 := hr.out
                    rw [if_pos (hms g1 g2)] at hr2
                    replace hr2 := hide hr2
                    clear hmst hms g1 g2
                    go_wp2
                    go_ret2
                    exact ⟨by rw [hr2.out]; rfl, hw6⟩
                · have g1b : (z.a == x.a) = false := by simpa using g1
                  have hmst2 := hide (hmst (fun h => g1 h.1))
                  clear hmst hms g1
                  go_wp2
                  go_round
                  case rel => exact ⟨m + 1, by omega, by go_num, hmst2⟩
                  case measure => simp [intOf]; omega
              · have : m = lw.length := by omega
                subst this
                have hr2 := hr.out
                rw [if_neg (by rw [hmm.out fun k hk => hmall.out k hk hk]; simp)] at hr2
                replace hr2 := hide hr2
                go_wp2_with fail
                refine (hnum.out W5 hw6).mono ?_
                rintro e w7 ⟨rfl, rfl⟩
                go_wp2
                go_ret2
                exact ⟨by rw [hr2.out]; rfl, hw6⟩
      · have : i = l.length := by omega
        subst this
        have hr := hide (hnone.out (hmiss.out fun k hk => hall.out k hk hk))
        go_wp2
        go_ret2
        exact ⟨by rw [hr.out]; rfl, hq⟩
end Go.Proofs.YtphcebgpllecjaaGreatDoor
