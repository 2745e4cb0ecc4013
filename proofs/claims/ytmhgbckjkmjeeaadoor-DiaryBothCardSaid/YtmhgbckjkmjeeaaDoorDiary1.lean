/-
  Walks: diary.must, what diary.Parse defers.
-/
import Derived.Test.YtmhgbckjkmjeeaaDoorDiary0
import Derived.Test.YtmhgbckjkmjeeaaDoorEvent1P
import Derived.Test.YtmhgbckjkmjeeaaDoorLine2J
import Derived.Test.YtmhgbckjkmjeeaaDoorPlan2
import Derived.Defers
import Derived.Recover
set_option linter.unusedVariables false
set_option linter.unusedSimpArgs false
namespace Go.Proofs.YtmhgbckjkmjeeaaDoor
open Go.RowKit Go.Inq
set_option maxHeartbeats 2000000
attribute [local go_sem ↓] Go.wp_at_zero Go.wp_at_succ

theorem must_ok (a : Int) (w : World) : Calls Tryd.prog 38 #[.int .i64 a, .int .i64 0] w fun e w' => e = .returned (.tuple #[]) ∧ w = w' := by
  go_enter Tryd.func38, Tryd.ntmps38
  go_wp2
  go_end0
  exact ⟨rfl, rfl⟩
theorem must_bad (a f : Int) (hf : f ≠ 0) (w : World) : Calls Tryd.prog 38 #[.int .i64 a, .int .i64 f] w fun e w' => e = .panicked [{ v := .iface 56 (.agg #[.int .i64 a, .int .i64 f]), recovered := false }] ∧ w = w' := by
  have hfb : (f != 0) = true := by simpa using hf
  go_enter Tryd.func38, Tryd.ntmps38
  go_wp2
  exact ⟨rfl, rfl, rfl⟩
theorem assert_wrong (cs : Array Value) (W : World) : (Instr.typeAssert (.iface 56 (.agg cs)) 20 56 true).run Tryd.prog W = .ok (.tuple #[.agg cs, .bool true]) W := by
  kernel_rfl
theorem assert_nil (W : World) : (Instr.typeAssert .nilIface 20 56 true).run Tryd.prog W = .ok (.tuple #[.agg #[.int .i64 0, .int .i64 0], .bool false]) W := by
  kernel_rfl
set_option maxRecDepth 100000 in
theorem catch_idle (w : World) (g : Nat) :
    CallsD Tryd.prog 37 #[.pointer (some ⟨g, 0, none⟩), .pointer (some ⟨g + 1, 0, none⟩), .pointer (some ⟨g + 2, 0, none⟩)] .returning w fun e u' w' => e = .returned (.tuple #[]) ∧ u' = .returning ∧ Below w.heap.size w w' := by
  have h1 := assert_nil
  refine callsD_of_wpS Tryd.func37 rfl fun c₀ cs hu => ?_
  change Code.wpS _ _ _ { tmps := #[.pointer (some ⟨g, 0, none⟩), .pointer (some ⟨g + 1, 0, none⟩), .pointer (some ⟨g + 2, 0, none⟩), undef, undef, undef, undef, undef, undef, undef, undef, undef, undef, undef, undef], defers := [] } _ _
  apply wpS_seq
  apply wpS_region
  simp [wpOpsS, go_sem, recoverD, hu, h1, Exit.thenS]
  refine wpS_of_wp ?_
  go_wp2
  cases c₀
  simp_all [bodyPostS, results, Tryd.results37]
  exact (Below.refl _ _).alloc (Nat.le_refl _) _
set_option maxRecDepth 100000 in
theorem catch_panicking (a f : Int) (older : List PanicEntry) (w : World) (g : Nat) (v0 v1 v2 : Value) (k0 : Blk w g 35 #[v0]) (k1 : Blk w (g + 1) 3 #[v1]) (k2 : Blk w (g + 2) 25 #[v2]) :
    CallsD Tryd.prog 37 #[.pointer (some ⟨g, 0, none⟩), .pointer (some ⟨g + 1, 0, none⟩), .pointer (some ⟨g + 2, 0, none⟩)] (.panicking ({ v := .iface 56 (.agg #[.int .i64 a, .int .i64 f]), recovered := false } :: older)) w fun e u' w' =>
      e = .returned (.tuple #[]) ∧ u' = .panicking ({ v := .iface 56 (.agg #[.int .i64 a, .int .i64 f]), recovered := true } :: older) ∧
        Blk w' g 35 #[.slice none 0 0] ∧ Blk w' (g + 1) 3 #[.int .i64 a] ∧ Blk w' (g + 2) 25 #[.int .i64 f] ∧ Below g w w' := by
  have h1 := assert_wrong #[.int .i64 a, .int .i64 f]
  refine callsD_of_wpS Tryd.func37 rfl fun c₀ cs hu => ?_
  change Code.wpS _ _ _ { tmps := #[.pointer (some ⟨g, 0, none⟩), .pointer (some ⟨g + 1, 0, none⟩), .pointer (some ⟨g + 2, 0, none⟩), undef, undef, undef, undef, undef, undef, undef, undef, undef, undef, undef, undef], defers := [] } _ _
  apply wpS_seq
  apply wpS_region
  simp [wpOpsS, go_sem, recoverD, hu, h1, Exit.thenS]
  have hg := k2.lt
  have kW : Blk (w.alloc (.cells #[.int .i64 a, .int .i64 f] 56)) w.heap.size 56 #[.int .i64 a, .int .i64 f] := Blk.new _ _ _
  have hB : Below g w (w.alloc (.cells #[.int .i64 a, .int .i64 f] 56)) := (Below.refl _ _).alloc (by omega) _
  replace k0 := k0.alloc (.cells #[.int .i64 a, .int .i64 f] 56)
  replace k1 := k1.alloc (.cells #[.int .i64 a, .int .i64 f] 56)
  replace k2 := k2.alloc (.cells #[.int .i64 a, .int .i64 f] 56)
  have n0 : ¬ w.heap.size = g := by omega
  have n1 : ¬ w.heap.size = g + 1 := by omega
  have n2 : ¬ g = w.heap.size := by omega
  have n3 : ¬ g + 1 = w.heap.size := by omega
  generalize w.alloc (.cells #[.int .i64 a, .int .i64 f] 56) = W at *
  generalize w.heap.size = gw at *
  have c0 := kW.cell 0
  have c1 := kW.cell 1
  have f0 := k0.frozen 0
  have f1 := k1.frozen 0
  have f2 := k2.frozen 0
  have d0 := k0.cell 0
  have d1 := k1.cell 0
  have d2 := k2.cell 0
  simp only [List.getElem?_toArray, List.getElem?_cons_zero, List.getElem?_cons_succ] at c0 c1 d0 d1 d2
  refine wpS_of_wp ?_
  go_wp2_with fail
  go_region
  go_wp2
  refine ⟨rfl, _, rfl, .tuple #[], by simp [results, Tryd.results37], rfl, rfl, ?_, ?_, ?_, ?_⟩
  · exact ((k0.set_ 0 _).far (by simp) _).far (by simp) _ |>.drew
  · exact ((k1.far (by simp) _).set_ 0 _).far (by simp) _ |>.drew
  · exact ((k2.far (by simp) _).far (by simp) _).set_ 0 _ |>.drew
  · exact (((hB.setCell (by simp) _).setCell (by simp) _).setCell (by simp) _).drew

/-- The named results, read. -/
theorem results_d {tmps : Array Value} {w : World} {g : Nat} {v0 v1 v2 : Value} (h2 : tmps.getD 2 undef = .pointer (some ⟨g, 0, none⟩)) (h3 : tmps.getD 3 undef = .pointer (some ⟨g + 1, 0, none⟩)) (h4 : tmps.getD 4 undef = .pointer (some ⟨g + 2, 0, none⟩))
    (k0 : Blk w g 35 #[v0]) (k1 : Blk w (g + 1) 3 #[v1]) (k2 : Blk w (g + 2) 25 #[v2]) : (results Tryd.f20 tmps).run Tryd.prog w = .ok (.tuple #[v0, v1, v2]) w := by
  have c0 := k0.cell 0
  have c1 := k1.cell 0
  have c2 := k2.cell 0
  simp only [List.getElem?_toArray, List.getElem?_cons_zero] at c0 c1 c2
  have e2 : tmps[2]?.getD undef = .pointer (some ⟨g, 0, none⟩) := by simpa using h2
  have e3 : tmps[3]?.getD undef = .pointer (some ⟨g + 1, 0, none⟩) := by simpa using h3
  have e4 : tmps[4]?.getD undef = .pointer (some ⟨g + 2, 0, none⟩) := by simpa using h4
  unfold results
  simp [Tryd.results20, e2, e3, e4, go_sem, c0, c1, c2]
/-- What diary.Parse defers. -/
def later (g : Nat) : Deferred := { target := .fn (.func 37) #[.pointer (some ⟨g, 0, none⟩), .pointer (some ⟨g + 1, 0, none⟩), .pointer (some ⟨g + 2, 0, none⟩)], args := #[] }
theorem leaves_bad {R : Ending → World → Prop} {tmps : Array Value} (a f : Int) {w : World} {g : Nat} {v0 v1 v2 : Value} (k0 : Blk w g 35 #[v0]) (k1 : Blk w (g + 1) 3 #[v1]) (k2 : Blk w (g + 2) 25 #[v2])
    (h2 : tmps.getD 2 undef = .pointer (some ⟨g, 0, none⟩)) (h3 : tmps.getD 3 undef = .pointer (some ⟨g + 1, 0, none⟩)) (h4 : tmps.getD 4 undef = .pointer (some ⟨g + 2, 0, none⟩))
    (h : ∀ w', Below g w w' → R (.returned (.tuple #[.slice none 0 0, .int .i64 a, .int .i64 f])) w') :
    Leaves Tryd.prog Tryd.f20 tmps R [later g] (.panicking [{ v := .iface 56 (.agg #[.int .i64 a, .int .i64 f]), recovered := false }]) w := by
  refine leaves_cons (f := 37) (args := #[.pointer (some ⟨g, 0, none⟩), .pointer (some ⟨g + 1, 0, none⟩), .pointer (some ⟨g + 2, 0, none⟩)]) (by simp) (by simp [go_sem]) ?_
  refine (catch_panicking a f [] w g v0 v1 v2 k0 k1 k2).mono ?_
  rintro e u' w'' ⟨rfl, rfl, j0, j1, j2, hb⟩
  exact ⟨_, results_d h2 h3 h4 j0 j1 j2, h w'' hb⟩
theorem leaves_good {R : Ending → World → Prop} {tmps : Array Value} {w : World} {g : Nat} {v0 v1 v2 : Value} (k0 : Blk w g 35 #[v0]) (k1 : Blk w (g + 1) 3 #[v1]) (k2 : Blk w (g + 2) 25 #[v2])
    (h2 : tmps.getD 2 undef = .pointer (some ⟨g, 0, none⟩)) (h3 : tmps.getD 3 undef = .pointer (some ⟨g + 1, 0, none⟩)) (h4 : tmps.getD 4 undef = .pointer (some ⟨g + 2, 0, none⟩))
    (h : ∀ w', Below w.heap.size w w' → R (.returned (.tuple #[v0, v1, v2])) w') : Leaves Tryd.prog Tryd.f20 tmps R [later g] .returning w := by
  refine leaves_cons (f := 37) (args := #[.pointer (some ⟨g, 0, none⟩), .pointer (some ⟨g + 1, 0, none⟩), .pointer (some ⟨g + 2, 0, none⟩)]) (by simp) (by simp [go_sem]) ?_
  refine (catch_idle w g).mono ?_
  rintro e u' w'' ⟨rfl, rfl, hb⟩
  exact ⟨_, results_d h2 h3 h4 (k0.below hb k0.lt) (k1.below hb k1.lt) (k2.below hb k2.lt), h w'' hb⟩
end Go.Proofs.YtmhgbckjkmjeeaaDoor
