/-
  Walks: the examples of layer 4.
-/
import Derived.Test.YtmhgbckjkmjeeaaDoorDiary04
import Derived.Test.YtmhgbckjkmjeeaaDoorDiary1P
import Derived.Test.YtmhgbckjkmjeeaaDoorDiary1S
import Derived.Laws.OwnMore
set_option linter.unusedVariables false
set_option linter.unusedSimpArgs false
namespace Go.Proofs.YtmhgbckjkmjeeaaDoor
open Go.RowKit Go.Inq
set_option maxHeartbeats 2000000
attribute [local go_sem ↓] Go.wp_at_zero Go.wp_at_succ

theorem evs_lit (W : World) (l : List Ev) (hl : l.length ≤ maxLen) : EvS (W.alloc (.cells ((l.map Ev.enc).flatten).toArray 23)) (Old (W.alloc (.cells ((l.map Ev.enc).flatten).toArray 23))) (.slice (some ⟨W.heap.size, 0, none⟩) l.length l.length) l := by
  have hs : ∀ l : List Ev, ((l.map Ev.enc).flatten).length = l.length * 4 := by
    intro l
    induction l with
    | nil => rfl
    | cons x r ih =>
      rw [List.map_cons, List.flatten_cons, List.length_append, ih, List.length_cons]
      have : x.enc.length = 4 := rfl
      omega
  have := World.ownsRow_lit (base := W.heap.size) (e := 23) (size := 4) W ((l.map Ev.enc).flatten).toArray l.length (Nat.le_refl _) hl (by simpa using hs l)
  exact SlR.of_flat this rfl (fun _ => rfl) (fun g h1 h2 => h2)

set_option maxRecDepth 100000 in
theorem awake04_any (w : World) (henv : Env w) : Calls Tryd.prog 19 #[] w fun e w' => e = .returned (.bool true) ∧ Below w.heap.size w w' := by
  have f1 : diaryR (({ data := #[98, 101, 103, 105, 110, 32, 49, 10, 99, 111, 109, 109, 105, 116, 32, 49, 10] } : ByteArray)).data.toList = ([⟨0, 1, 0, 0⟩, ⟨3, 1, 0, 0⟩], 0, 0) := by rfl
  have f2 : diaryR (({ data := #[98, 101, 103, 105, 110, 32, 49, 10, 99, 111, 109, 109, 105, 116, 32, 49, 10, 98, 101, 103, 105, 110, 32, 57, 10] } : ByteArray)).data.toList = ([], 3, 4) := by rfl
  have f3 : showD [⟨0, 1, 0, 0⟩, ⟨3, 1, 0, 0⟩] = ([98, 101, 103, 105, 110, 32, 49, 10, 99, 111, 109, 109, 105, 116, 32, 49, 10], 0) := by rfl
  replace f1 := hide f1
  replace f2 := hide f2
  replace f3 := hide f3
  have hcmp : (mk [98, 101, 103, 105, 110, 32, 49, 10, 99, 111, 109, 109, 105, 116, 32, 49, 10]).toList = [98, 101, 103, 105, 110, 32, 49, 10, 99, 111, 109, 109, 105, 116, 32, 49, 10] := by rw [Lib.toList_data]; rfl
  go_enter Tryd.func19, Tryd.ntmps19
  go_wp2_with fail
  refine (dparse_any { data := #[98, 101, 103, 105, 110, 32, 49, 10, 99, 111, 109, 109, 105, 116, 32, 49, 10] } _ (by decide) henv).mono ?_
  rw [f1.out]
  intro e w1 ho
  obtain ⟨A1, c1, rfl, k1, hb1⟩ := ho.open
  have e1 := henv.below hb1
  clear ho
  go_wp2_with fail
  refine (dparse_any { data := #[98, 101, 103, 105, 110, 32, 49, 10, 99, 111, 109, 109, 105, 116, 32, 49, 10, 98, 101, 103, 105, 110, 32, 57, 10] } _ (by decide) e1).mono ?_
  rw [f2.out]
  intro e w2 ho
  obtain ⟨A2, c2, rfl, -, hb2⟩ := ho.open
  have e2 := e1.below hb2
  have k2 := EvS.below k1 hb2
  have B2 := hb1.trans (hb2.mono hb1.size)
  clear ho e1 k1 hb1 hb2
  go_wp2_with fail
  refine (dshow_any A1 c1 [⟨0, 1, 0, 0⟩, ⟨3, 1, 0, 0⟩] _ k2 (by decide) e2).mono ?_
  rw [f3.out]
  rintro e w3 ⟨rfl, hb3⟩
  have k3 := EvS.below k2 hb3
  have B3 := B2.trans (hb3.mono B2.size)
  clear e2 k2 B2 hb3
  have hA : Below w3.heap.size w3 (w3.alloc (.cells #[.int .i64 0, .int .i64 1, .int .i64 0, .int .i64 0, .int .i64 3, .int .i64 1, .int .i64 0, .int .i64 0] 23)) := (Below.refl _ _).alloc (Nat.le_refl _) _
  have k4 := EvS.below k3 hA
  have B4 := B3.trans (hA.mono B3.size)
  have j4 := evs_lit w3 [⟨0, 1, 0, 0⟩, ⟨3, 1, 0, 0⟩] (by decide)
  clear hA k3 B3
  go_wp2_with fail
  refine (same03_any A1 (some ⟨w3.heap.size, 0, none⟩) c1 2 [⟨0, 1, 0, 0⟩, ⟨3, 1, 0, 0⟩] [⟨0, 1, 0, 0⟩, ⟨3, 1, 0, 0⟩] _ k4 j4 (by decide) (by decide)).mono ?_
  rintro e w4 ⟨rfl, hb4⟩
  simp only [decide_true]
  go_wp2
  go_ret
  exact ⟨by simp, B4.trans (hb4.mono B4.size)⟩
end Go.Proofs.YtmhgbckjkmjeeaaDoor
