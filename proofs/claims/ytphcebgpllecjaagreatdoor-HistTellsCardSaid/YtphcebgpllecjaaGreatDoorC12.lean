/-
  Walks: layer 7: may, none, note; what the maps' keys are.
-/
import Derived.Test.YtphcebgpllecjaaGreatDoorC02
import Derived.Test.YtphcebgpllecjaaGreatDoorC09
import Derived.Test.YtphcebgpllecjaaGreatDoorC11
set_option linter.unusedVariables false
set_option linter.unusedSimpArgs false
namespace Go.Proofs.YtphcebgpllecjaaGreatDoor
open Go.RowKit Go.Inq
set_option maxHeartbeats 1000000
attribute [local go_sem ↓] Go.wp_at_zero Go.wp_at_succ

theorem item_eq (x y : It) (w : World) : (Op.equal 91 x.key y.key).run Tryz.prog w = .ok (decide (x = y)) w := by
  have hf : (Tryz.prog.fieldsOf 91) = (Tryz.prog.fieldsOf 91) := rfl
  unfold Op.equal Op.maxDepth It.key
  rw [run_equalIn_agg w 9999 91 _ _ (by kernel_rfl) (by kernel_rfl)]
  have h1 : decide (x = y) = (x.a == y.a && x.b == y.b) := by
    rw [Bool.eq_iff_iff]
    simp only [decide_eq_true_eq, Bool.and_eq_true, beq_iff_eq]
    cases x; cases y
    simp
  rw [h1]
  cases g1 : (x.a == y.a) <;> cases g2 : (x.b == y.b) <;> simp [Program.fieldsOf, Tryz.underlying91, Op.eqFields, go_sem, g1, g2]
theorem item_check (e : Bool) (x : It) (w : World) : (Instr.checkKey e 10000 91 x.key).run Tryz.prog w = .ok () w := by
  kernel_rfl
theorem itemKey : PairKey Tryz.prog 91 := ⟨⟨_, Tryz.underlying91⟩, item_check, item_eq⟩
def encW (p : Int × Int) : Value := .agg #[.int .i64 p.1, .int .i64 p.2]
def encB (b : Bool) : Value := .bool b

theorem none_any (a f : Int) (w : World) : Calls Tryz.prog 32 #[.int .i64 a, .int .i64 f] w fun e w' => e = .returned (.tuple #[.agg #[.slice none 0 0], .int .i64 a, .int .i64 f]) ∧ Below w.heap.size w w' := by
  have kA : Blk (w.alloc (.cells #[.slice none 0 0] 24)) w.heap.size 24 #[.slice none 0 0] := Blk.new _ _ _
  have hA : Below w.heap.size w (w.alloc (.cells #[.slice none 0 0] 24)) := (Below.refl _ _).alloc (Nat.le_refl _) _
  go_enter Tryz.func32, Tryz.ntmps32
  go_wp2
  refine bodyPost_ret (v := .tuple #[.agg #[.slice none 0 0], .int .i64 a, .int .i64 f]) (by simp [results, Tryz.results32, go_sem]) rfl ⟨rfl, ?_⟩
  exact hA

set_option maxRecDepth 100000 in
theorem may7_any (t : Tx) (A : Option Addr) (c : Nat) (w : World) (h : EvS w (Old w) (.slice A t.ops.length c) t.ops) (hn : t.ops.length ≤ 1000000) :
    Calls Tryz.prog 33 #[.agg #[.int .i64 t.sess, .bool t.done, .int .i64 t.first, .slice A t.ops.length c]] w fun e w' => e = .returned (.bool (mayT t)) ∧ Below w.heap.size w w' := by
  have hbad := hide (fun i hi => mayT_bad (t := t) (i := i) hi)
  have hgood := hide (mayT_all (t := t))
  obtain ⟨ts, td, tf, l⟩ := t
  dsimp only at *
  have hA : Below w.heap.size w (w.alloc (.cells #[.int .i64 ts, .bool td, .int .i64 tf, .slice A l.length c] 49)) := (Below.refl _ _).alloc (Nat.le_refl _) _
  have kA : Blk (w.alloc (.cells #[.int .i64 ts, .bool td, .int .i64 tf, .slice A l.length c] 49)) w.heap.size 49 _ := Blk.new _ _ _
  go_enter Tryz.func33, Tryz.ntmps33
  go_wp2_with fail
  generalize w.alloc (.cells #[.int .i64 ts, .bool td, .int .i64 tf, .slice A l.length c] 49) = W at *
  go_loopw [4, 8] (fun _ s8 wr => ∃ i : Nat, i ≤ l.length ∧ s8 = .int .i64 i ∧ Blk wr w.heap.size 49 #[.int .i64 ts, .bool td, .int .i64 tf, .slice A l.length c] ∧ Hid (∀ j (hj : j < l.length), j < i → mayE l[j] = true) ∧ Below w.heap.size w wr) (fun _ s8 _ => l.length - (intOf s8).toNat)
  case atStart => exact ⟨0, Nat.zero_le _, by go_num, kA, fun j _ h => absurd h (by omega), hA⟩
  case round =>
    obtain ⟨i, hi, rfl, kB, hall, hb⟩ := hrel
    clear kA hA
    have hi1 : (0 : Int) ≤ (i : Int) := Int.natCast_nonneg _
    by_cases hlt : i < l.length
    · have hw := EvS.below h hb
      obtain ⟨b, off, rfl, hbK, c0, c1, c2, c3⟩ := EvS.at_ hw hlt
      have hi2 : (i : Int) < (l.length : Int) := by omega
      have hbd := hide (hbad.out i hlt)
      have hok : mayE l[i] = true → ∀ j (hj : j < l.length), j < i + 1 → mayE l[j] = true := fun g j hj hji => by
        by_cases hje : j = i
        · subst hje; exact g
        · exact hall.out j hj (by omega)
      generalize l[i] = x at *
      have hmay : mayE x = (x.right && itemB x.kind) := rfl
      rw [hmay] at hbd hok
      have kE : Blk (wr.alloc (.cells #[.int .i64 x.kind, .int .i64 x.sess, .int .i64 x.key, .int .i64 x.val] 56)) wr.heap.size 56 _ := Blk.new _ _ _
      have hbE := hb.alloc hb.size (.cells #[.int .i64 x.kind, .int .i64 x.sess, .int .i64 x.key, .int .i64 x.val] 56)
      replace kB := kB.alloc (.cells #[.int .i64 x.kind, .int .i64 x.sess, .int .i64 x.key, .int .i64 x.val] 56)
      clear hmay hall hw
      go_wp2_with fail
      generalize wr.alloc (.cells #[.int .i64 x.kind, .int .i64 x.sess, .int .i64 x.key, .int .i64 x.val] 56) = W1 at *
      refine (right_any x W1).mono ?_
      rintro e w2 ⟨rfl, hb2⟩
      have kC := kB.below hb2 kB.lt
      have kF := kE.below hb2 kE.lt
      have hb3 := hbE.trans (hb2.mono hbE.size)
      have d0 := kF.cell 0
      simp only [List.getElem?_toArray, List.getElem?_cons_zero] at d0
      clear hb2 kB c0 c1 c2 c3 kE kF hbE
      cases hxr : x.right with
      | false =>
        have hb4 := hide (hbd.out (by rw [hxr]; rfl))
        clear hbd hok
        go_wp2
        go_ret
        exact ⟨by rw [hb4.out]; rfl, hb3⟩
      | true =>
        rw [hxr, Bool.true_and] at hbd hok
        by_cases h1 : x.kind = 1
        · have hx1 : (x.kind != 1) = false := by simpa using h1
          have hok2 := hide (hok (by rw [h1]; rfl))
          clear hbd hok h1
          go_wp2
          go_roundw
          case rel => exact ⟨i + 1, by omega, by go_num, kC, hok2, hb3⟩
          case measure => simp [intOf]; omega
        · have hx1 : (x.kind != 1) = true := by simpa using h1
          by_cases h2 : x.kind = 2
          · have hx2 : (x.kind != 2) = false := by simpa using h2
            have hok2 := hide (hok (by rw [h2]; rfl))
            clear hbd hok h1 h2
            go_wp2
            go_roundw
            case rel => exact ⟨i + 1, by omega, by go_num, kC, hok2, hb3⟩
            case measure => simp [intOf]; omega
          · have hx2 : (x.kind != 2) = true := by simpa using h2
            have hb4 := hide (hbd.out (by unfold itemB; simp [h1, h2]))
            clear hbd hok h1 h2
            go_wp2
            go_ret
            exact ⟨by rw [hb4.out]; rfl, hb3⟩
    · have : i = l.length := by omega
      subst this
      have hg := hide (hgood.out fun j hj => hall.out j hj hj)
      have e0 := kB.cell 0
      simp only [List.getElem?_toArray, List.getElem?_cons_zero, List.getElem?_cons_succ] at e0
      clear hgood hbad
      by_cases h0 : 0 ≤ ts
      · have g0 : decide (0 ≤ ts) = true := by simpa using h0
        go_wp2
        go_ret
        exact ⟨by rw [hg.out]; unfold belowB; rw [g0, Bool.true_and]; first | rfl | (congr 3; simp; omega), hb⟩
      · have g0 : decide (0 ≤ ts) = false := by simpa using h0
        go_wp2
        go_ret
        exact ⟨by rw [hg.out]; unfold belowB; rw [g0, Bool.false_and]; rfl, hb⟩
end Go.Proofs.YtphcebgpllecjaaGreatDoor
