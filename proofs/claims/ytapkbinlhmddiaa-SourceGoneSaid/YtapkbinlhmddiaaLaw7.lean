/-
  Walks: what the laws of layer 7 share: few, plain, op.
-/
import Derived.Test.YtapkbinlhmddiaaSrc07H
set_option linter.unusedVariables false
set_option linter.unusedSimpArgs false
namespace Go.Proofs.Ytapkbinlhmddiaa
open Go.RowKit Go.Inq
set_option maxHeartbeats 4000000
attribute [local go_sem ↓] Go.wp_at_zero Go.wp_at_succ

/-- Few, and short. -/
def fewB (l : List Tx) : Bool := decide (l.length ≤ 40) && l.all fun t => decide (t.ops.length ≤ 40)
theorem few_small {l : List Tx} (h : fewB l = true) : SmallT l := by
  unfold fewB at h
  rw [Bool.and_eq_true, List.all_eq_true] at h
  have h1 := of_decide_eq_true h.1
  exact ⟨by omega, fun t ht => by have := of_decide_eq_true (h.2 t ht); omega⟩
theorem few_bad {l : List Tx} {i : Nat} (hi : i < l.length) (h : 40 < l[i].ops.length) : fewB l = false := by
  unfold fewB
  rw [Bool.and_eq_false_iff]
  right
  rw [List.all_eq_false]
  exact ⟨l[i], List.getElem_mem hi, by simp; omega⟩
theorem few_good {l : List Tx} (h : l.length ≤ 40) (hall : ∀ i (hi : i < l.length), l[i].ops.length ≤ 40) : fewB l = true := by
  unfold fewB
  rw [Bool.and_eq_true, List.all_eq_true]
  exact ⟨by simpa using h, fun t ht => by
    obtain ⟨j, hj, rfl⟩ := List.getElem_of_mem ht
    simpa using hall j hj⟩

set_option maxRecDepth 100000 in
theorem few7_any (l : List Tx) (A : Option Addr) (c : Nat) (w : World) (h : TxS w (Old w) (.slice A l.length c) l) (hn : l.length ≤ maxLen) :
    Calls Try.prog 8 #[.slice A l.length c] w fun e w' => e = .returned (.bool (fewB l)) ∧ w = w' := by
  have hn2 : l.length ≤ 9223372036854775807 := hn
  clear hn
  by_cases hm : 40 < l.length
  · have hm2 : (40 : Int) < (l.length : Int) := by omega
    have hr : Hid (fewB l = false) := by unfold Hid fewB; rw [decide_eq_false (by omega), Bool.false_and]
    go_enter Try.func8, Try.ntmps8
    go_wp2
    go_ret
    exact ⟨by rw [hr.out]; rfl, rfl⟩
  · have hm2 : ¬ (40 : Int) < (l.length : Int) := by omega
    have hbd := hide (fun i hi => few_bad (l := l) (i := i) hi)
    have hgd := hide (fun g => few_good (l := l) (by omega) g)
    clear hn2
    go_enter Try.func8, Try.ntmps8
    go_wp2_with fail
    go_loop [3] (fun s3 => ∃ i : Nat, i ≤ l.length ∧ s3 = .int .i64 i ∧ Hid (∀ j (hj : j < l.length), j < i → l[j].ops.length ≤ 40)) (fun s3 => l.length - (intOf s3).toNat)
    case atStart => exact ⟨0, Nat.zero_le _, by go_num, fun j _ h => absurd h (by omega)⟩
    case round =>
      obtain ⟨i, hi, rfl, hall⟩ := hrel
      have hi1 : (0 : Int) ≤ (i : Int) := Int.natCast_nonneg _
      by_cases hlt : i < l.length
      · have hi2 : (i : Int) < (l.length : Int) := by omega
        obtain ⟨b, off, A', c', rfl, hbK, c0, c1, c2, c3, -⟩ := TxS.at_ h hlt
        have hb := hide (hbd.out i hlt)
        have hst : l[i].ops.length ≤ 40 → ∀ j (hj : j < l.length), j < i + 1 → l[j].ops.length ≤ 40 := fun g j hj hji => by
          by_cases hjj : j = i
          · subst hjj; exact g
          · exact hall.out j hj (by omega)
        generalize l[i] = t at *
        generalize t.ops.length = n at *
        by_cases hc : 40 < n
        · have hr := hide (hb.out hc)
          have hc2 : (40 : Int) < (n : Int) := by omega
          clear hb hst
          go_wp2
          go_ret
          exact ⟨by rw [hr.out]; rfl, rfl⟩
        · have hst2 := hide (hst (by omega))
          have hc2 : ¬ (40 : Int) < (n : Int) := by omega
          clear hb hst
          go_wp2
          go_round
          case rel => exact ⟨i + 1, by omega, by go_num, hst2⟩
          case measure => simp [intOf]; omega
      · have : i = l.length := by omega
        subst this
        have hr := hide (hgd.out fun j hj => hall.out j hj hj)
        go_wp2
        go_ret
        exact ⟨by rw [hr.out]; rfl, rfl⟩

theorem infoT05 : (Try.prog.info? 65).map (fun i => (i.zero, i.size, i.bytes)) = some (some (.agg #[.int .i64 0, .bool false, .int .i64 0, .slice none 0 0]), 4, 48) := by kernel_rfl
set_option maxRecDepth 100000 in
theorem plain7_any (l : List Tx) (A : Option Addr) (c : Nat) (w : World) (h : TxS w (Old w) (.slice A l.length c) l) (hn : l.length ≤ 1000000) :
    Calls Try.prog 11 #[.slice A l.length c] w fun e w' => ∃ A' c', e = .returned (.slice A' l.length c') ∧ TxS w' (Old w') (.slice A' l.length c') l ∧ Below w.heap.size w w' := by
  obtain ⟨it, hit, hit1, hit2, hit3⟩ := info_parts infoT05
  go_enter Try.func11, Try.ntmps11
  go_wp2_with fail
  go_loopw [3, 4] (fun s3 s4 wr => ∃ (i : Nat) (v : Value), i ≤ l.length ∧ s4 = .int .i64 i ∧ v = s3 ∧ OwnR 4 TxR wr (fun b => b < wr.heap.size ∧ v.ownBlock ≠ some b) w.heap.size 65 v (l.take i) ∧ Below w.heap.size w wr) (fun _ s4 _ => l.length - (intOf s4).toNat)
  case atStart => exact ⟨0, _, Nat.zero_le _, by go_num, rfl, OwnR.nil _ _ _ _ _ _, Below.refl _ _⟩
  case round =>
    obtain ⟨i, v, hi, rfl, rfl, hown, hb⟩ := hrel
    have hi1 : (0 : Int) ≤ (i : Int) := Int.natCast_nonneg _
    by_cases hlt : i < l.length
    · have hi2 : (i : Int) < (l.length : Int) := by omega
      have hw := TxS.keep h (Agree.below hb fun _ h => h) (fun _ h => h)
      obtain ⟨b, off, A', c', rfl, hbK, c0, c1, c2, c3, hev⟩ := TxS.at_ hw hlt
      have htk := hide (take_snoc' hlt)
      have htl : (l.take i).length = i := by rw [List.length_take]; omega
      generalize l[i] = t at *
      obtain ⟨ts, td, tf, xo⟩ := t
      dsimp only at *
      have hsz := hb.size
      have hoff := hide (show ∀ g, v.ownBlock = some g → w.heap.size ≤ g from fun g hg => (hown.lt g hg).1)
      generalize l.take i = L at *
      replace htl := hide htl
      go_wp2_with fail
      refine wp_region_plan [0, 1, 2, 3, 4, 5, 6, 7, 8, 9, 10, 11, 12, 13, 14, 15, 16, 17, 18, 19, 20, 21] [22, 23, 24] (by kernel_rfl) (by kernel_rfl) (fun _ _ d _ _ h => by cases d <;> exact h) ?_
      simp only [List.filterMap_cons, List.filterMap_nil, List.getElem?_cons_zero, List.getElem?_cons_succ]
      repeat still_step
      refine wpStill_nil ?_
      have hvlt : ∀ g, v.ownBlock = some g → g < wr.heap.size := fun g hg => (hown.lt g hg).2
      have hsX : ((wr.alloc (.cells #[.int .i64 ts, .bool td, .int .i64 tf, .slice A' xo.length c'] 65)).drew).heap.size = wr.heap.size + 1 := by simp
      have hbX : Below w.heap.size w ((wr.alloc (.cells #[.int .i64 ts, .bool td, .int .i64 tf, .slice A' xo.length c'] 65)).drew) := (hb.alloc hb.size _).drew
      have hownY : OwnR 4 TxR ((wr.alloc (.cells #[.int .i64 ts, .bool td, .int .i64 tf, .slice A' xo.length c'] 65)).drew) (fun b => b < ((wr.alloc (.cells #[.int .i64 ts, .bool td, .int .i64 tf, .slice A' xo.length c'] 65)).drew).heap.size ∧ v.ownBlock ≠ some b) w.heap.size 65 v L := OwnR.keep TxR.stab hown (Agree.alloc (fun b h => h.1) _) (fun b h => ⟨by have := h.1; omega, h.2⟩) (fun g hg => Below.heap_alloc _ _ _ (hown.lt g hg).2)
      have hevX : EvS ((wr.alloc (.cells #[.int .i64 ts, .bool td, .int .i64 tf, .slice A' xo.length c'] 65)).drew) (fun b => b < ((wr.alloc (.cells #[.int .i64 ts, .bool td, .int .i64 tf, .slice A' xo.length c'] 65)).drew).heap.size ∧ v.ownBlock ≠ some b) (.slice A' xo.length c') xo := EvS.keep hev (Agree.alloc (fun b h => by unfold Old at h; omega) _) (fun b h => ⟨by unfold Old at h; omega, fun e => by have := hoff.out b e; unfold Old at h; omega⟩)
      have hsrc : SlR 4 TxR ((wr.alloc (.cells #[.int .i64 ts, .bool td, .int .i64 tf, .slice A' xo.length c'] 65)).drew) (fun b => b < ((wr.alloc (.cells #[.int .i64 ts, .bool td, .int .i64 tf, .slice A' xo.length c'] 65)).drew).heap.size ∧ v.ownBlock ≠ some b) (.slice (some ⟨wr.heap.size, 0, none⟩) 1 1) [(⟨ts, td, tf, xo⟩ : Tx)] :=
        SlR.one (R := TxR) (K := fun b => b < ((wr.alloc (.cells #[.int .i64 ts, .bool td, .int .i64 tf, .slice A' xo.length c'] 65)).drew).heap.size ∧ v.ownBlock ≠ some b) (x := (⟨ts, td, tf, xo⟩ : Tx)) (w := ((wr.alloc (.cells #[.int .i64 ts, .bool td, .int .i64 tf, .slice A' xo.length c'] 65)).drew)) (Blk.new wr 65 #[.int .i64 ts, .bool td, .int .i64 tf, .slice A' xo.length c']) rfl ⟨_, rfl, hevX⟩ ⟨by omega, fun e => by have := hvlt _ e; omega⟩
      replace hvlt := hide hvlt
      replace hsX := hide hsX
      clear hown hb hw hev c0 c1 c2 c3 hevX
      refine wpList_plain rfl (fun K hK => ?_)
      go_simp
      refine hK _ _ ?_
      clear hK K
      refine wpList_append_list (R := TxR) rfl (.tmp 11) (.tmp 33) 32 rfl w.heap.size 65 it _ 4 48 Try.underlying32 hit hit1 hit2 hit3 rfl (by decide) v (fun b => b < ((wr.alloc (.cells #[.int .i64 ts, .bool td, .int .i64 tf, .slice A' xo.length c'] 65)).drew).heap.size ∧ v.ownBlock ≠ some b) L rfl hownY _ [(⟨ts, td, tf, xo⟩ : Tx)] rfl hsrc (fun cs x hr => TxR.one hr) (by have := htl.out; simp [maxLen]; omega) (by have := htl.out; simp; omega) (by have := hsX.out; omega) (fun w' hg cs x hr => TxR.stab _ _ _ _ _ _ hr (Agree.grown hg (fun b hb => ⟨hb.1, fun e => hb.2 e.symm⟩)) (fun _ h => h)) ?_
      intro v6 W6 hown6 hgrow6 hat6
      go_wp2
      go_roundw
      case rel =>
        have hg6 := hgrow6.size
        refine ⟨i + 1, v6, by omega, by go_num, rfl, ?_, hbX.grown hgrow6 hbX.size (fun g hg => by have := hoff.out g hg; omega)⟩
        rw [htk.out]
        refine OwnR.keep TxR.stab hown6 (Agree.refl _ _) (fun b h => ⟨by have := h.1; omega, fun e => ?_⟩) (fun g hg => rfl)
        rcases hat6 with h6 | h6
        · exact h.2 (h6.symm.trans e)
        · have h7 := h6.symm.trans e
          injection h7 with h7
          have := h.1
          omega
      case measure => simp [intOf]; omega
    · have : i = l.length := by omega
      subst this
      rw [List.take_length] at hown
      obtain ⟨A', c', rfl⟩ := hown.form
      have hlt2 := hown.lt
      have hS := OwnR.sl (OwnR.keep TxR.stab hown (Agree.refl _ _) (K' := Old wr) (fun b h => h.1) (fun g hg => rfl)) (fun g hg => (hlt2 g hg).2)
      go_wp2
      go_ret
      exact ⟨A', c', rfl, hS, hb⟩
end Go.Proofs.Ytapkbinlhmddiaa
