/-
  Walks: slices.IndexFunc, ContainsFunc at choices; slices.Index, Contains at takes.
-/
import Derived.BigQuiet
import Derived.Test.YtfhnamomiaekdaaGreatT08
import Derived.Test.YtfhnamomiaekdaaGreatT01
import Derived.Test.YtfhnamomiaekdaaGreatT03
import Derived.Test.YtfhnamomiaekdaaGreatT05
set_option linter.unusedVariables false
set_option linter.unusedSimpArgs false
namespace Go.Proofs.YtfhnamomiaekdaaGreat
open Go.RowKit Go.Inq
set_option maxHeartbeats 2000000
attribute [local go_sem ↓] Go.wp_at_zero Go.wp_at_succ

def idxP {α : Type} (p : α → Bool) (l : List α) : Int := match l.findIdx? p with | some k => k | none => -1
theorem idxP_hit {α : Type} {p : α → Bool} {l : List α} {k : Nat} (hk : k < l.length) (h : p l[k] = true) (h0 : ∀ j (hj : j < l.length), j < k → p l[j] = false) : idxP p l = k := by
  unfold idxP
  have : l.findIdx? p = some k := by
    rw [List.findIdx?_eq_some_iff_getElem]
    exact ⟨hk, h, fun j hj => by rw [h0 j (by omega) hj]; simp⟩
  rw [this]
theorem idxP_none {α : Type} {p : α → Bool} {l : List α} (h0 : ∀ j (hj : j < l.length), p l[j] = false) : idxP p l = -1 := by
  unfold idxP
  have : l.findIdx? p = none := by
    rw [List.findIdx?_eq_none_iff]
    intro y hy
    obtain ⟨j, hj, rfl⟩ := List.getElem_of_mem hy
    exact h0 j hj
  rw [this]
theorem idxP_any {α : Type} (p : α → Bool) (l : List α) : decide (0 ≤ idxP p l) = l.any p := by
  unfold idxP
  cases hf : l.findIdx? p with
  | none =>
    rw [List.findIdx?_eq_none_iff] at hf
    have : l.any p = false := by rw [List.any_eq_false]; intro x hx; rw [hf x hx]; simp
    rw [this]; rfl
  | some k =>
    rw [List.findIdx?_eq_some_iff_getElem] at hf
    obtain ⟨h1, h2, _⟩ := hf
    have : l.any p = true := List.any_eq_true.2 ⟨_, List.getElem_mem h1, h2⟩
    rw [this]; simp
theorem idxP_ge {α : Type} (p : α → Bool) (l : List α) : -1 ≤ idxP p l := by unfold idxP; split <;> omega
set_option maxRecDepth 100000 in
theorem indexC_any (f : Nat) (hf : ∀ args w, (callFunc f args).run Tryz.prog w = .ok (.enter f args) w) (lb : Array Value) (p : Cho → Bool) (A : Option Addr) (c : Nat) (l : List Cho) (w : World) (h : ChoS w (Old w) (.slice A l.length c) l) (hl : l.length ≤ 1000000000)
    (hp : ∀ W, Below w.heap.size w W → ∀ x ∈ l, Calls Tryz.prog f (#[.agg #[.int .i64 x.key, .int .i64 x.a, .int .i64 x.b]] ++ lb) W fun e W' => e = .returned (.bool (p x)) ∧ Below W.heap.size W W') :
    Calls Tryz.prog 237 #[.slice A l.length c, .func (.func f) #[] lb] w fun e w' => e = .returned (.int .i64 (idxP p l)) ∧ Below w.heap.size w w' := by
  have hhit := hide (fun k => idxP_hit (p := p) (l := l) (k := k))
  have hnone := hide (idxP_none (p := p) (l := l))
  replace h := hide h
  replace hp := hide hp
  go_enter Tryz.func237, Tryz.ntmps237
  go_wp2_with fail
  go_loopw [8] (fun s8 wr => ∃ k : Nat, k ≤ l.length ∧ s8 = .int .i64 k ∧ Hid (∀ j (hj : j < l.length), j < k → p l[j] = false) ∧ Below w.heap.size w wr) (fun s8 _ => l.length - (intOf s8).toNat)
  case atStart => exact ⟨0, Nat.zero_le _, by go_num, fun j hj h => absurd h (by omega), Below.refl _ _⟩
  case round =>
    obtain ⟨k, hk, rfl, hall, hb⟩ := hrel
    have hk1 : (0 : Int) ≤ (k : Int) := Int.natCast_nonneg _
    by_cases hlt : k < l.length
    · have hi2 : (k : Int) < (l.length : Int) := by omega
      obtain ⟨b, off, rfl, _, d0, d1, d2⟩ := (h.out.below hb).at_ hlt
      have hcall := hide (hp.out _ hb _ (List.getElem_mem hlt))
      have hh := hide (fun g => hhit.out k hlt g hall.out)
      have hst : Hid (p l[k] = false → ∀ j (hj : j < l.length), j < k + 1 → p l[j] = false) := fun g j hj hjk => by
        by_cases e : j = k
        · subst e; exact g
        · exact hall.out j hj (by omega)
      clear hall
      generalize l[k] = x at *
      go_wp2_with fail
      refine hcall.out.mono ?_
      rintro e W2 ⟨rfl, hb2⟩
      have hb3 := hb.trans (hb2.mono hb.size)
      cases hpx : p x with
      | true =>
        have hr := hide (hh.out hpx)
        clear hpx hh hst hcall
        go_wp2
        go_ret
        exact ⟨ret_int hr.out.symm, hb3⟩
      | false =>
        have hr := hide (hst.out hpx)
        clear hpx hh hst hcall
        go_wp2
        go_roundw
        case rel => exact ⟨k + 1, by omega, by go_num, hr, hb3⟩
        case measure => simp [intOf]; omega
    · have hr := hide (hnone.out fun j hj => hall.out j hj (by omega))
      go_wp2
      go_ret
      exact ⟨ret_int hr.out.symm, hb⟩
theorem containsC_any (f : Nat) (hf : ∀ args w, (callFunc f args).run Tryz.prog w = .ok (.enter f args) w) (lb : Array Value) (p : Cho → Bool) (A : Option Addr) (c : Nat) (l : List Cho) (w : World) (h : ChoS w (Old w) (.slice A l.length c) l) (hl : l.length ≤ 1000000000)
    (hp : ∀ W, Below w.heap.size w W → ∀ x ∈ l, Calls Tryz.prog f (#[.agg #[.int .i64 x.key, .int .i64 x.a, .int .i64 x.b]] ++ lb) W fun e W' => e = .returned (.bool (p x)) ∧ Below W.heap.size W W') :
    Calls Tryz.prog 203 #[.slice A l.length c, .func (.func f) #[] lb] w fun e w' => e = .returned (.bool (l.any p)) ∧ Below w.heap.size w w' := by
  have hd := hide (idxP_any p l)
  have hcall := hide (indexC_any f hf lb p A c l w h hl hp)
  clear hp hf h
  go_enter Tryz.func203, Tryz.ntmps203
  go_wp2_with fail
  refine hcall.out.mono ?_
  rintro e w1 ⟨rfl, hb⟩
  clear hcall
  go_wp2
  go_ret
  exact ⟨by rw [← hd.out]; rfl, hb⟩
/-- Takes sought among takes. -/
theorem indexT_any (A : Option Addr) (c : Nat) (l : List It) (xa xb : Int) (w : World) (h : ItS w (Old w) (.slice A l.length c) l) (hl : l.length ≤ 1000000000) :
    Calls Tryz.prog 279 #[.slice A l.length c, .agg #[.int .i64 xa, .int .i64 xb]] w fun e w' => e = .returned (.int .i64 (idxP (fun x : It => decide (x.a = xa) && decide (x.b = xb)) l)) ∧ Below w.heap.size w w' := by
  have hhit := hide (fun k => idxP_hit (p := fun x : It => decide (x.a = xa) && decide (x.b = xb)) (l := l) (k := k))
  have hnone := hide (idxP_none (p := fun x : It => decide (x.a = xa) && decide (x.b = xb)) (l := l))
  obtain ⟨W0, hW0⟩ : ∃ W0, w.alloc (.cells #[.int .i64 xa, .int .i64 xb] 83) = W0 := ⟨_, rfl⟩
  have hB := below_allocEq (Below.refl w.heap.size w) hW0 (Nat.le_refl _)
  have k0 := Blk.newEq hW0
  replace h := hide h
  go_enter Tryz.func279, Tryz.ntmps279
  go_wp2_with fail
  clear hW0
  go_loopw [8] (fun s8 wr => ∃ k : Nat, k ≤ l.length ∧ s8 = .int .i64 k ∧ Hid (∀ j (hj : j < l.length), j < k → (decide (l[j].a = xa) && decide (l[j].b = xb)) = false) ∧ Below w.heap.size w wr ∧ Blk wr w.heap.size 83 #[.int .i64 xa, .int .i64 xb]) (fun s8 _ => l.length - (intOf s8).toNat)
  case atStart => exact ⟨0, Nat.zero_le _, by go_num, fun j hj h => absurd h (by omega), hB, k0⟩
  case round =>
    clear k0 hB
    obtain ⟨k, hk, rfl, hall, hb, k0⟩ := hrel
    have hk1 : (0 : Int) ≤ (k : Int) := Int.natCast_nonneg _
    by_cases hlt : k < l.length
    · have hi2 : (k : Int) < (l.length : Int) := by omega
      obtain ⟨b, off, rfl, _, d0, d1⟩ := (h.out.below hb).at_ hlt
      have hh := hide (fun g => hhit.out k hlt g hall.out)
      have hst : Hid ((decide (l[k].a = xa) && decide (l[k].b = xb)) = false → ∀ j (hj : j < l.length), j < k + 1 → (decide (l[j].a = xa) && decide (l[j].b = xb)) = false) := fun g j hj hjk => by
        by_cases e : j = k
        · subst e; exact g
        · exact hall.out j hj (by omega)
      have c0 := k0.cell 0
      have c1 := k0.cell 1
      simp only [List.getElem?_toArray, List.getElem?_cons_zero, List.getElem?_cons_succ] at c0 c1
      clear hall
      generalize l[k] = x at *
      obtain ⟨ya, yb⟩ := x
      dsimp only at *
      by_cases q1 : xa = ya
      · by_cases q2 : xb = yb
        · have q1b : (xa == ya) = true := by simpa using q1
          have q2b : (xb == yb) = true := by simpa using q2
          have hr := hide (hh.out (by simp [q1, q2]))
          clear q1 q2 hh hst
          go_wp2
          go_quiet (fail)
          go_wp2
          go_ret
          exact ⟨ret_int hr.out.symm, hb.trans ⟨rfl, rfl, rfl, Nat.le_refl _, fun _ _ => rfl⟩⟩
        · have q1b : (xa == ya) = true := by simpa using q1
          have q2b : (xb == yb) = false := by simpa using q2
          have hr := hide (hst.out (by simp; intro _ e; exact q2 e.symm))
          clear q1 q2 hh hst
          go_wp2
          go_quiet (fail)
          go_wp2
          go_roundw
          case rel => exact ⟨k + 1, by omega, by go_num, hr, hb.trans ⟨rfl, rfl, rfl, Nat.le_refl _, fun _ _ => rfl⟩, k0⟩
          case measure => simp [intOf]; omega
      · have q1b : (xa == ya) = false := by simpa using q1
        have hr := hide (hst.out (by simp; intro e; exact absurd e.symm q1))
        clear q1 hh hst
        go_wp2
        go_quiet (fail)
        go_wp2
        go_roundw
        case rel => exact ⟨k + 1, by omega, by go_num, hr, hb.trans ⟨rfl, rfl, rfl, Nat.le_refl _, fun _ _ => rfl⟩, k0⟩
        case measure => simp [intOf]; omega
    · have hr := hide (hnone.out fun j hj => hall.out j hj (by omega))
      go_wp2
      go_ret
      exact ⟨ret_int hr.out.symm, hb⟩
theorem containsT_any (A : Option Addr) (c : Nat) (l : List It) (xa xb : Int) (w : World) (h : ItS w (Old w) (.slice A l.length c) l) (hl : l.length ≤ 1000000000) :
    Calls Tryz.prog 274 #[.slice A l.length c, .agg #[.int .i64 xa, .int .i64 xb]] w fun e w' => e = .returned (.bool (l.any fun x => decide (x.a = xa) && decide (x.b = xb))) ∧ Below w.heap.size w w' := by
  have hd := hide (idxP_any (fun x : It => decide (x.a = xa) && decide (x.b = xb)) l)
  obtain ⟨W0, hW0⟩ : ∃ W0, w.alloc (.cells #[.int .i64 xa, .int .i64 xb] 83) = W0 := ⟨_, rfl⟩
  have hB := below_allocEq (Below.refl w.heap.size w) hW0 (Nat.le_refl _)
  have h0 := h.below hB
  have hcall := hide (indexT_any A c l xa xb W0 h0 hl)
  have k0 := Blk.newEq hW0
  clear h h0
  have c0 := k0.cell 0
  have c1 := k0.cell 1
  simp only [List.getElem?_toArray, List.getElem?_cons_zero, List.getElem?_cons_succ] at c0 c1
  go_enter Tryz.func274, Tryz.ntmps274
  go_wp2_with fail
  clear hW0
  refine hcall.out.mono ?_
  rintro e w1 ⟨rfl, hb⟩
  have hb2 := hB.trans (hb.mono hB.size)
  clear hcall
  go_wp2
  go_ret
  exact ⟨by rw [← hd.out]; rfl, hb2⟩
end Go.Proofs.YtfhnamomiaekdaaGreat

namespace Go.Proofs.YtfhnamomiaekdaaGreat
open Go.RowKit Go.Inq
set_option maxHeartbeats 2000000
attribute [local go_sem ↓] Go.wp_at_zero Go.wp_at_succ

/-- Values, each with what is asked of it. -/
def KndS (w : World) (K : Nat → Prop) (v : Value) (l : List (Value × Bool)) : Prop := SlR 1 (Flat fun x : Value × Bool => [x.1]) w K v l
theorem KndS.below {w w' : World} {v : Value} {l : List (Value × Bool)} (h : KndS w (Old w) v l) (hb : Below w.heap.size w w') : KndS w' (Old w') v l := SlR.below (Flat.stab _) h hb
theorem KndS.at_ {w : World} {K : Nat → Prop} {A : Option Addr} {n c : Nat} {l : List (Value × Bool)} (h : KndS w K (.slice A n c) l) {i : Nat} (hi : i < l.length) :
    ∃ b off, A = some ⟨b, off, none⟩ ∧ K b ∧ w.cell? ⟨b, off + i, none⟩ = some l[i].1 := by
  obtain ⟨b, off, cs, hA, hK, _, hR, hc⟩ := SlR.at_ h hi
  unfold Flat at hR
  subst hR
  have := hc 0 _ rfl
  rw [Nat.mul_one, Nat.add_zero] at this
  exact ⟨b, off, hA, hK, this⟩
set_option maxRecDepth 100000 in
theorem indexTk_any (f : Nat) (hf : ∀ args w, (callFunc f args).run Tryz.prog w = .ok (.enter f args) w) (lb : Array Value) (p : It → Bool) (A : Option Addr) (c : Nat) (l : List (It)) (w : World) (h : ItS w (Old w) (.slice A l.length c) l) (hl : l.length ≤ 1000000000)
    (hp : ∀ W, Below w.heap.size w W → ∀ x ∈ l, Calls Tryz.prog f (#[.agg #[.int .i64 x.a, .int .i64 x.b]] ++ lb) W fun e W' => e = .returned (.bool (p x)) ∧ Below W.heap.size W W') :
    Calls Tryz.prog 216 #[.slice A l.length c, .func (.func f) #[] lb] w fun e w' => e = .returned (.int .i64 (idxP p l)) ∧ Below w.heap.size w w' := by
  have hhit := hide (fun k => idxP_hit (p := p) (l := l) (k := k))
  have hnone := hide (idxP_none (p := p) (l := l))
  replace h := hide h
  replace hp := hide hp
  go_enter Tryz.func216, Tryz.ntmps216
  go_wp2_with fail
  go_loopw [8] (fun s8 wr => ∃ k : Nat, k ≤ l.length ∧ s8 = .int .i64 k ∧ Hid (∀ j (hj : j < l.length), j < k → p l[j] = false) ∧ Below w.heap.size w wr) (fun s8 _ => l.length - (intOf s8).toNat)
  case atStart => exact ⟨0, Nat.zero_le _, by go_num, fun j hj h => absurd h (by omega), Below.refl _ _⟩
  case round =>
    obtain ⟨k, hk, rfl, hall, hb⟩ := hrel
    have hk1 : (0 : Int) ≤ (k : Int) := Int.natCast_nonneg _
    by_cases hlt : k < l.length
    · have hi2 : (k : Int) < (l.length : Int) := by omega
      obtain ⟨b, off, rfl, _, d0, d1⟩ := (h.out.below hb).at_ hlt
      have hcall := hide (hp.out _ hb _ (List.getElem_mem hlt))
      have hh := hide (fun g => hhit.out k hlt g hall.out)
      have hst : Hid (p l[k] = false → ∀ j (hj : j < l.length), j < k + 1 → p l[j] = false) := fun g j hj hjk => by
        by_cases e : j = k
        · subst e; exact g
        · exact hall.out j hj (by omega)
      clear hall
      generalize l[k] = x at *
      go_wp2_with fail
      refine hcall.out.mono ?_
      rintro e W2 ⟨rfl, hb2⟩
      have hb3 := hb.trans (hb2.mono hb.size)
      cases hpx : p x with
      | true =>
        have hr := hide (hh.out hpx)
        clear hpx hh hst hcall
        go_wp2
        go_ret
        exact ⟨ret_int hr.out.symm, hb3⟩
      | false =>
        have hr := hide (hst.out hpx)
        clear hpx hh hst hcall
        go_wp2
        go_roundw
        case rel => exact ⟨k + 1, by omega, by go_num, hr, hb3⟩
        case measure => simp [intOf]; omega
    · have hr := hide (hnone.out fun j hj => hall.out j hj (by omega))
      go_wp2
      go_ret
      exact ⟨ret_int hr.out.symm, hb⟩
theorem containsTk_any (f : Nat) (hf : ∀ args w, (callFunc f args).run Tryz.prog w = .ok (.enter f args) w) (lb : Array Value) (p : It → Bool) (A : Option Addr) (c : Nat) (l : List (It)) (w : World) (h : ItS w (Old w) (.slice A l.length c) l) (hl : l.length ≤ 1000000000)
    (hp : ∀ W, Below w.heap.size w W → ∀ x ∈ l, Calls Tryz.prog f (#[.agg #[.int .i64 x.a, .int .i64 x.b]] ++ lb) W fun e W' => e = .returned (.bool (p x)) ∧ Below W.heap.size W W') :
    Calls Tryz.prog 156 #[.slice A l.length c, .func (.func f) #[] lb] w fun e w' => e = .returned (.bool (l.any p)) ∧ Below w.heap.size w w' := by
  have hd := hide (idxP_any p l)
  have hcall := hide (indexTk_any f hf lb p A c l w h hl hp)
  clear hp hf h
  go_enter Tryz.func156, Tryz.ntmps156
  go_wp2_with fail
  refine hcall.out.mono ?_
  rintro e w1 ⟨rfl, hb⟩
  clear hcall
  go_wp2
  go_ret
  exact ⟨by rw [← hd.out]; rfl, hb⟩
set_option maxRecDepth 100000 in
theorem indexWr_any (f : Nat) (hf : ∀ args w, (callFunc f args).run Tryz.prog w = .ok (.enter f args) w) (lb : Array Value) (p : Cho → Bool) (A : Option Addr) (c : Nat) (l : List (Cho)) (w : World) (h : ChoS w (Old w) (.slice A l.length c) l) (hl : l.length ≤ 1000000000)
    (hp : ∀ W, Below w.heap.size w W → ∀ x ∈ l, Calls Tryz.prog f (#[.agg #[.int .i64 x.key, .int .i64 x.a, .int .i64 x.b]] ++ lb) W fun e W' => e = .returned (.bool (p x)) ∧ Below W.heap.size W W') :
    Calls Tryz.prog 306 #[.slice A l.length c, .func (.func f) #[] lb] w fun e w' => e = .returned (.int .i64 (idxP p l)) ∧ Below w.heap.size w w' := by
  have hhit := hide (fun k => idxP_hit (p := p) (l := l) (k := k))
  have hnone := hide (idxP_none (p := p) (l := l))
  replace h := hide h
  replace hp := hide hp
  go_enter Tryz.func306, Tryz.ntmps306
  go_wp2_with fail
  go_loopw [8] (fun s8 wr => ∃ k : Nat, k ≤ l.length ∧ s8 = .int .i64 k ∧ Hid (∀ j (hj : j < l.length), j < k → p l[j] = false) ∧ Below w.heap.size w wr) (fun s8 _ => l.length - (intOf s8).toNat)
  case atStart => exact ⟨0, Nat.zero_le _, by go_num, fun j hj h => absurd h (by omega), Below.refl _ _⟩
  case round =>
    obtain ⟨k, hk, rfl, hall, hb⟩ := hrel
    have hk1 : (0 : Int) ≤ (k : Int) := Int.natCast_nonneg _
    by_cases hlt : k < l.length
    · have hi2 : (k : Int) < (l.length : Int) := by omega
      obtain ⟨b, off, rfl, _, d0, d1, d2⟩ := (h.out.below hb).at_ hlt
      have hcall := hide (hp.out _ hb _ (List.getElem_mem hlt))
      have hh := hide (fun g => hhit.out k hlt g hall.out)
      have hst : Hid (p l[k] = false → ∀ j (hj : j < l.length), j < k + 1 → p l[j] = false) := fun g j hj hjk => by
        by_cases e : j = k
        · subst e; exact g
        · exact hall.out j hj (by omega)
      clear hall
      generalize l[k] = x at *
      go_wp2_with fail
      refine hcall.out.mono ?_
      rintro e W2 ⟨rfl, hb2⟩
      have hb3 := hb.trans (hb2.mono hb.size)
      cases hpx : p x with
      | true =>
        have hr := hide (hh.out hpx)
        clear hpx hh hst hcall
        go_wp2
        go_ret
        exact ⟨ret_int hr.out.symm, hb3⟩
      | false =>
        have hr := hide (hst.out hpx)
        clear hpx hh hst hcall
        go_wp2
        go_roundw
        case rel => exact ⟨k + 1, by omega, by go_num, hr, hb3⟩
        case measure => simp [intOf]; omega
    · have hr := hide (hnone.out fun j hj => hall.out j hj (by omega))
      go_wp2
      go_ret
      exact ⟨ret_int hr.out.symm, hb⟩
theorem containsWr_any (f : Nat) (hf : ∀ args w, (callFunc f args).run Tryz.prog w = .ok (.enter f args) w) (lb : Array Value) (p : Cho → Bool) (A : Option Addr) (c : Nat) (l : List (Cho)) (w : World) (h : ChoS w (Old w) (.slice A l.length c) l) (hl : l.length ≤ 1000000000)
    (hp : ∀ W, Below w.heap.size w W → ∀ x ∈ l, Calls Tryz.prog f (#[.agg #[.int .i64 x.key, .int .i64 x.a, .int .i64 x.b]] ++ lb) W fun e W' => e = .returned (.bool (p x)) ∧ Below W.heap.size W W') :
    Calls Tryz.prog 303 #[.slice A l.length c, .func (.func f) #[] lb] w fun e w' => e = .returned (.bool (l.any p)) ∧ Below w.heap.size w w' := by
  have hd := hide (idxP_any p l)
  have hcall := hide (indexWr_any f hf lb p A c l w h hl hp)
  clear hp hf h
  go_enter Tryz.func303, Tryz.ntmps303
  go_wp2_with fail
  refine hcall.out.mono ?_
  rintro e w1 ⟨rfl, hb⟩
  clear hcall
  go_wp2
  go_ret
  exact ⟨by rw [← hd.out]; rfl, hb⟩
set_option maxRecDepth 100000 in
theorem indexKd_any (f : Nat) (hf : ∀ args w, (callFunc f args).run Tryz.prog w = .ok (.enter f args) w) (lb : Array Value) (p : Value × Bool → Bool) (A : Option Addr) (c : Nat) (l : List (Value × Bool)) (w : World) (h : KndS w (Old w) (.slice A l.length c) l) (hl : l.length ≤ 1000000000)
    (hp : ∀ W, Below w.heap.size w W → ∀ x ∈ l, Calls Tryz.prog f (#[x.1] ++ lb) W fun e W' => e = .returned (.bool (p x)) ∧ Below W.heap.size W W') :
    Calls Tryz.prog 282 #[.slice A l.length c, .func (.func f) #[] lb] w fun e w' => e = .returned (.int .i64 (idxP p l)) ∧ Below w.heap.size w w' := by
  have hhit := hide (fun k => idxP_hit (p := p) (l := l) (k := k))
  have hnone := hide (idxP_none (p := p) (l := l))
  replace h := hide h
  replace hp := hide hp
  go_enter Tryz.func282, Tryz.ntmps282
  go_wp2_with fail
  go_loopw [8] (fun s8 wr => ∃ k : Nat, k ≤ l.length ∧ s8 = .int .i64 k ∧ Hid (∀ j (hj : j < l.length), j < k → p l[j] = false) ∧ Below w.heap.size w wr) (fun s8 _ => l.length - (intOf s8).toNat)
  case atStart => exact ⟨0, Nat.zero_le _, by go_num, fun j hj h => absurd h (by omega), Below.refl _ _⟩
  case round =>
    obtain ⟨k, hk, rfl, hall, hb⟩ := hrel
    have hk1 : (0 : Int) ≤ (k : Int) := Int.natCast_nonneg _
    by_cases hlt : k < l.length
    · have hi2 : (k : Int) < (l.length : Int) := by omega
      obtain ⟨b, off, rfl, _, d0⟩ := (h.out.below hb).at_ hlt
      have hcall := hide (hp.out _ hb _ (List.getElem_mem hlt))
      have hh := hide (fun g => hhit.out k hlt g hall.out)
      have hst : Hid (p l[k] = false → ∀ j (hj : j < l.length), j < k + 1 → p l[j] = false) := fun g j hj hjk => by
        by_cases e : j = k
        · subst e; exact g
        · exact hall.out j hj (by omega)
      clear hall
      generalize l[k] = x at *
      go_wp2_with fail
      refine hcall.out.mono ?_
      rintro e W2 ⟨rfl, hb2⟩
      have hb3 := hb.trans (hb2.mono hb.size)
      cases hpx : p x with
      | true =>
        have hr := hide (hh.out hpx)
        clear hpx hh hst hcall
        go_wp2
        go_ret
        exact ⟨ret_int hr.out.symm, hb3⟩
      | false =>
        have hr := hide (hst.out hpx)
        clear hpx hh hst hcall
        go_wp2
        go_roundw
        case rel => exact ⟨k + 1, by omega, by go_num, hr, hb3⟩
        case measure => simp [intOf]; omega
    · have hr := hide (hnone.out fun j hj => hall.out j hj (by omega))
      go_wp2
      go_ret
      exact ⟨ret_int hr.out.symm, hb⟩
theorem containsKd_any (f : Nat) (hf : ∀ args w, (callFunc f args).run Tryz.prog w = .ok (.enter f args) w) (lb : Array Value) (p : Value × Bool → Bool) (A : Option Addr) (c : Nat) (l : List (Value × Bool)) (w : World) (h : KndS w (Old w) (.slice A l.length c) l) (hl : l.length ≤ 1000000000)
    (hp : ∀ W, Below w.heap.size w W → ∀ x ∈ l, Calls Tryz.prog f (#[x.1] ++ lb) W fun e W' => e = .returned (.bool (p x)) ∧ Below W.heap.size W W') :
    Calls Tryz.prog 280 #[.slice A l.length c, .func (.func f) #[] lb] w fun e w' => e = .returned (.bool (l.any p)) ∧ Below w.heap.size w w' := by
  have hd := hide (idxP_any p l)
  have hcall := hide (indexKd_any f hf lb p A c l w h hl hp)
  clear hp hf h
  go_enter Tryz.func280, Tryz.ntmps280
  go_wp2_with fail
  refine hcall.out.mono ?_
  rintro e w1 ⟨rfl, hb⟩
  clear hcall
  go_wp2
  go_ret
  exact ⟨by rw [← hd.out]; rfl, hb⟩
end Go.Proofs.YtfhnamomiaekdaaGreat

namespace Go.Proofs.YtfhnamomiaekdaaGreat
open Go.RowKit Go.Inq
set_option maxHeartbeats 2000000
attribute [local go_sem ↓] Go.wp_at_zero Go.wp_at_succ

set_option maxRecDepth 100000 in
theorem indexIn_any (f : Nat) (hf : ∀ args w, (callFunc f args).run Tryz.prog w = .ok (.enter f args) w) (lb : Array Value) (p : Int → Bool) (A : Option Addr) (c : Nat) (l : List (Int)) (w : World) (h : IntS w (Old w) (.slice A l.length c) l) (hl : l.length ≤ 1000000000)
    (hp : ∀ W, Below w.heap.size w W → ∀ x ∈ l, Calls Tryz.prog f (#[.int .i64 x] ++ lb) W fun e W' => e = .returned (.bool (p x)) ∧ Below W.heap.size W W') :
    Calls Tryz.prog 217 #[.slice A l.length c, .func (.func f) #[] lb] w fun e w' => e = .returned (.int .i64 (idxP p l)) ∧ Below w.heap.size w w' := by
  have hhit := hide (fun k => idxP_hit (p := p) (l := l) (k := k))
  have hnone := hide (idxP_none (p := p) (l := l))
  replace h := hide h
  replace hp := hide hp
  go_enter Tryz.func217, Tryz.ntmps217
  go_wp2_with fail
  go_loopw [8] (fun s8 wr => ∃ k : Nat, k ≤ l.length ∧ s8 = .int .i64 k ∧ Hid (∀ j (hj : j < l.length), j < k → p l[j] = false) ∧ Below w.heap.size w wr) (fun s8 _ => l.length - (intOf s8).toNat)
  case atStart => exact ⟨0, Nat.zero_le _, by go_num, fun j hj h => absurd h (by omega), Below.refl _ _⟩
  case round =>
    obtain ⟨k, hk, rfl, hall, hb⟩ := hrel
    have hk1 : (0 : Int) ≤ (k : Int) := Int.natCast_nonneg _
    by_cases hlt : k < l.length
    · have hi2 : (k : Int) < (l.length : Int) := by omega
      obtain ⟨b, off, rfl, _, d0⟩ := (h.out.below hb).at_ hlt
      have hcall := hide (hp.out _ hb _ (List.getElem_mem hlt))
      have hh := hide (fun g => hhit.out k hlt g hall.out)
      have hst : Hid (p l[k] = false → ∀ j (hj : j < l.length), j < k + 1 → p l[j] = false) := fun g j hj hjk => by
        by_cases e : j = k
        · subst e; exact g
        · exact hall.out j hj (by omega)
      clear hall
      generalize l[k] = x at *
      go_wp2_with fail
      refine hcall.out.mono ?_
      rintro e W2 ⟨rfl, hb2⟩
      have hb3 := hb.trans (hb2.mono hb.size)
      cases hpx : p x with
      | true =>
        have hr := hide (hh.out hpx)
        clear hpx hh hst hcall
        go_wp2
        go_ret
        exact ⟨ret_int hr.out.symm, hb3⟩
      | false =>
        have hr := hide (hst.out hpx)
        clear hpx hh hst hcall
        go_wp2
        go_roundw
        case rel => exact ⟨k + 1, by omega, by go_num, hr, hb3⟩
        case measure => simp [intOf]; omega
    · have hr := hide (hnone.out fun j hj => hall.out j hj (by omega))
      go_wp2
      go_ret
      exact ⟨ret_int hr.out.symm, hb⟩
theorem containsIn_any (f : Nat) (hf : ∀ args w, (callFunc f args).run Tryz.prog w = .ok (.enter f args) w) (lb : Array Value) (p : Int → Bool) (A : Option Addr) (c : Nat) (l : List (Int)) (w : World) (h : IntS w (Old w) (.slice A l.length c) l) (hl : l.length ≤ 1000000000)
    (hp : ∀ W, Below w.heap.size w W → ∀ x ∈ l, Calls Tryz.prog f (#[.int .i64 x] ++ lb) W fun e W' => e = .returned (.bool (p x)) ∧ Below W.heap.size W W') :
    Calls Tryz.prog 158 #[.slice A l.length c, .func (.func f) #[] lb] w fun e w' => e = .returned (.bool (l.any p)) ∧ Below w.heap.size w w' := by
  have hd := hide (idxP_any p l)
  have hcall := hide (indexIn_any f hf lb p A c l w h hl hp)
  clear hp hf h
  go_enter Tryz.func158, Tryz.ntmps158
  go_wp2_with fail
  refine hcall.out.mono ?_
  rintro e w1 ⟨rfl, hb⟩
  clear hcall
  go_wp2
  go_ret
  exact ⟨by rw [← hd.out]; rfl, hb⟩
end Go.Proofs.YtfhnamomiaekdaaGreat

namespace Go.Proofs.YtfhnamomiaekdaaGreat
open Go.RowKit Go.Inq
set_option maxHeartbeats 4000000
attribute [local go_sem ↓] Go.wp_at_zero Go.wp_at_succ

/-- A history, with the places of its writes, in memory. -/
structure MadeS (W : World) (Bm : Nat) (A : Option Addr) (c n : Nat) (R : List SRow) : Prop where
  hd : W.cell? ⟨Bm, 0, none⟩ = some (.slice A n c)
  pl : ∀ k t : Nat, k < 16 → t < 32 → W.cell? ⟨Bm, 1 + k * 32 + t, none⟩ = some (.int .i64 (placeS R (k : Int) (t : Int)))
theorem MadeS.lt {W : World} {Bm : Nat} {A : Option Addr} {c n : Nat} {R : List SRow} (h : MadeS W Bm A c n R) : Bm < W.heap.size := block_lt_of_cell h.hd
theorem MadeS.below {W W' : World} {Bm B : Nat} {A : Option Addr} {c n : Nat} {R : List SRow} (h : MadeS W Bm A c n R) (hb : Below B W W') (hB : Bm < B) : MadeS W' Bm A c n R :=
  ⟨(hb.cell (p := ⟨Bm, 0, none⟩) hB).trans h.hd, fun k t h1 h2 => (hb.cell (p := ⟨Bm, 1 + k * 32 + t, none⟩) hB).trans (h.pl k t h1 h2)⟩
theorem ahead21_any (Bm : Nat) (A : Option Addr) (c n : Nat) (R : List SRow) (k b : Nat) (a : Int) (w : World) (hm : MadeS w Bm A c n R) (hk : k < 16) (hb : b < 32) (ha : a < 32) :
    Calls Tryz.prog 160 #[.pointer (some ⟨Bm, 0, none⟩), .int .i64 k, .int .i64 a, .int .i64 b] w fun e w' => e = .returned (.bool (aheadB R k a b)) ∧ w' = w := by
  have hdef : aheadB R (k : Int) a (b : Int) = (decide (0 < placeS R k b) && (decide (a < 0) || (decide (0 < placeS R k a) && decide (placeS R k a < placeS R k b)))) := rfl
  rw [hdef]
  clear hdef
  have cb := hm.pl k b hk hb
  have hk0 : (0 : Int) ≤ (k : Int) := Int.natCast_nonneg _
  have hk1 : (k : Int) < 16 := by omega
  have hb0 : (0 : Int) ≤ (b : Int) := Int.natCast_nonneg _
  have hb1 : (b : Int) < 32 := by omega
  generalize placeS R (k : Int) (b : Int) = pb at *
  by_cases q1 : 0 < pb
  · have q1b : decide (pb > 0) = true := decide_eq_true q1
    rw [show decide (0 < pb) = true from q1b]
    by_cases q2 : a < 0
    · have q2b : decide (a < 0) = true := decide_eq_true q2
      rw [q2b]
      clear q1 q2
      go_enter Tryz.func160, Tryz.ntmps160
      go_wp2
      go_ret
      exact ⟨rfl, rfl⟩
    · have q2b : decide (a < 0) = false := decide_eq_false q2
      rw [q2b]
      obtain ⟨x, rfl⟩ : ∃ x : Nat, a = x := ⟨a.toNat, by omega⟩
      have ca := hm.pl k x hk (by omega)
      have hx0 : (0 : Int) ≤ (x : Int) := Int.natCast_nonneg _
      have hx1 : x < 32 := by omega
      generalize placeS R (k : Int) (x : Int) = pa at *
      by_cases q3 : 0 < pa
      · have q3b : decide (pa > 0) = true := decide_eq_true q3
        rw [show decide (0 < pa) = true from q3b]
        obtain ⟨q, hq⟩ : ∃ q, decide (pa < pb) = q := ⟨_, rfl⟩
        rw [hq]
        clear q1 q3
        go_enter Tryz.func160, Tryz.ntmps160
        go_wp2
        go_ret
        exact ⟨by simp [hq], rfl⟩
      · have q3b : decide (pa > 0) = false := decide_eq_false q3
        rw [show decide (0 < pa) = false from q3b]
        clear q1 q3
        go_enter Tryz.func160, Tryz.ntmps160
        go_wp2
        go_ret
        exact ⟨rfl, rfl⟩
  · have q1b : decide (pb > 0) = false := decide_eq_false q1
    rw [show decide (0 < pb) = false from q1b]
    clear q1
    go_enter Tryz.func160, Tryz.ntmps160
    go_wp2
    go_ret
    exact ⟨rfl, rfl⟩
end Go.Proofs.YtfhnamomiaekdaaGreat

namespace Go.Inq
open Go
section
variable {P : Program} {ops : Array Oper} {Q : Exit → Act → World → Prop}

/-- The slots that an operation looks at. -/
def readsT (ops : Array Oper) (o : Oper) : List Nat :=
  (o.op.operands.toList.filterMap fun | .tmp t => some t | _ => none) ++ (match o.guard with | some (j, _) => ((ops[j]?).bind (·.dst)).toList | none => [])

def floatB (ops : Array Oper) : Bool :=
  Region.noSelect ops && (List.range ops.size).all fun i => match ops[i]? with
    | none => true
    | some o => (o.after.all fun e => !Region.binds .any e || decide (e.on < i)) &&
      (List.range ops.size).all fun j => match ops[j]? with
        | none => true
        | some oj => match oj.dst with
          | none => true
          | some t => (i == j || o.dst != some t) && (!(readsT ops o).contains t || (decide (j < i) && waitsT .any ops ops.size i j) || (decide (i < j) && waitsT .any ops ops.size j i) || i == j)

theorem floatB_after (h : floatB ops = true) {i : Nat} {o : Oper} (ho : ops[i]? = some o) : ∀ e ∈ o.after, Region.binds .any e = true → e.on < i := by
  intro e he hb
  unfold floatB at h
  rw [Bool.and_eq_true, List.all_eq_true] at h
  have h1 := h.2 i (List.mem_range.2 (Array.getElem?_eq_some_iff.1 ho).1)
  rw [ho] at h1
  dsimp only at h1
  rw [Bool.and_eq_true] at h1
  have h2 := Array.all_eq_true_iff_forall_mem.1 h1.1 e he
  rw [hb] at h2
  simpa using h2
theorem floatB_pair (h : floatB ops = true) {i j : Nat} {o oj : Oper} (ho : ops[i]? = some o) (hj : ops[j]? = some oj) {t : Nat} (ht : oj.dst = some t) :
    (i = j ∨ o.dst ≠ some t) ∧ (t ∈ readsT ops o → (j < i ∧ waitsT .any ops ops.size i j = true) ∨ (i < j ∧ waitsT .any ops ops.size j i = true) ∨ i = j) := by
  unfold floatB at h
  rw [Bool.and_eq_true, List.all_eq_true] at h
  have h1 := h.2 i (List.mem_range.2 (Array.getElem?_eq_some_iff.1 ho).1)
  rw [ho] at h1
  dsimp only at h1
  rw [Bool.and_eq_true, List.all_eq_true] at h1
  have h2 := h1.2 j (List.mem_range.2 (Array.getElem?_eq_some_iff.1 hj).1)
  rw [hj] at h2
  dsimp only at h2
  rw [ht] at h2
  dsimp only at h2
  rw [Bool.and_eq_true] at h2
  refine ⟨?_, fun hm => ?_⟩
  · have := h2.1
    rw [Bool.or_eq_true, beq_iff_eq, bne_iff_ne] at this
    exact this
  · have h3 := h2.2
    have hc : (readsT ops o).contains t = true := by simpa using hm
    rw [hc] at h3
    simp only [Bool.not_true, Bool.false_or, Bool.or_eq_true, Bool.and_eq_true, decide_eq_true_eq, beq_iff_eq] at h3
    rcases h3 with (h3 | h3) | h3
    · exact .inl h3
    · exact .inr (.inl h3)
    · exact .inr (.inr h3)

/-- The slots behind the operations of L. -/
structure Flo (ops : Array Oper) (a0 : Act) (vs : Nat → Value) (L : Nat → Bool) (a : Act) : Prop where
  defers : a.defers = a0.defers
  size : a.tmps.size = a0.tmps.size
  hit : ∀ j o t, ops[j]? = some o → o.dst = some t → L j = true → t < a0.tmps.size → a.tmps[t]? = some (vs j)
  miss : ∀ t, (∀ j o, ops[j]? = some o → o.dst = some t → L j = false) → a.tmps[t]? = a0.tmps[t]?

variable {a0 a b : Act} {vs : Nat → Value} {L L' : Nat → Bool}
theorem Flo.start (h : ∀ j, L j = false) : Flo ops a0 vs L a0 := ⟨rfl, rfl, (fun j _ _ _ _ hl => absurd hl (by rw [h j]; simp)), fun _ _ => rfl⟩
theorem put_size (a : Act) (d : Option Tmp) (v : Value) : (a.put d v).tmps.size = a.tmps.size := by
  cases d <;> simp [Act.put]
theorem put_defers (a : Act) (d : Option Tmp) (v : Value) : (a.put d v).defers = a.defers := by
  cases d <;> simp [Act.put]
theorem put_ne {d : Option Tmp} {t : Nat} (h : d ≠ some t) (a : Act) (v : Value) : (a.put d v).tmps[t]? = a.tmps[t]? := by
  cases d with
  | none => rfl
  | some d =>
    have : d ≠ t := fun e => h (by rw [e])
    simp [Act.put, Array.getElem?_setIfInBounds_ne this]
theorem put_eq {t : Nat} (a : Act) (v : Value) (h : t < a.tmps.size) : (a.put (some t) v).tmps[t]? = some v := by
  simp [Act.put, h]
theorem Flo.put (hB : floatB ops = true) {i : Nat} {o : Oper} (ho : ops[i]? = some o) (h : Flo ops a0 vs L a) (hL : ∀ j, L' j = (L j || decide (j = i))) : Flo ops a0 vs L' (a.put o.dst (vs i)) := by
  refine ⟨by rw [put_defers, h.defers], by rw [put_size, h.size], fun j oj t hj ht hl hs => ?_, fun t ht => ?_⟩
  · by_cases hji : j = i
    · subst hji
      have : oj = o := Option.some.inj (hj.symm.trans ho)
      subst this
      rw [ht, put_eq _ _ (by rw [h.size]; exact hs)]
    · have h1 : L j = true := by rw [hL] at hl; simpa [hji] using hl
      have hne : o.dst ≠ some t := by
        rcases (floatB_pair hB ho hj ht).1 with e | e
        · exact absurd e.symm hji
        · exact e
      rw [put_ne hne]
      exact h.hit j oj t hj ht h1 hs
  · have hne : o.dst ≠ some t := fun e => by
      have := ht i o ho e
      rw [hL] at this
      simp at this
    rw [put_ne hne]
    refine h.miss t fun j oj hj hd => ?_
    have := ht j oj hj hd
    rw [hL] at this
    rw [Bool.or_eq_false_iff] at this
    exact this.1
theorem Flo.agree (h : Flo ops a0 vs L a) (h' : Flo ops a0 vs L' b) {t : Nat} (ht : ∀ j o, ops[j]? = some o → o.dst = some t → L j = L' j) : a.tmps[t]? = b.tmps[t]? := by
  by_cases hs : t < a0.tmps.size
  · by_cases hx : ∃ j o, ops[j]? = some o ∧ o.dst = some t ∧ L j = true
    · obtain ⟨j, o, hj, hd, hl⟩ := hx
      rw [h.hit j o t hj hd hl hs, h'.hit j o t hj hd (by rw [← ht j o hj hd]; exact hl) hs]
    · have hf : ∀ j o, ops[j]? = some o → o.dst = some t → L j = false := fun j o hj hd => by
        cases hl : L j with
        | false => rfl
        | true => exact absurd ⟨j, o, hj, hd, hl⟩ hx
      rw [h.miss t hf, h'.miss t fun j o hj hd => by rw [← ht j o hj hd]; exact hf j o hj hd]
  · rw [Array.getElem?_eq_none (by rw [h.size]; omega), Array.getElem?_eq_none (by rw [h'.size]; omega)]

theorem put_inj {d : Option Tmp} {u v : Value} (hs : a.tmps.size = b.tmps.size) (h : b.put d u = b.put d v) : a.put d u = a.put d v := by
  cases d with
  | none => rfl
  | some t =>
    rcases Nat.lt_or_ge t b.tmps.size with ht | ht
    · have h1 := put_eq b u ht
      rw [h, put_eq b v ht] at h1
      injection h1 with h1
      rw [h1]
    · have : ∀ x : Value, a.put (some t) x = a := fun x => by
        unfold Act.put
        dsimp only
        rw [Array.setIfInBounds_eq_of_size_le (show a.tmps.size ≤ t by rw [hs]; exact ht)]
      rw [this, this]

theorem wpOp_float {S : World → Prop} {i : Nat} {o : Oper} {w : World} {v : Value} {K : Act → World → Prop} (ho : ops[i]? = some o) (hsel : ∀ cs b, o.op ≠ .select cs b)
    (hr : ∀ t ∈ readsT ops o, a.tmps[t]? = b.tmps[t]?) (hs : a.tmps.size = b.tmps.size) (hK : ∀ w', S w' → K (a.put o.dst v) w')
    (h : wpList P ops (fun e a' w' => e = .normal ∧ a' = b.put o.dst v ∧ S w') [o] b w) : wpOp P ops Q i K a w := by
  have hw : Region.wanted o (yielded ops a.tmps) = Region.wanted o (yielded ops b.tmps) := by
    unfold Region.wanted
    cases hg : o.guard with
    | none => rfl
    | some g =>
      obtain ⟨j, x⟩ := g
      dsimp only
      have : yielded ops a.tmps j = yielded ops b.tmps j := by
        unfold yielded
        cases hd : (ops[j]?).bind (·.dst) with
        | none => rfl
        | some t =>
          have hm : t ∈ readsT ops o := by
            unfold readsT
            rw [hg]
            refine List.mem_append.2 (.inr ?_)
            show t ∈ ((ops[j]?).bind (·.dst)).toList
            rw [hd]
            simp
          simp only [Option.bind_some]
          rw [hr t hm]
      rw [this]
  have he : execOp a.eval o = execOp b.eval o := by
    refine execOp_congr o hsel fun x hx => ?_
    cases x with
    | tmp t =>
      have hm : t ∈ readsT ops o := by
        unfold readsT
        refine List.mem_append.2 (.inl ?_)
        rw [List.mem_filterMap]
        exact ⟨.tmp t, by simpa using hx, rfl⟩
      have := hr t hm
      simp only [Act.eval, Array.getD_eq_getD_getElem?, this]
    | _ => rfl
  unfold wpOp
  rw [ho]
  dsimp only
  unfold wpList at h
  rw [hw]
  by_cases hwd : Region.wanted o (yielded ops b.tmps) = true
  · rw [if_pos hwd] at h ⊢
    left
    rcases h with h | ⟨_, _, _, h, _⟩
    · unfold Oper.wp at *
      rw [he]
      generalize (execOp b.eval o).run P w = r at h
      have key : ∀ u w', wpList P ops (fun e a' w' => e = .normal ∧ a' = b.put o.dst v ∧ S w') [] (b.put o.dst u) w' → K (a.put o.dst u) w' := fun u w' h => by
        unfold wpList at h
        rw [put_inj hs h.2.1]
        exact hK w' h.2.2
      cases r with
      | halt x w' =>
        cases x <;> simp only [Oper.upon] at h ⊢
        exact absurd h.1 (by simp)
      | ok n w' =>
        cases n with
        | value u => exact key u w' h
        | skip => exact key undef w' h
        | defer d =>
          simp only [Oper.upon] at h
          unfold wpList at h
          have h1 := congrArg Act.defers h.2.1
          rw [put_defers, put_defers] at h1
          exact absurd (congrArg List.length h1) (by simp)
        | enter f args =>
          simp only [Oper.upon] at h ⊢
          refine Calls.mono h fun e w'' he => ?_
          cases e with
          | returned u => exact key u w'' he
          | panicked c => exact absurd he.1 (by simp)
          | outgrown =>
            obtain ⟨_, _, h1, _⟩ := he
            cases h1
        | row r args =>
          simp only [Oper.upon] at h ⊢
          exact Rows.mono h fun u w'' he => key u w'' he
        | _ => simp only [Oper.upon] at h
    · cases h
  · rw [if_neg hwd] at h ⊢
    unfold wpList at h
    rw [put_inj hs h.2.1]
    exact hK w h.2.2

/-- How many below n are not of f. -/
def lacks : Nat → (Nat → Bool) → Nat
  | 0, _ => 0
  | n + 1, f => lacks n f + if f n then 0 else 1
theorem lacks_all (f : Nat → Bool) : ∀ n, lacks n f = 0 → ∀ i, i < n → f i = true
  | 0, _, i, hi => absurd hi (by omega)
  | n + 1, h, i, hi => by
    unfold lacks at h
    by_cases hn : f n = true
    · by_cases hin : i = n
      · rw [hin]; exact hn
      · exact lacks_all f n (by omega) i (by omega)
    · rw [if_neg hn] at h; omega
theorem lacks_same {f g : Nat → Bool} : ∀ n, (∀ j, j < n → f j = g j) → lacks n f = lacks n g
  | 0, _ => rfl
  | n + 1, h => by unfold lacks; rw [lacks_same n (fun j hj => h j (by omega)), h n (by omega)]
theorem lacks_one {f g : Nat → Bool} {i : Nat} (hf : f i = false) (hg : ∀ j, g j = (f j || decide (j = i))) : ∀ n, i < n → lacks n f = lacks n g + 1
  | 0, h => absurd h (by omega)
  | n + 1, h => by
    unfold lacks
    by_cases hin : i = n
    · subst hin
      have h1 : lacks i f = lacks i g := lacks_same i fun j hj => by rw [hg j]; simp; intro; omega
      rw [h1, hf, hg i]
      simp
    · have h1 := lacks_one hf hg n (by omega)
      have h2 : g n = f n := by rw [hg n]; simp; intro; omega
      rw [h1, h2]
      omega
theorem lacks_none : ∀ n, lacks n (fun _ => false) = n
  | 0 => rfl
  | n + 1 => by unfold lacks; rw [lacks_none n]; rfl

theorem wpAny_float {S : World → Prop} (hB : floatB ops = true) {ac : Nat → Act} (hac : ∀ i, Flo ops a0 vs (fun j => decide (j < i)) (ac i))
    (hstep : ∀ i o, ops[i]? = some o → ∀ w, S w → wpList P ops (fun e a' w' => e = .normal ∧ a' = (ac i).put o.dst (vs i) ∧ S w') [o] (ac i) w)
    (hend : ∀ w, S w → Q .normal (ac ops.size) w) :
    ∀ (fuel : Nat) (listed : Array Bool) (a : Act) (w : World), Closed .any ops listed → listed.size = ops.size → lacks ops.size (fun j => listed.getD j false) = fuel → Flo ops a0 vs (fun j => listed.getD j false) a → S w → wpAny P .any ops Q fuel listed a w := by
  have hnone : ∀ (listed : Array Bool), listed.size = ops.size → Region.ready .any ops listed = [] → ∀ i, i < ops.size → listed.getD i false = true := by
    intro listed hsz hr i
    induction i using Nat.strongRecOn with
    | _ i ih =>
      intro hi
      cases hl : listed.getD i false with
      | true => rfl
      | false =>
        exfalso
        have ho : ops[i]? = some ops[i] := Array.getElem?_eq_getElem hi
        have hm : i ∈ Region.ready .any ops listed := by
          rw [mem_ready]
          refine ⟨?_, ops[i], ho, fun e he hb => ?_⟩
          · have hi2 : i < listed.size := by omega
            simp only [Array.getD_eq_getD_getElem?, Array.getElem?_eq_getElem hi2, Option.getD_some] at hl ⊢
            exact hl
          · have h1 := floatB_after hB ho e he hb
            exact ih e.on h1 (by omega)
        rw [hr] at hm
        cases hm
  have hfin : ∀ (listed : Array Bool) (a : Act) (w : World), (∀ i, i < ops.size → listed.getD i false = true) → Flo ops a0 vs (fun j => listed.getD j false) a → S w → Q .normal a w := by
    intro listed a w hall hf hS
    have : a = ac ops.size := by
      have h1 : a.tmps = (ac ops.size).tmps := by
        refine Array.ext_getElem? fun t => ?_
        refine hf.agree (hac ops.size) fun j o hj _ => ?_
        have hjs := (Array.getElem?_eq_some_iff.1 hj).1
        rw [hall j hjs]
        simp [hjs]
      have h2 : a.defers = (ac ops.size).defers := by rw [hf.defers, (hac ops.size).defers]
      cases a
      cases hx : ac ops.size
      rw [hx] at h1 h2
      simp only at h1 h2
      rw [h1, h2]
    rw [this]
    exact hend w hS
  intro fuel
  induction fuel with
  | zero =>
    intro listed a w hcl hsz hlk hf hS
    have hall := lacks_all _ _ hlk
    refine ⟨?_, hfin listed a w hall hf hS⟩
    rw [List.eq_nil_iff_forall_not_mem]
    intro i hi
    obtain ⟨h1, o, ho, _⟩ := mem_ready.1 hi
    have his := (Array.getElem?_eq_some_iff.1 ho).1
    have h2 := hall i his
    have hi2 : i < listed.size := by omega
    simp only [Array.getD_eq_getD_getElem?, Array.getElem?_eq_getElem hi2, Option.getD_some] at h1 h2
    rw [h1] at h2
    cases h2
  | succ fuel ih =>
    intro listed a w hcl hsz hlk hf hS
    refine ⟨fun hr => hfin listed a w (hnone listed hsz hr) hf hS, fun i hi => ?_⟩
    obtain ⟨h1, o, ho, hall⟩ := mem_ready.1 hi
    have his := (Array.getElem?_eq_some_iff.1 ho).1
    have hi2 : i < listed.size := by omega
    have hun : listed.getD i false = false := by
      simp only [Array.getD_eq_getD_getElem?, Array.getElem?_eq_getElem hi2, Option.getD_some] at h1 ⊢
      exact h1
    have hset : ∀ j, (listed.setIfInBounds i true).getD j false = (listed.getD j false || decide (j = i)) := fun j => by
      by_cases hji : j = i
      · subst hji
        simp [Array.getD_eq_getD_getElem?, hi2]
      · rw [getD_set_ne false (Ne.symm hji)]
        simp [hji]
    have hsel := fun cs b => Region.noSelect_spec (ops := ops) (by unfold floatB at hB; rw [Bool.and_eq_true] at hB; exact hB.1) i o cs b ho
    refine wpOp_float (S := S) (b := ac i) (v := vs i) ho hsel (fun t ht => ?_) (by rw [hf.size, (hac i).size]) (fun w' hS' => ?_) (hstep i o ho w hS)
    · refine hf.agree (hac i) fun j oj hj hd => ?_
      rcases (floatB_pair hB ho hj hd).2 ht with ⟨h2, h3⟩ | ⟨h2, h3⟩ | h2
      · rw [hcl.ready h3 hi]
        simp [h2]
      · have h4 : decide (j < i) = false := by simp; omega
        rw [h4]
        cases hlj : listed.getD j false with
        | false => rfl
        | true =>
          have := hcl.waits _ _ _ h3 hlj
          rw [hun] at this
          cases this
      · subst h2
        rw [hun]
        simp
    · refine ih (listed.setIfInBounds i true) _ w' (hcl.set_ hi) (by rw [Array.size_setIfInBounds]; exact hsz) ?_ (hf.put hB ho hset) hS'
      have := lacks_one (f := fun j => listed.getD j false) (g := fun j => (listed.setIfInBounds i true).getD j false) hun hset ops.size his
      omega

/-- The row, walked in its own order: each operation in any world of S. -/
def wpFloat (P : Program) (ops : Array Oper) (S : World → Prop) (K : Act → Prop) : List Oper → Act → Prop
  | [], a => K a
  | o :: os, a => ∃ v, (∀ w, S w → wpList P ops (fun e a' w' => e = .normal ∧ a' = a.put o.dst v ∧ S w') [o] a w) ∧ wpFloat P ops S K os (a.put o.dst v)

theorem float_open {S : World → Prop} {K : Act → Prop} : ∀ (os : List Oper) (a : Act), wpFloat P ops S K os a → ∃ (vs : Nat → Value) (ac : Nat → Act), ac 0 = a ∧
    (∀ i o, os[i]? = some o → (∀ w, S w → wpList P ops (fun e a' w' => e = .normal ∧ a' = (ac i).put o.dst (vs i) ∧ S w') [o] (ac i) w) ∧ ac (i + 1) = (ac i).put o.dst (vs i)) ∧ (∀ i, os.length ≤ i → ac i = ac os.length) ∧ K (ac os.length)
  | [], a, h => ⟨fun _ => undef, fun _ => a, rfl, fun i o h => by simp at h, fun _ _ => rfl, h⟩
  | o :: os, a, h => by
    obtain ⟨v, h1, h2⟩ := h
    obtain ⟨vs, ac, e0, hs, hl, hk⟩ := float_open os _ h2
    refine ⟨fun i => match i with | 0 => v | i + 1 => vs i, fun i => match i with | 0 => a | i + 1 => ac i, rfl, fun i o' ho => ?_, fun i hi => ?_, hk⟩
    · cases i with
      | zero =>
        simp only [List.getElem?_cons_zero, Option.some.injEq] at ho
        subst ho
        exact ⟨h1, e0⟩
      | succ i => exact hs i o' (by simpa using ho)
    · cases i with
      | zero => simp at hi
      | succ i => exact hl i (by simpa using hi)

/-- A REGION THAT DRAWS ITS ORDER, WHERE EVERY OPERATION FLOATS IN S. -/
theorem wp_region_float {id : Nat} {w : World} {l : List Oper} (S : World → Prop) (hm : P.follows .mixedOrders = true) (hB : floatB l.toArray = true) (hS : S w.drew)
    (h : wpFloat P l.toArray S (fun a' => ∀ w', S w' → Q .normal a' w') l a) : (Code.region id l.toArray true).wp P Q a w := by
  obtain ⟨vs, ac, e0, hs, hl, hk⟩ := float_open _ _ h
  have hsz : l.toArray.size = l.length := by simp
  have hget : ∀ i : Nat, l.toArray[i]? = l[i]? := fun i => List.getElem?_toArray ..
  have hac : ∀ i, Flo l.toArray a vs (fun j => decide (j < i)) (ac i) := by
    intro i
    induction i with
    | zero => rw [e0]; exact Flo.start fun j => by simp
    | succ i ih =>
      cases hx : l[i]? with
      | none =>
        have hle : l.length ≤ i := by
          rcases Nat.lt_or_ge i l.length with h1 | h1
          · rw [List.getElem?_eq_getElem h1] at hx; cases hx
          · exact h1
        rw [hl (i + 1) (by omega), ← hl i hle]
        refine ⟨ih.defers, ih.size, fun j o t hj hd hlt hs => ih.hit j o t hj hd ?_ hs, fun t ht => ih.miss t fun j o hj hd => ?_⟩
        · have := (Array.getElem?_eq_some_iff.1 hj).1
          simp at this ⊢
          omega
        · have := ht j o hj hd
          simp at this ⊢
          omega
      | some o =>
        rw [(hs i o hx).2]
        refine ih.put hB (by rw [hget]; exact hx) fun j => ?_
        rw [Bool.eq_iff_iff]
        simp
        omega
  refine wp_region_any hm ?_
  refine wpAny_float (S := S) hB hac (fun i o ho => (hs i o (by rw [← hget]; exact ho)).1) (fun w hw => by rw [hsz]; exact hk w hw) _ _ a _ (Closed.start _ _ _) (by simp) ?_ (Flo.start fun j => getD_replicate_false _ _) hS
  have : (fun j => (Array.replicate l.toArray.size false).getD j false) = fun _ => false := funext fun j => getD_replicate_false _ _
  rw [this, lacks_none]
end
end Go.Inq

namespace Go.Proofs.YtfhnamomiaekdaaGreat
open Go.RowKit Go.Inq
set_option maxHeartbeats 4000000
attribute [local go_sem ↓] Go.wp_at_zero Go.wp_at_succ

theorem direct1_any (ra rb : Int) (x : Nat) (Bx : Nat) (w : World) (hx : w.cell? ⟨Bx, 0, none⟩ = some (.int .i64 x)) :
    Calls Tryz.prog 157 #[.agg #[.int .i64 ra, .int .i64 rb], .pointer (some ⟨Bx, 0, none⟩)] w fun e w' => e = .returned (.bool (decide (rb = (x : Int)))) ∧ Below w.heap.size w w' := by
  have hB := (Below.refl w.heap.size w).alloc (Nat.le_refl _) (.cells #[.int .i64 ra, .int .i64 rb] 83)
  have hxl := block_lt_of_cell hx
  have hx2 := (hB.cell (p := ⟨Bx, 0, none⟩) hxl).trans hx
  have hq : (rb == (x : Int)) = decide (rb = (x : Int)) := by
    by_cases e : rb = (x : Int)
    · rw [e]; simp
    · rw [decide_eq_false e, beq_eq_false_iff_ne]; exact e
  generalize decide (rb = (x : Int)) = q at *
  go_enter Tryz.func157, Tryz.ntmps157
  go_wp2
  go_ret
  exact ⟨by first | rfl | exact ret_bool hq, hB⟩
theorem direct2_any (k x y Bb Bx By Bm : Nat) (A : Option Addr) (c n : Nat) (R : List SRow) (w : World) (hm : MadeS w Bm A c n R) (hk : k < 16) (hx : x < 32) (hy : y < 32) (cb : w.cell? ⟨Bb, 0, none⟩ = some (.pointer (some ⟨Bm, 0, none⟩))) (cx : w.cell? ⟨Bx, 0, none⟩ = some (.int .i64 x)) (cy : w.cell? ⟨By, 0, none⟩ = some (.int .i64 y)) :
    Calls Tryz.prog 159 #[.int .i64 k, .pointer (some ⟨Bb, 0, none⟩), .pointer (some ⟨Bx, 0, none⟩), .pointer (some ⟨By, 0, none⟩)] w fun e w' => e = .returned (.bool (aheadB R k x y)) ∧ Below w.heap.size w w' := by
  have hca := hide (fun W (hb : Below w.heap.size w W) => ahead21_any Bm A c n R k y (x : Int) W (hm.below hb hm.lt) hk hy (by omega))
  clear hm
  go_enter Tryz.func159, Tryz.ntmps159
  go_wp2_with fail
  refine (hca.out _ (Below.refl _ _)).mono ?_
  rintro e w1 ⟨rfl, rfl⟩
  go_wp2
  go_ret
  exact ⟨rfl, Below.refl _ _⟩
theorem over1_any (ra : Nat) (rb : Int) (y Bb By Bm : Nat) (A : Option Addr) (c n : Nat) (R : List SRow) (w : World) (hm : MadeS w Bm A c n R) (hk : ra < 16) (hx : rb < 32) (hy : y < 32) (cb : w.cell? ⟨Bb, 0, none⟩ = some (.pointer (some ⟨Bm, 0, none⟩))) (cy : w.cell? ⟨By, 0, none⟩ = some (.int .i64 y)) :
    Calls Tryz.prog 161 #[.agg #[.int .i64 ra, .int .i64 rb], .pointer (some ⟨Bb, 0, none⟩), .pointer (some ⟨By, 0, none⟩)] w fun e w' => e = .returned (.bool (aheadB R ra rb y)) ∧ Below w.heap.size w w' := by
  have hca := hide (fun W (hb : Below w.heap.size w W) => ahead21_any Bm A c n R ra y rb W (hm.below hb hm.lt) hk hy hx)
  have hB := (Below.refl w.heap.size w).alloc (Nat.le_refl _) (.cells #[.int .i64 ra, .int .i64 rb] 83)
  have cb2 := (hB.cell (p := ⟨Bb, 0, none⟩) (block_lt_of_cell cb)).trans cb
  have cy2 := (hB.cell (p := ⟨By, 0, none⟩) (block_lt_of_cell cy)).trans cy
  clear hm cb cy
  go_enter Tryz.func161, Tryz.ntmps161
  go_wp2_with fail
  refine (hca.out _ hB).mono ?_
  rintro e w1 ⟨rfl, rfl⟩
  go_wp2
  go_ret
  exact ⟨rfl, hB⟩
set_option maxRecDepth 100000 in
theorem direct21_any (x y Bm : Nat) (A : Option Addr) (c : Nat) (H : List Txn) (R : List SRow) (w : World) (h : TxnS w (Old w) (.slice A H.length c) H) (hn : SmallH H) (ho : OkS H R) (hm : MadeS w Bm A c H.length R) (hx : x < H.length) (hy : y < H.length) :
    Calls Tryz.prog 98 #[.pointer (some ⟨Bm, 0, none⟩), .int .i64 x, .int .i64 y] w fun e w' => e = .returned (.bool (dirS H R x y)) ∧ Below w.heap.size w w' := by
  have hr := (rightH_iff H).1 ho.right
  have h32 := hr.1
  obtain ⟨W3, hW3⟩ : ∃ W3, ((w.alloc (.cells #[.pointer (some ⟨Bm, 0, none⟩)] 100)).alloc (.cells #[.int .i64 x] 3)).alloc (.cells #[.int .i64 y] 3) = W3 := ⟨_, rfl⟩
  have hB : Below w.heap.size w W3 := by rw [← hW3]; exact (((Below.refl _ w).alloc (Nat.le_refl _) _).alloc (by simp) _).alloc (by simp; omega) _
  have kb : Blk W3 w.heap.size 100 #[.pointer (some ⟨Bm, 0, none⟩)] := by rw [← hW3]; exact ((Blk.new _ _ _).alloc _).alloc _
  have kx : Blk W3 (w.heap.size + 1) 3 #[.int .i64 x] := by
    rw [← hW3]
    have := Blk.new (w.alloc (.cells #[.pointer (some ⟨Bm, 0, none⟩)] 100)) 3 #[.int .i64 x]
    simp only [World.size_alloc] at this
    exact this.alloc _
  have ky : Blk W3 (w.heap.size + 2) 3 #[.int .i64 y] := by
    rw [← hW3]
    have := Blk.new ((w.alloc (.cells #[.pointer (some ⟨Bm, 0, none⟩)] 100)).alloc (.cells #[.int .i64 x] 3)) 3 #[.int .i64 y]
    simpa using this
  have cb := kb.cell 0
  have cx := kx.cell 0
  have cy := ky.cell 0
  simp only [List.getElem?_toArray, List.getElem?_cons_zero] at cb cx cy
  have hm3 := hm.below hB hm.lt
  have ch := hm3.hd
  have hT3 := h.below hB
  obtain ⟨b, off, Ax, cx1, Arx, crx, hA, _, d0, d1, d2, hws, hrs⟩ := TxnS.at_ hT3 hx
  subst hA
  obtain ⟨b', off', Ay, cy1, Ary, cry, hA, _, e0, e1, e2, hws', hrs'⟩ := TxnS.at_ hT3 hy
  injection hA with hA
  injection hA with hA1 hA2
  subst hA1 hA2
  have hdef : dirS H R x y = (soE H x y || redE H x y || (txnAt H x).writes.any fun k => aheadB R k (x : Int) (y : Int)) := rfl
  have hso : soE H x y = (decide (x < y) && decide ((txnAt H x).sess = (txnAt H y).sess)) := rfl
  have hre : redE H x y = (txnAt H y).reads.any fun r => decide (r.b = (x : Int)) := rfl
  rw [hso, hre] at hdef
  clear hso hre
  have hkey := hide ((hr.2 x hx).wkey)
  have hwl := (hn.2 _ (List.getElem_mem hx)).1
  have hrl := (hn.2 _ (List.getElem_mem hy)).2
  rw [txnAt_of hx, txnAt_of hy] at hdef
  have hx0 : (0 : Int) ≤ (x : Int) := Int.natCast_nonneg _
  have hy0 : (0 : Int) ≤ (y : Int) := Int.natCast_nonneg _
  have hx1 : (x : Int) < (H.length : Int) := by omega
  have hy1 : (y : Int) < (H.length : Int) := by omega
  clear hws' hrs hr
  generalize H[x] = tx at *
  generalize H[y] = ty at *
  obtain ⟨sx, wx, rx⟩ := tx
  obtain ⟨sy, wy, ry⟩ := ty
  dsimp only at *
  generalize dirS H R x y = D at *
  have hnx : Hid (H.length = H.length) := hide rfl
  replace hn := hide hn
  replace ho := hide ho
  replace h := hide h
  replace hT3 := hide hT3
  replace hm := hide hm
  have hF : Hid (∀ W, Below W3.heap.size W3 W → W.cell? ⟨w.heap.size, 0, none⟩ = some (.pointer (some ⟨Bm, 0, none⟩)) ∧ W.cell? ⟨w.heap.size + 1, 0, none⟩ = some (.int .i64 x) ∧ W.cell? ⟨w.heap.size + 2, 0, none⟩ = some (.int .i64 y) ∧ W.cell? ⟨Bm, 0, none⟩ = some (.slice (some ⟨b, off, none⟩) H.length c)) := hide fun W hb =>
    ⟨(hb.cell (p := ⟨w.heap.size, 0, none⟩) kb.lt).trans cb, (hb.cell (p := ⟨w.heap.size + 1, 0, none⟩) kx.lt).trans cx, (hb.cell (p := ⟨w.heap.size + 2, 0, none⟩) ky.lt).trans cy, (hb.cell (p := ⟨Bm, 0, none⟩) (block_lt_of_cell ch)).trans ch⟩
  have hE2 := hide (fun W (hb : Below W3.heap.size W3 W) => (hb.cell (p := ⟨b, off + y * 3 + 2, none⟩) (block_lt_of_cell e2)).trans e2)
  have hD1 := hide (fun W (hb : Below W3.heap.size W3 W) => (hb.cell (p := ⟨b, off + x * 3 + 1, none⟩) (block_lt_of_cell d1)).trans d1)
  obtain ⟨q1, hq1⟩ : ∃ q1, decide (x < y) = q1 := ⟨_, rfl⟩
  obtain ⟨ss, hss⟩ : ∃ ss, (decide (x < y) && decide (sx = sy)) = ss := ⟨_, rfl⟩
  rw [hss] at hdef
  have hss2 : (q1 && (sx == sy)) = ss := by rw [← hq1, ← hss]; rfl
  obtain ⟨q2, hq2⟩ : ∃ q2, (sx == sy) = q2 := ⟨_, rfl⟩
  rw [hq2] at hss2
  replace hss := hide hss
  replace hdef := hide hdef
  go_enter Tryz.func98, Tryz.ntmps98
  go_upto_region 1 with fail
  go_cut [31] (fun s31 wz => s31 = .bool ss ∧ Below W3.heap.size W3 wz)
  case first =>
    cases q1 with
    | true =>
      have hss3 : q2 = ss := hss2
      subst hss3
      clear hss2 hss hdef hF hE2 hD1 hkey hws hrs'
      go_wp2_with fail
      go_quiet (fail)
      go_wp2
      go_meet
      exact ⟨rfl, ⟨rfl, rfl, rfl, Nat.le_refl _, fun _ _ => rfl⟩⟩
    | false =>
      have hss3 : false = ss := hss2
      subst hss3
      clear hss2 hss hdef hF hE2 hD1 hkey hws hrs'
      go_wp2_with fail
      go_quiet (fail)
      go_wp2
      go_meet
      exact ⟨rfl, ⟨rfl, rfl, rfl, Nat.le_refl _, fun _ _ => rfl⟩⟩
  case rest =>
    obtain ⟨rfl, hbz⟩ := hcut
    cases ss with
    | true =>
      have hD : D = true := by rw [hdef.out]; rfl
      subst hD
      clear hss2 hss hdef hF hE2 hD1 hkey hws hrs'
      go_wp2
      go_ret
      exact ⟨rfl, hB.trans (hbz.mono hB.size)⟩
    | false =>
      have hD : Hid (D = ((ry.any fun r => decide (r.b = (x : Int))) || wx.any fun k => aheadB R k (x : Int) (y : Int))) := hide (by rw [hdef.out]; rfl)
      have hT : Hid (∀ W, Below W3.heap.size W3 W → Calls Tryz.prog 156 #[.slice Ary ry.length cry, .func (.func 157) #[] #[.pointer (some ⟨w.heap.size + 1, 0, none⟩)]] W fun e w' => e = .returned (.bool (ry.any fun r => decide (r.b = (x : Int)))) ∧ Below W.heap.size W w') := hide fun W hb =>
        containsTk_any 157 (enters_of Tryz.func157 (by kernel_rfl) rfl) #[.pointer (some ⟨w.heap.size + 1, 0, none⟩)] (fun r => decide (r.b = (x : Int))) Ary cry ry W (hrs'.below hb) (by omega) fun W' hb' r _ => direct1_any r.a r.b x (w.heap.size + 1) W' ((hb'.cell (p := ⟨w.heap.size + 1, 0, none⟩) (block_lt_of_cell (hF.out W hb).2.1)).trans (hF.out W hb).2.1)
      have hI : Hid (∀ W, Below W3.heap.size W3 W → Calls Tryz.prog 158 #[.slice Ax wx.length cx1, .func (.func 159) #[] #[.pointer (some ⟨w.heap.size, 0, none⟩), .pointer (some ⟨w.heap.size + 1, 0, none⟩), .pointer (some ⟨w.heap.size + 2, 0, none⟩)]] W fun e w' => e = .returned (.bool (wx.any fun k => aheadB R k (x : Int) (y : Int))) ∧ Below W.heap.size W w') := hide fun W hb =>
        containsIn_any 159 (enters_of Tryz.func159 (by kernel_rfl) rfl) #[.pointer (some ⟨w.heap.size, 0, none⟩), .pointer (some ⟨w.heap.size + 1, 0, none⟩), .pointer (some ⟨w.heap.size + 2, 0, none⟩)] (fun k => aheadB R k (x : Int) (y : Int)) Ax cx1 wx W (hws.below hb) (by omega) fun W' hb' k hk => by
          obtain ⟨k0, k1⟩ := hkey.out k hk
          obtain ⟨kn, rfl⟩ : ∃ kn : Nat, k = kn := ⟨k.toNat, by omega⟩
          have hf := hF.out W hb
          exact direct2_any kn x y w.heap.size (w.heap.size + 1) (w.heap.size + 2) Bm _ c H.length R W' ((hm3.below hb hm3.lt).below hb' (hm3.below hb hm3.lt).lt) (by omega) (by omega) (by omega) ((hb'.cell (p := ⟨w.heap.size, 0, none⟩) (block_lt_of_cell hf.1)).trans hf.1) ((hb'.cell (p := ⟨w.heap.size + 1, 0, none⟩) (block_lt_of_cell hf.2.1)).trans hf.2.1) ((hb'.cell (p := ⟨w.heap.size + 2, 0, none⟩) (block_lt_of_cell hf.2.2.1)).trans hf.2.2.1)
      obtain ⟨z1, hz1⟩ : ∃ z1, (ry.any fun r => decide (r.b = (x : Int))) = z1 := ⟨_, rfl⟩
      obtain ⟨z2, hz2⟩ : ∃ z2, (wx.any fun k => aheadB R k (x : Int) (y : Int)) = z2 := ⟨_, rfl⟩
      rw [hz1] at hD hT
      rw [hz2] at hD hI
      clear hss2 hss hdef hkey hws hrs' hz1 hz2 hW3 kb kx ky cb cx cy hm3 ch d0 d1 d2 e0 e1 e2
      go_upto_region 3 with fail
      refine wp_region_float (fun W => Below W3.heap.size W3 W) (by kernel_rfl) (by kernel_rfl) (hbz.trans ⟨rfl, rfl, rfl, Nat.le_refl _, fun _ _ => rfl⟩) ?_
      refine ⟨.pointer (some ⟨Bm, 0, none⟩), fun W hW => (by have v0 := (hF.out W hW).1; go_wp2), ?_⟩
      refine ⟨.pointer (some ⟨Bm, 0, none⟩), fun W hW => (by go_wp2), ?_⟩
      refine ⟨.pointer (some ⟨Bm, 0, none⟩), fun W hW => (by go_wp2), ?_⟩
      refine ⟨.pointer (some ⟨Bm, 0, none⟩), fun W hW => (by go_wp2), ?_⟩
      refine ⟨.slice (some ⟨b, off, none⟩) H.length c, fun W hW => (by have v0 := (hF.out W hW).2.2.2; go_wp2), ?_⟩
      refine ⟨.int .i64 y, fun W hW => (by have v0 := (hF.out W hW).2.2.1; go_wp2), ?_⟩
      refine ⟨.pointer (some ⟨b, off + y * 3, none⟩), fun W hW => (by go_wp2), ?_⟩
      refine ⟨.pointer (some ⟨b, off + y * 3 + 2, none⟩), fun W hW => (by go_wp2), ?_⟩
      refine ⟨.slice Ary ry.length cry, fun W hW => (by have v0 := hE2.out W hW; go_wp2), ?_⟩
      refine ⟨.func (.func 157) #[] #[.pointer (some ⟨w.heap.size + 1, 0, none⟩)], fun W hW => (by go_wp2), ?_⟩
      refine ⟨.bool z1, fun W hW => (by
        go_wp2_with fail
        refine (hT.out W hW).mono ?_
        rintro e w' ⟨rfl, hb'⟩
        have hS := hW.trans (hb'.mono hW.size)
        go_wp2), ?_⟩
      refine ⟨.bool z1, fun W hW => (by go_wp2), ?_⟩
      intro W5 hW5
      simp only [Act.put, List.setIfInBounds_toArray, List.set_cons_zero, List.set_cons_succ]
      cases z1 with
      | true =>
        have hD2 : D = true := by rw [hD.out]; rfl
        subst hD2
        clear hF hE2 hD1 hD hT hI hbz
        go_wp2
        go_quiet (fail)
        go_wp2
        go_ret
        exact ⟨rfl, (hB.trans (hW5.mono hB.size)).trans ⟨rfl, rfl, rfl, Nat.le_refl _, fun _ _ => rfl⟩⟩
      | false =>
        have hD2 : D = z2 := by rw [hD.out]; rfl
        subst hD2
        clear hD hT hE2 hbz
        go_upto_region 4 with fail
        refine wp_region_float (fun W => Below W3.heap.size W3 W) (by kernel_rfl) (by kernel_rfl) (hW5.trans ⟨rfl, rfl, rfl, Nat.le_refl _, fun _ _ => rfl⟩) ?_
        refine ⟨.bool false, fun W hW => (by go_wp2), ?_⟩
        refine ⟨.bool false, fun W hW => (by go_wp2), ?_⟩
        refine ⟨.pointer (some ⟨Bm, 0, none⟩), fun W hW => (by have v0 := (hF.out W hW).1; go_wp2), ?_⟩
        refine ⟨.pointer (some ⟨Bm, 0, none⟩), fun W hW => (by go_wp2), ?_⟩
        refine ⟨.pointer (some ⟨Bm, 0, none⟩), fun W hW => (by go_wp2), ?_⟩
        refine ⟨.pointer (some ⟨Bm, 0, none⟩), fun W hW => (by go_wp2), ?_⟩
        refine ⟨.slice (some ⟨b, off, none⟩) H.length c, fun W hW => (by have v0 := (hF.out W hW).2.2.2; go_wp2), ?_⟩
        refine ⟨.int .i64 x, fun W hW => (by have v0 := (hF.out W hW).2.1; go_wp2), ?_⟩
        refine ⟨.pointer (some ⟨b, off + x * 3, none⟩), fun W hW => (by go_wp2), ?_⟩
        refine ⟨.pointer (some ⟨b, off + x * 3 + 1, none⟩), fun W hW => (by go_wp2), ?_⟩
        refine ⟨.slice Ax wx.length cx1, fun W hW => (by have v0 := hD1.out W hW; go_wp2), ?_⟩
        refine ⟨.func (.func 159) #[] #[.pointer (some ⟨w.heap.size, 0, none⟩), .pointer (some ⟨w.heap.size + 1, 0, none⟩), .pointer (some ⟨w.heap.size + 2, 0, none⟩)], fun W hW => (by go_wp2), ?_⟩
        refine ⟨.bool D, fun W hW => (by
          go_wp2_with fail
          refine (hI.out W hW).mono ?_
          rintro e w' ⟨rfl, hb'⟩
          have hS := hW.trans (hb'.mono hW.size)
          go_wp2), ?_⟩
        refine ⟨.bool D, fun W hW => (by go_wp2), ?_⟩
        refine ⟨.bool D, fun W hW => (by go_wp2), ?_⟩
        intro W6 hW6
        simp only [Act.put, List.setIfInBounds_toArray, List.set_cons_zero, List.set_cons_succ]
        go_wp2
        go_ret
        exact ⟨rfl, hB.trans (hW6.mono hB.size)⟩
end Go.Proofs.YtfhnamomiaekdaaGreat

namespace Go.Proofs.YtfhnamomiaekdaaGreat
open Go.RowKit Go.Inq
set_option maxHeartbeats 4000000
attribute [local go_sem ↓] Go.wp_at_zero Go.wp_at_succ

set_option maxRecDepth 100000 in
theorem over21_any (x y Bm : Nat) (A : Option Addr) (c : Nat) (H : List Txn) (R : List SRow) (w : World) (h : TxnS w (Old w) (.slice A H.length c) H) (hn : SmallH H) (ho : OkS H R) (hm : MadeS w Bm A c H.length R) (hx : x < H.length) (hy : y < H.length) :
    Calls Tryz.prog 99 #[.pointer (some ⟨Bm, 0, none⟩), .int .i64 x, .int .i64 y] w fun e w' => e = .returned (.bool (ovrS H R x y)) ∧ Below w.heap.size w w' := by
  have hr := (rightH_iff H).1 ho.right
  have h32 := hr.1
  obtain ⟨W3, hW3⟩ : ∃ W3, (w.alloc (.cells #[.pointer (some ⟨Bm, 0, none⟩)] 100)).alloc (.cells #[.int .i64 y] 3) = W3 := ⟨_, rfl⟩
  have hB : Below w.heap.size w W3 := by rw [← hW3]; exact ((Below.refl _ w).alloc (Nat.le_refl _) _).alloc (by simp) _
  have kb : Blk W3 w.heap.size 100 #[.pointer (some ⟨Bm, 0, none⟩)] := by rw [← hW3]; exact (Blk.new _ _ _).alloc _
  have ky : Blk W3 (w.heap.size + 1) 3 #[.int .i64 y] := by
    rw [← hW3]
    have := Blk.new (w.alloc (.cells #[.pointer (some ⟨Bm, 0, none⟩)] 100)) 3 #[.int .i64 y]
    simpa using this
  have cb := kb.cell 0
  have cy := ky.cell 0
  simp only [List.getElem?_toArray, List.getElem?_cons_zero] at cb cy
  have hm3 := hm.below hB hm.lt
  have ch := hm3.hd
  obtain ⟨b, off, Ax, cx1, Arx, crx, rfl, _, d0, d1, d2, hws, hrs⟩ := TxnS.at_ (h.below hB) hx
  have hdef : ovrS H R x y = (decide (x ≠ y) && (txnAt H x).reads.any fun r => aheadB R r.a r.b (y : Int)) := rfl
  have hkey := hide (fun r (hr' : r ∈ H[x].reads) => (⟨((hr.2 x hx).rkey r hr').1, ((hr.2 x hx).rkey r hr').2, (by
    rcases (thereB_iff H x r).1 ((hr.2 x hx).there r hr') with e | ⟨k, hk, e, -, -⟩ <;> omega : r.b < 32)⟩ : 0 ≤ r.a ∧ r.a < 16 ∧ r.b < 32))
  have hrl := (hn.2 _ (List.getElem_mem hx)).2
  rw [txnAt_of hx] at hdef
  have hx0 : (0 : Int) ≤ (x : Int) := Int.natCast_nonneg _
  have hx1 : (x : Int) < (H.length : Int) := by omega
  clear hws hr
  generalize H[x] = tx at *
  obtain ⟨sx, wx, rx⟩ := tx
  dsimp only at *
  generalize ovrS H R x y = D at *
  replace hn := hide hn
  replace ho := hide ho
  replace h := hide h
  replace hm := hide hm
  have hT : Hid (Calls Tryz.prog 156 #[.slice Arx rx.length crx, .func (.func 161) #[] #[.pointer (some ⟨w.heap.size, 0, none⟩), .pointer (some ⟨w.heap.size + 1, 0, none⟩)]] W3 fun e w' => e = .returned (.bool (rx.any fun r => aheadB R r.a r.b (y : Int))) ∧ Below W3.heap.size W3 w') := hide (
    containsTk_any 161 (enters_of Tryz.func161 (by kernel_rfl) rfl) #[.pointer (some ⟨w.heap.size, 0, none⟩), .pointer (some ⟨w.heap.size + 1, 0, none⟩)] (fun r => aheadB R r.a r.b (y : Int)) Arx crx rx W3 hrs (by omega) fun W' hb' r hr' => by
      obtain ⟨k0, k1, k2⟩ := hkey.out r hr'
      obtain ⟨ra, rb⟩ := r
      dsimp only at *
      obtain ⟨kn, rfl⟩ : ∃ kn : Nat, ra = kn := ⟨ra.toNat, by omega⟩
      exact over1_any kn rb y w.heap.size (w.heap.size + 1) Bm _ c H.length R W' (hm3.below hb' hm3.lt) (by omega) k2 (by omega) ((hb'.cell (p := ⟨w.heap.size, 0, none⟩) (block_lt_of_cell cb)).trans cb) ((hb'.cell (p := ⟨w.heap.size + 1, 0, none⟩) (block_lt_of_cell cy)).trans cy))
  by_cases hxy : x = y
  · have q1 : ((x : Int) != (y : Int)) = false := by rw [hxy]; exact bne_self_eq_false _
    have hD : D = false := by rw [hdef, decide_eq_false (fun h => h hxy)]; rfl
    subst hD
    clear hxy hdef hkey hT hrs
    go_enter Tryz.func99, Tryz.ntmps99
    go_wp2
    go_ret
    exact ⟨rfl, hB⟩
  · have q1 : ((x : Int) != (y : Int)) = true := bne_iff_ne.2 (by omega)
    have hD : D = rx.any fun r => aheadB R r.a r.b (y : Int) := by rw [hdef, decide_eq_true hxy]; rfl
    rw [← hD] at hT
    clear hxy hdef hkey hrs hD
    go_enter Tryz.func99, Tryz.ntmps99
    go_wp2_with fail
    refine hT.out.mono ?_
    rintro e w4 ⟨rfl, hb4⟩
    go_wp2
    go_ret
    exact ⟨rfl, hB.trans (hb4.mono hB.size)⟩
/-- What is gathered, up to a node. -/
def nextTo (H : List Txn) (R : List SRow) (x k : Nat) : List Nat := ((List.range k).map (nextY H R x)).flatten
theorem nextTo_step (H : List Txn) (R : List SRow) (x k : Nat) : nextTo H R x (k + 1) = nextTo H R x k ++ nextY H R x k := by
  unfold nextTo
  rw [List.range_succ, List.map_append, List.flatten_append]; simp
theorem nextTo_len (H : List Txn) (R : List SRow) (x : Nat) : ∀ k, (nextTo H R x k).length ≤ k * (H.length + 1)
  | 0 => by simp [nextTo]
  | k + 1 => by
    rw [nextTo_step, List.length_append]
    have h1 := nextTo_len H R x k
    have h2 : (nextY H R x k).length ≤ H.length + 1 := by
      unfold nextY
      split
      · rw [List.length_cons]
        have := List.length_filter_le (ovrS H R k) (List.range H.length)
        rw [List.length_range] at this
        omega
      · simp
    rw [Nat.add_mul]; omega
theorem ovrTo_step (H : List Txn) (R : List SRow) (y j : Nat) : (List.range (j + 1)).filter (ovrS H R y) = (List.range j).filter (ovrS H R y) ++ (if ovrS H R y j then [j] else []) := by
  rw [List.range_succ, List.filter_append]
  congr 1
  cases h : ovrS H R y j <;> simp [h]
set_option maxRecDepth 100000 in
theorem next21_any (x Bm : Nat) (A : Option Addr) (c : Nat) (H : List Txn) (R : List SRow) (w : World) (h : TxnS w (Old w) (.slice A H.length c) H) (hn : SmallH H) (ho : OkS H R) (hm : MadeS w Bm A c H.length R) (hx : x < H.length) :
    Calls Tryz.prog 42 #[.pointer (some ⟨Bm, 0, none⟩), .int .i64 x] w (OutI w (intsN (nextL H R x))) := by
  obtain ⟨ii, hii, hi1, hi2, hi3⟩ := info_parts infoI10
  have h32 : H.length ≤ 32 := ((rightH_iff H).1 ho.right).1
  have ch := hm.hd
  have hdir := hide (fun W (hb : Below w.heap.size w W) y (hy : y < H.length) => direct21_any x y Bm A c H R W (h.below hb) hn ho (hm.below hb hm.lt) hx hy)
  have hovr := hide (fun W (hb : Below w.heap.size w W) y z (hy : y < H.length) (hz : z < H.length) => over21_any y z Bm A c H R W (h.below hb) hn ho (hm.below hb hm.lt) hy hz)
  have hlen := hide (fun k (hk : k ≤ H.length) => (by
    have h1 := nextTo_len H R x k
    have h2 := Nat.mul_le_mul hk (show H.length + 1 ≤ 33 by omega)
    omega : (nextTo H R x k).length ≤ 32 * 33))
  have hall : Hid (nextL H R x = nextTo H R x H.length) := hide rfl
  have h0 : Hid (nextTo H R x 0 = []) := hide rfl
  have hml := hm.lt
  replace hn := hide hn
  replace ho := hide ho
  replace h := hide h
  replace hm := hide hm
  go_enter Tryz.func42, Tryz.ntmps42
  go_wp2_with fail
  go_loopw [5, 14] (fun s5 s14 wr => ∃ k : Nat, k ≤ H.length ∧ s14 = .int .i64 k ∧ OwnI wr w.heap.size s5 (intsN (nextTo H R x k)) ∧ Below w.heap.size w wr) (fun _ s14 _ => H.length - (intOf s14).toNat)
  case atStart => exact ⟨0, Nat.zero_le _, by go_num, by rw [h0.out]; exact OwnI.nil _ _, Below.refl _ _⟩
  case round =>
    obtain ⟨k, hk, rfl, hown, hb⟩ := hrel
    have hi1' : (0 : Int) ≤ (k : Int) := Int.natCast_nonneg _
    by_cases hlt : k < H.length
    · have hi2' : (k : Int) < (H.length : Int) := by omega
      have hst := hide (nextTo_step H R x k)
      have hny : Hid (nextY H R x k = if dirS H R x k then k :: (List.range H.length).filter (ovrS H R k) else []) := hide rfl
      have hcd := hide (hdir.out wr hb k hlt)
      generalize dirS H R x k = d at *
      have hcnt := hlen.out k hk
      obtain ⟨Av, cv, rfl⟩ := hown.form
      go_wp2_with fail
      refine hcd.out.mono ?_
      rintro e w1 ⟨rfl, hb1⟩
      have hb2 := hb.trans (hb1.mono hb.size)
      have hown2 : OwnI w1 w.heap.size _ (intsN (nextTo H R x k)) := own_below hown hb1 (Nat.le_refl _)
      clear hcd hown hb1
      have hsz1 := hb2.size
      cases d with
      | false =>
        have hs2 : Hid (nextTo H R x (k + 1) = nextTo H R x k) := hide (by rw [hst.out, hny.out]; simp)
        clear hst hny
        go_wp2
        go_roundw
        case rel => exact ⟨k + 1, by omega, by go_num, by rw [hs2.out]; exact hown2, hb2⟩
        case measure => simp [intOf]; omega
      | true =>
        have hs2 : Hid (nextTo H R x (k + 1) = nextTo H R x k ++ k :: (List.range H.length).filter (ovrS H R k)) := hide (by rw [hst.out, hny.out]; simp)
        have hlq := hide (intsN_len (nextTo H R x k))
        have hsn := hide (intsN_snoc (nextTo H R x k) k)
        clear hst hny
        replace hown2 := hide hown2
        have ch1 := (hb2.cell (p := ⟨Bm, 0, none⟩) hml).trans ch
        obtain ⟨N, hN⟩ : ∃ N, nextTo H R x k = N := ⟨_, rfl⟩
        rw [hN] at hs2 hlq hsn hown2 hcnt
        rw [hN]
        replace hN := hide hN
        go_wp2_with (at_builtin; go_loud (refine wpList_push (enc := Go.Inq.encI) rfl (.tmp 22) (.tmp 24) 26 rfl w.heap.size 3 ii _ 1 8 Tryz.underlying26 hii hi1 hi2 hi3 rfl (by decide) (.slice Av (intsN N).length cv) (intsN N) rfl hown2.out (fun _ => rfl) (k : Int) _ rfl rfl Go.Inq.encI_one (by rw [hlq.out]; simp [maxLen]; omega) (by rw [hlq.out]; omega) hsz1 w w.heap.size (Nat.le_refl _) hb2 ?_); intro v1 w6 hown1 hg1 hb3 hat1; have ch6 := (hb3.cell (p := ⟨Bm, 0, none⟩) hml).trans ch)
        have hj0 : Hid (intsN (N ++ [k] ++ (List.range 0).filter (ovrS H R k)) = intsN N ++ [(k : Int)]) := hide (by simp [hsn.out])
        clear ch1 ch6 hown2 hb2 hg1 hat1
        go_loopw [5, 32] (fun s5 s32 wq => ∃ j : Nat, j ≤ H.length ∧ s32 = .int .i64 j ∧ OwnI wq w.heap.size s5 (intsN (N ++ [k] ++ (List.range j).filter (ovrS H R k))) ∧ Below w.heap.size w wq) (fun _ s32 _ => H.length - (intOf s32).toNat)
        case atStart => exact ⟨0, Nat.zero_le _, by go_num, by unfold OwnI; rw [hj0.out]; exact hown1, hb3⟩
        case round =>
          clear hown1 hb3
          obtain ⟨j, hj, rfl, hown, hb⟩ := hrel
          have hj1 : (0 : Int) ≤ (j : Int) := Int.natCast_nonneg _
          by_cases hjl : j < H.length
          · have hj2 : (j : Int) < (H.length : Int) := by omega
            have hst := hide (ovrTo_step H R k j)
            have hco := hide (hovr.out wr hb k j hlt hjl)
            generalize ovrS H R k j = d at *
            have hfl : ((List.range j).filter (ovrS H R k)).length ≤ 32 := Nat.le_trans (List.length_filter_le _ _) (by simp; omega)
            have hcn2 : (intsN (N ++ [k] ++ (List.range j).filter (ovrS H R k))).length ≤ 2000 := by rw [intsN_len, List.length_append, List.length_append]; simp; omega
            have hfull := hide (fun e : j = H.length => e)
            obtain ⟨M, hM⟩ : ∃ M, intsN (N ++ [k] ++ (List.range j).filter (ovrS H R k)) = M := ⟨_, rfl⟩
            rw [hM] at hown hcn2
            replace hM := hide hM
            obtain ⟨Av2, cv2, rfl⟩ := hown.form
            go_wp2_with fail
            refine hco.out.mono ?_
            rintro e w7 ⟨rfl, hb7⟩
            have hb8 := hb.trans (hb7.mono hb.size)
            have hown8 : OwnI w7 w.heap.size _ M := own_below hown hb7 (Nat.le_refl _)
            have hs8 := hb8.size
            clear hco hown hb7 hfl
            cases d with
            | false =>
              have hs3 : Hid ((List.range (j + 1)).filter (ovrS H R k) = (List.range j).filter (ovrS H R k)) := hide (by rw [hst.out]; simp)
              clear hst
              go_wp2
              go_roundw
              case rel => exact ⟨j + 1, by omega, by go_num, by rw [hs3.out, hM.out]; exact hown8, hb8⟩
              case measure => simp [intOf]; omega
            | true =>
              have hs3 : Hid (intsN (N ++ [k] ++ (List.range (j + 1)).filter (ovrS H R k)) = intsN (N ++ [k] ++ (List.range j).filter (ovrS H R k)) ++ [(j : Int)]) := hide (by rw [hst.out, if_pos rfl, ← List.append_assoc, intsN_snoc])
              clear hst
              replace hown8 := hide hown8
              go_wp2_with (at_builtin; go_loud (refine wpList_push (enc := Go.Inq.encI) rfl (.tmp 39) (.tmp 41) 26 rfl w.heap.size 3 ii _ 1 8 Tryz.underlying26 hii hi1 hi2 hi3 rfl (by decide) (.slice Av2 M.length cv2) M rfl hown8.out (fun _ => rfl) (j : Int) _ rfl rfl Go.Inq.encI_one (by simp [maxLen]; omega) (by omega) hs8 w w.heap.size (Nat.le_refl _) hb8 ?_); intro v9 w9 hown9 hg9 hb9 hat9)
              go_roundw
              case rel => exact ⟨j + 1, by omega, by go_num, by unfold OwnI; rw [hs3.out, hM.out]; exact hown9, hb9⟩
              case measure => simp [intOf]; omega
          · obtain rfl : j = H.length := by omega
            have hs3 : Hid (nextTo H R x (k + 1) = N ++ [k] ++ (List.range H.length).filter (ovrS H R k)) := hide (by rw [hs2.out]; simp)
            rw [← hs3.out] at hown
            go_wp2
            go_roundw
            case rel => exact ⟨k + 1, by omega, by go_num, hown, hb⟩
            case measure => simp [intOf]; omega
    · obtain rfl : k = H.length := by omega
      go_wp2
      go_ret
      exact ⟨_, rfl, by rw [hall.out]; exact hown, hb⟩
end Go.Proofs.YtfhnamomiaekdaaGreat

namespace Go.Proofs.YtfhnamomiaekdaaGreat
open Go.RowKit Go.Inq
set_option maxHeartbeats 4000000

/-- The cells of a history with no places yet. -/
def made0 (v : Value) : Array Value := #[v] ++ Array.replicate 512 (.int .i64 0)
theorem made0_size (v : Value) : (made0 v).size = 513 := by simp [made0]
theorem made0_hd (v : Value) : (made0 v)[0]? = some v := by simp [made0]
theorem made0_at (v : Value) {i : Nat} (h : i < 512) : (made0 v)[1 + i]? = some (.int .i64 0) := by
  unfold made0
  rw [Array.getElem?_append_right (by simp)]
  simp [h]
theorem zero_made : Go.Proofs.Tryz.zeroCells104 = made0 (.slice none 0 0) := by kernel_rfl
theorem set_made (v : Value) : Go.Proofs.Tryz.zeroCells104.setIfInBounds 0 v = made0 v := by
  rw [zero_made]
  refine Array.ext_getElem? fun i => ?_
  rw [Array.getElem?_setIfInBounds]
  by_cases e : 0 = i
  · subst e
    rw [if_pos rfl, if_pos (by rw [made0_size]; decide), made0_hd]
  · rw [if_neg e]
    unfold made0
    rw [Array.getElem?_append_right (by simp; omega), Array.getElem?_append_right (by simp; omega)]
    simp
end Go.Proofs.YtfhnamomiaekdaaGreat

namespace Go.Proofs.YtfhnamomiaekdaaGreat
open Go.RowKit Go.Inq

def fillTo (P : Int → Int → Int) (key : Int) (l : List Int) : Nat → Int → Int → Int
  | 0 => P
  | i + 1 => fun κ t => if κ = key ∧ t = l.getD i 0 then (i : Int) + 1 else fillTo P key l i κ t
def placeTo (R : List SRow) : Nat → Int → Int → Int
  | 0 => fun _ _ => 0
  | k + 1 => fillTo (placeTo R k) (R.getD k ⟨0, []⟩).key (R.getD k ⟨0, []⟩).l (R.getD k ⟨0, []⟩).l.length
theorem placeTo_at {R : List SRow} {k : Nat} (h : k < R.length) : placeTo R (k + 1) = fillTo (placeTo R k) R[k].key R[k].l R[k].l.length := by
  have : R.getD k ⟨0, []⟩ = R[k] := by rw [List.getD_eq_getElem?_getD, List.getElem?_eq_getElem h, Option.getD_some]
  show fillTo (placeTo R k) (R.getD k ⟨0, []⟩).key (R.getD k ⟨0, []⟩).l (R.getD k ⟨0, []⟩).l.length = _
  rw [this]
theorem fillTo_at (P : Int → Int → Int) (key : Int) {l : List Int} {i : Nat} (h : i < l.length) : fillTo P key l (i + 1) = fun κ t => if κ = key ∧ t = l[i] then (i : Int) + 1 else fillTo P key l i κ t := by
  have : l.getD i 0 = l[i] := by rw [List.getD_eq_getElem?_getD, List.getElem?_eq_getElem h, Option.getD_some]
  show (fun κ t => if κ = key ∧ t = l.getD i 0 then (i : Int) + 1 else fillTo P key l i κ t) = _
  rw [this]
theorem fillTo_spec (P : Int → Int → Int) (key : Int) {l : List Int} (hd : l.Nodup) : ∀ i, i ≤ l.length → ∀ κ t, fillTo P key l i κ t = if κ = key ∧ t ∈ l.take i then (l.idxOf t : Int) + 1 else P κ t
  | 0, _, κ, t => by simp [fillTo]
  | i + 1, hi, κ, t => by
    rw [fillTo_at P key (show i < l.length by omega)]
    show (if κ = key ∧ t = l[i] then (i : Int) + 1 else fillTo P key l i κ t) = _
    rw [fillTo_spec P key hd i (by omega) κ t, List.take_succ_eq_append_getElem (show i < l.length by omega)]
    by_cases hk : κ = key
    · subst hk
      by_cases ht : t = l[i]
      · subst ht
        rw [if_pos ⟨rfl, rfl⟩, if_pos ⟨rfl, List.mem_append.2 (.inr (List.mem_singleton.2 rfl))⟩, List.Nodup.idxOf_getElem hd]
      · rw [if_neg (fun h => ht h.2)]
        by_cases hm : t ∈ l.take i
        · rw [if_pos ⟨rfl, hm⟩, if_pos ⟨rfl, List.mem_append.2 (.inl hm)⟩]
        · rw [if_neg (fun h => hm h.2), if_neg (fun h => by
            have h2 := h.2
            rw [List.mem_append, List.mem_singleton] at h2
            exact h2.elim hm ht)]
    · rw [if_neg (fun h => hk h.1), if_neg (fun h => hk h.1), if_neg (fun h => hk h.1)]
theorem placeTo_spec {H : List Txn} {R : List SRow} (h : OkS H R) (κ t : Int) : ∀ k, k ≤ R.length →
    (∀ j (hj : j < R.length), j < k → R[j].key = κ → placeTo R k κ t = if R[j].l.contains t then (R[j].l.idxOf t : Int) + 1 else 0) ∧ ((∀ j (hj : j < R.length), j < k → R[j].key ≠ κ) → placeTo R k κ t = 0)
  | 0, _ => ⟨fun j hj hlt => absurd hlt (by omega), fun _ => rfl⟩
  | k + 1, hk => by
    obtain ⟨h1, h2⟩ := placeTo_spec h κ t k (by omega)
    have hkl : k < R.length := by omega
    have hnd := h.nodup (List.getElem_mem hkl)
    rw [placeTo_at hkl, fillTo_spec _ _ hnd _ (Nat.le_refl _), List.take_length]
    refine ⟨fun j hj hlt he => ?_, fun hno => ?_⟩
    · by_cases hjk : j = k
      · subst hjk
        by_cases hm : t ∈ R[j].l
        · rw [if_pos ⟨he.symm, hm⟩, if_pos (List.contains_iff_mem.2 hm)]
        · rw [if_neg (fun g => hm g.2), if_neg (fun g => hm (List.contains_iff_mem.1 g))]
          refine h2 fun i hi hij e => ?_
          have := h.one (List.getElem_mem hi) (List.getElem_mem hj) (by rw [e, he])
          have hp := keysL_rise H
          rw [← h.keys, List.pairwise_map, List.pairwise_iff_getElem] at hp
          have := hp i j hi hj hij
          omega
      · have hne : ¬ (κ = R[k].key ∧ t ∈ R[k].l) := fun g => by
          have hp := keysL_rise H
          rw [← h.keys, List.pairwise_map, List.pairwise_iff_getElem] at hp
          have := hp j k hj hkl (by omega)
          omega
        rw [if_neg hne]
        exact h1 j hj (by omega) he
    · rw [if_neg (fun g => hno k hkl (by omega) g.1.symm)]
      exact h2 fun j hj hlt => hno j hj (by omega)
theorem placeTo_all {H : List Txn} {R : List SRow} (h : OkS H R) (κ t : Int) : placeTo R R.length κ t = placeS R κ t := by
  obtain ⟨h1, h2⟩ := placeTo_spec h κ t R.length (Nat.le_refl _)
  unfold placeS
  cases hf : R.find? fun r => decide (r.key = κ) with
  | none =>
    refine h2 fun j hj _ e => ?_
    have := List.find?_eq_none.1 hf R[j] (List.getElem_mem hj)
    rw [decide_eq_true_eq] at this
    exact this e
  | some r =>
    have g1 := List.find?_some hf
    rw [decide_eq_true_eq] at g1
    obtain ⟨j, hj, rfl⟩ := List.getElem_of_mem (List.mem_of_find?_eq_some hf)
    exact h1 j hj hj g1
end Go.Proofs.YtfhnamomiaekdaaGreat
