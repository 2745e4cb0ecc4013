/-
  Walks: layers 23, 24's references: nothing is the same as nothing.
-/
import Derived.Test.YtjomijnbnbideaaGreatDoorT04
import Derived.Test.YtjomijnbnbideaaGreatDoorT36
import Derived.Test.YtjomijnbnbideaaGreatDoorT05
set_option linter.unusedVariables false
set_option linter.unusedSimpArgs false
namespace Go.Proofs.YtjomijnbnbideaaGreatDoor
open Go.RowKit Go.Inq
set_option maxHeartbeats 4000000
attribute [local go_sem ↓] Go.wp_at_zero Go.wp_at_succ

theorem rsame24_nil (w : World) : Calls Tryz.prog 65 #[.slice none 0 0, .slice none 0 0] w fun e w' => e = .returned (.bool true) ∧ w = w' := by
  go_enter Tryz.func65, Tryz.ntmps65
  go_wp2_with fail
  go_loop [5] (fun s5 => s5 = .int .i64 0) (fun _ => 0)
  case atStart => rfl
  case round =>
    subst hrel
    go_wp2
    go_ret
    exact ⟨rfl, rfl⟩
theorem rsame23_nil (w : World) : Calls Tryz.prog 66 #[.slice none 0 0, .slice none 0 0] w fun e w' => e = .returned (.bool true) ∧ w = w' := by
  go_enter Tryz.func66, Tryz.ntmps66
  go_wp2_with fail
  go_loop [5] (fun s5 => s5 = .int .i64 0) (fun _ => 0)
  case atStart => rfl
  case round =>
    subst hrel
    go_wp2
    go_ret
    exact ⟨rfl, rfl⟩
end Go.Proofs.YtjomijnbnbideaaGreatDoor

namespace Go.Proofs.YtjomijnbnbideaaGreatDoor
open Go.RowKit Go.Inq
set_option maxHeartbeats 4000000
attribute [local go_sem ↓] Go.wp_at_zero Go.wp_at_succ

/-- A row of facts, as it reads. -/
def XS (w : World) (K : Nat → Prop) (v : Value) (l : List (Cho × Option Nat)) : Prop := SlR 7 (Flat encX) w K v l
theorem XS.at_ {w : World} {K : Nat → Prop} {A : Option Addr} {n c : Nat} {l : List (Cho × Option Nat)} (h : XS w K (.slice A n c) l) {i : Nat} (hi : i < l.length) :
    ∃ b off, A = some ⟨b, off, none⟩ ∧ K b ∧ w.cell? ⟨b, off + i * 7, none⟩ = some (.int .i64 l[i].1.key) ∧ w.cell? ⟨b, off + i * 7 + 1, none⟩ = some (.int .i64 l[i].1.a) ∧ w.cell? ⟨b, off + i * 7 + 2, none⟩ = some (.int .i64 l[i].1.b) ∧
      w.cell? ⟨b, off + i * 7 + 3, none⟩ = some (.int .i64 (mkF l[i].1 l[i].2).kind) ∧ w.cell? ⟨b, off + i * 7 + 4, none⟩ = some (.int .i64 (mkF l[i].1 l[i].2).i) ∧ w.cell? ⟨b, off + i * 7 + 5, none⟩ = some (.int .i64 0) ∧ w.cell? ⟨b, off + i * 7 + 6, none⟩ = some (.slice none 0 0) := by
  obtain ⟨b, off, cs, hA, hK, _, hR, hc⟩ := SlR.at_ h hi
  unfold Flat at hR
  subst hR
  exact ⟨b, off, hA, hK, hc 0 _ rfl, hc 1 _ rfl, hc 2 _ rfl, hc 3 _ rfl, hc 4 _ rfl, hc 5 _ rfl, hc 6 _ rfl⟩
set_option maxRecDepth 100000 in
theorem rsame23_eq (A A' : Option Addr) (c c' : Nat) (l : List (Cho × Option Nat)) (w : World) (h : XS w (Old w) (.slice A l.length c) l) (h' : XS w (Old w) (.slice A' l.length c') l) (hn : l.length ≤ 1000000) :
    Calls Tryz.prog 66 #[.slice A l.length c, .slice A' l.length c'] w fun e w' => e = .returned (.bool true) ∧ Below w.heap.size w w' := by
  have hh := hide (fun W (hb : Below w.heap.size w W) => SlR.below (Flat.stab _) h hb)
  have hh' := hide (fun W (hb : Below w.heap.size w W) => SlR.below (Flat.stab _) h' hb)
  have hself := hide (fun (x : Int) => show (x != x) = false by simp)
  clear h h'
  go_enter Tryz.func66, Tryz.ntmps66
  go_wp2_with fail
  go_loopw [5] (fun s5 wr => ∃ i : Nat, i ≤ l.length ∧ s5 = .int .i64 i ∧ Below w.heap.size w wr) (fun s5 _ => l.length - (intOf s5).toNat)
  case atStart => exact ⟨0, Nat.zero_le _, by go_num, Below.refl _ _⟩
  case round =>
    obtain ⟨i, hi, rfl, hb⟩ := hrel
    obtain ⟨Wr, rfl⟩ : ∃ Wr, Wr = wr := ⟨_, rfl⟩
    have hi0 : (0 : Int) ≤ (i : Int) := Int.natCast_nonneg _
    by_cases hlt : i < l.length
    · have hi1 : (i : Int) < (l.length : Int) := by omega
      obtain ⟨b, off, rfl, hK, d0, d1, d2, d3, d4, d5, d6⟩ := XS.at_ (hh.out Wr hb) hlt
      obtain ⟨b', off', rfl, hK', e0, e1, e2, e3, e4, e5, e6⟩ := XS.at_ (hh'.out Wr hb) hlt
      generalize l[i] = x at *
      generalize (mkF x.1 x.2).kind = kd at *
      generalize (mkF x.1 x.2).i = ix at *
      obtain ⟨⟨xk, xa, xb⟩, x2⟩ := x
      dsimp only at d0 d1 d2 e0 e1 e2
      go_upto_region 7 with fail
      obtain ⟨W1, hW1⟩ : ∃ W1, Wr.alloc (.cells #[.int .i64 xk, .int .i64 xa, .int .i64 xb, .int .i64 kd, .int .i64 ix, .int .i64 0, .slice none 0 0] 119) = W1 := ⟨_, rfl⟩
      have hb1 := below_allocEq (Below.refl Wr.heap.size Wr) hW1 (Nat.le_refl _)
      have k1 := Blk.newEq hW1
      have hK'' : b' < Wr.heap.size := hK'
      replace e0 := (hb1.cell (p := ⟨b', off' + i * 7, none⟩) hK'').trans e0
      replace e1 := (hb1.cell (p := ⟨b', off' + i * 7 + 1, none⟩) hK'').trans e1
      replace e2 := (hb1.cell (p := ⟨b', off' + i * 7 + 2, none⟩) hK'').trans e2
      replace e3 := (hb1.cell (p := ⟨b', off' + i * 7 + 3, none⟩) hK'').trans e3
      replace e4 := (hb1.cell (p := ⟨b', off' + i * 7 + 4, none⟩) hK'').trans e4
      replace e5 := (hb1.cell (p := ⟨b', off' + i * 7 + 5, none⟩) hK'').trans e5
      replace e6 := (hb1.cell (p := ⟨b', off' + i * 7 + 6, none⟩) hK'').trans e6
      try rw [hW1]
      clear hW1 d0 d1 d2 d3 d4 d5 d6 hK'' hK hK'
      go_upto_region 8 with fail
      obtain ⟨W2, hW2⟩ : ∃ W2, W1.alloc (.cells #[.int .i64 xk, .int .i64 xa, .int .i64 xb, .int .i64 kd, .int .i64 ix, .int .i64 0, .slice none 0 0] 119) = W2 := ⟨_, rfl⟩
      have hb2 := below_allocEq (Below.refl W1.heap.size W1) hW2 (Nat.le_refl _)
      have k2 := Blk.newEq hW2
      have k1' := k1.below hb2 k1.lt
      have hbw := hb.trans ((hb1.trans (hb2.mono hb1.size)).mono hb.size)
      try rw [hW2]
      clear hW2 e0 e1 e2 e3 e4 e5 e6 k1 hb1 hb2
      generalize W1.heap.size = g7 at *
      generalize Wr.heap.size = g6 at *
      have d0 := k1'.cell 0
      have d1 := k1'.cell 1
      have d2 := k1'.cell 2
      have d3 := k1'.cell 3
      have d4 := k1'.cell 4
      have d5 := k1'.cell 5
      have d6 := k1'.cell 6
      have e0 := k2.cell 0
      have e1 := k2.cell 1
      have e2 := k2.cell 2
      have e3 := k2.cell 3
      have e4 := k2.cell 4
      have e5 := k2.cell 5
      have e6 := k2.cell 6
      simp only [List.getElem?_toArray, List.getElem?_cons_zero, List.getElem?_cons_succ] at d0 d1 d2 d3 d4 d5 d6 e0 e1 e2 e3 e4 e5 e6
      have q0 := hself.out xk
      have q1 := hself.out kd
      have q2 := hself.out ix
      go_wp2
      go_loopw [8] (fun s8 wr => s8 = .int .i64 0 ∧ wr = W2) (fun _ _ => 0)
      case atStart => exact ⟨by go_num, rfl⟩
      case round =>
        obtain ⟨rfl, rfl⟩ := hrel
        go_wp2
        go_roundw
        case rel => exact ⟨i + 1, by omega, by go_num, hbw⟩
        case measure => simp [intOf] <;> omega
    · obtain rfl : i = l.length := by omega
      go_wp2
      go_ret
      exact ⟨rfl, hb⟩
end Go.Proofs.YtjomijnbnbideaaGreatDoor

namespace Go.Proofs.YtjomijnbnbideaaGreatDoor
open Go.RowKit Go.Inq
set_option maxHeartbeats 4000000
attribute [local go_sem ↓] Go.wp_at_zero Go.wp_at_succ

/-- A node's cells, first of their block. -/
structure NodeS (w : World) (g : Nat) (vc : Value) : Prop where
  lt : g < w.heap.size
  c0 : w.cell? ⟨g, 0, none⟩ = some (.int .i64 0)
  c1 : w.cell? ⟨g, 1, none⟩ = some (.int .i64 0)
  c2 : w.cell? ⟨g, 2, none⟩ = some (.int .i64 0)
  c3 : w.cell? ⟨g, 3, none⟩ = some vc
theorem NodeS.below {w w' : World} {g : Nat} {vc : Value} (h : NodeS w g vc) (hb : Below w.heap.size w w') : NodeS w' g vc :=
  ⟨Nat.lt_of_lt_of_le h.lt hb.size, (hb.cell (p := ⟨g, 0, none⟩) h.lt).trans h.c0, (hb.cell (p := ⟨g, 1, none⟩) h.lt).trans h.c1, (hb.cell (p := ⟨g, 2, none⟩) h.lt).trans h.c2, (hb.cell (p := ⟨g, 3, none⟩) h.lt).trans h.c3⟩
theorem NodeS.of_blk {w : World} {g : Nat} {vc : Value} (h : Blk w g 118 #[.int .i64 0, .int .i64 0, .int .i64 0, vc]) : NodeS w g vc := ⟨h.lt, h.cell 0, h.cell 1, h.cell 2, h.cell 3⟩
def TreeS (w : World) (v : Value) : Option (List Nat) → Prop
  | none => v = .slice none 0 0
  | some l => ∃ g c vc, v = .slice (some ⟨g, 0, none⟩) 1 c ∧ NodeS w g vc ∧ IntS w (Old w) vc (intsN l)
theorem TreeS.below {w w' : World} {v : Value} {o : Option (List Nat)} (h : TreeS w v o) (hb : Below w.heap.size w w') : TreeS w' v o := by
  cases o with
  | none => exact h
  | some l => obtain ⟨g, c, vc, h1, h2, h3⟩ := h; exact ⟨g, c, vc, h1, h2.below hb, h3.below hb⟩
theorem TreeXr.s {w : World} {base : Nat} {v : Value} {o : Option (List Nat)} (h : TreeXr w base v o) : TreeS w v o := by
  cases o with
  | none => exact h
  | some l => obtain ⟨g, vc, h1, h2, h3, h4⟩ := h; exact ⟨g, 1, vc, h2, NodeS.of_blk h3, OwnI.sl h4 (fun g _ h => h)⟩
set_option maxRecDepth 100000 in
theorem rsame24_some (g g' kc kc' : Nat) (vc vc' : Value) (l : List Int) (w : World) (hl : l.length ≤ 1000000) (k : NodeS w g vc) (k' : NodeS w g' vc') (h : IntS w (Old w) vc l) (h' : IntS w (Old w) vc' l) :
    Calls Tryz.prog 65 #[.slice (some ⟨g, 0, none⟩) 1 kc, .slice (some ⟨g', 0, none⟩) 1 kc'] w fun e w' => e = .returned (.bool true) ∧ Below w.heap.size w w' := by
  obtain ⟨Ac, cc, rfl⟩ := IntS.form h
  obtain ⟨Ac', cc', rfl⟩ := IntS.form h'
  have hh := hide (fun W (hb : Below w.heap.size w W) => IntS.below h hb)
  have hh' := hide (fun W (hb : Below w.heap.size w W) => IntS.below h' hb)
  have hself := hide (fun (x : Int) => show (x != x) = false by simp)
  clear h h'
  go_enter Tryz.func65, Tryz.ntmps65
  go_wp2_with fail
  go_loopw [5] (fun s5 wr => ∃ i : Nat, i ≤ 1 ∧ s5 = .int .i64 i ∧ Below w.heap.size w wr) (fun s5 _ => 1 - (intOf s5).toNat)
  case atStart => exact ⟨0, Nat.zero_le _, by go_num, Below.refl _ _⟩
  case round =>
    obtain ⟨i, hi, rfl, hb⟩ := hrel
    obtain ⟨Wr, rfl⟩ : ∃ Wr, Wr = wr := ⟨_, rfl⟩
    by_cases hi0 : i = 0
    · subst hi0
      have kr := k.below hb
      have kr' := k'.below hb
      have d0 := kr.c0
      have d1 := kr.c1
      have d2 := kr.c2
      have d3 := kr.c3
      have e0 := kr'.c0
      have e1 := kr'.c1
      have e2 := kr'.c2
      have e3 := kr'.c3
      go_upto_region 6 with fail
      go_quiet (fail)
      go_wp2
      go_loopw [6] (fun s6 wr => ∃ j : Nat, j ≤ l.length ∧ s6 = .int .i64 j ∧ Below w.heap.size w wr) (fun s6 _ => l.length - (intOf s6).toNat)
      case atStart => exact ⟨0, Nat.zero_le _, by go_num, hb.trans ⟨rfl, rfl, rfl, Nat.le_refl _, fun _ _ => rfl⟩⟩
      case round =>
        clear hb kr kr' d0 d1 d2 d3 e0 e1 e2 e3
        obtain ⟨j, hj, rfl, hb⟩ := hrel
        obtain ⟨Wj, rfl⟩ : ∃ Wj, Wj = wr := ⟨_, rfl⟩
        have hj0 : (0 : Int) ≤ (j : Int) := Int.natCast_nonneg _
        have kr := k.below hb
        have kr' := k'.below hb
        have d3 := kr.c3
        have e3 := kr'.c3
        by_cases hlt : j < l.length
        · have hj1 : (j : Int) < (l.length : Int) := by omega
          obtain ⟨b, off, rfl, -, r0⟩ := IntS.at_ (hh.out Wj hb) hlt
          obtain ⟨b', off', rfl, -, r1⟩ := IntS.at_ (hh'.out Wj hb) hlt
          generalize l[j] = x at *
          have q0 := hself.out x
          clear kr kr'
          go_wp2
          go_quiet (fail)
          go_wp2
          go_roundw
          case rel => exact ⟨j + 1, by omega, by go_num, hb.trans ⟨rfl, rfl, rfl, Nat.le_refl _, fun _ _ => rfl⟩⟩
          case measure => simp [intOf] <;> omega
        · obtain rfl : j = l.length := by omega
          clear kr kr'
          go_wp2
          go_roundw
          case rel => exact ⟨1, by omega, by go_num, hb⟩
          case measure => simp [intOf]
    · obtain rfl : i = 1 := by omega
      go_wp2
      go_ret
      exact ⟨rfl, hb⟩
theorem rsame24_eq (v v' : Value) (o : Option (List Nat)) (w : World) (h : TreeS w v o) (h' : TreeS w v' o) (hl : ∀ l, o = some l → l.length ≤ 1000000) :
    Calls Tryz.prog 65 #[v, v'] w fun e w' => e = .returned (.bool true) ∧ Below w.heap.size w w' := by
  cases o with
  | none =>
    obtain rfl : v = .slice none 0 0 := h
    obtain rfl : v' = .slice none 0 0 := h'
    refine (rsame24_nil w).mono ?_
    rintro e w' ⟨h1, rfl⟩
    exact ⟨h1, Below.refl _ _⟩
  | some l =>
    obtain ⟨g, kc, vc, rfl, k, hv⟩ := h
    obtain ⟨g', kc', vc', rfl, k', hv'⟩ := h'
    exact rsame24_some g g' kc kc' vc vc' (intsN l) w (by rw [intsN_len]; exact hl l rfl) k k' hv hv'
/-- What is said, as the reference holds it. -/
def ScrS (w : World) (v : Value) (r : Scr) : Prop := ∃ Ao co vt Af cf, v = .agg #[.int .i64 r.said, .slice Ao (intsN r.order).length co, vt, .slice Af r.facts.length cf] ∧ IntS w (Old w) (.slice Ao (intsN r.order).length co) (intsN r.order) ∧ TreeS w vt r.tree ∧ XS w (Old w) (.slice Af r.facts.length cf) r.facts
theorem ScrS.below {w w' : World} {v : Value} {r : Scr} (h : ScrS w v r) (hb : Below w.heap.size w w') : ScrS w' v r := by
  obtain ⟨Ao, co, vt, Af, cf, h1, h2, h3, h4⟩ := h
  exact ⟨Ao, co, vt, Af, cf, h1, h2.below hb, h3.below hb, SlR.below (Flat.stab _) h4 hb⟩
theorem ScrOutR.s {w w' : World} {r : Scr} {e : Ending} (h : ScrOutR w r e w') : ∃ v, e = .returned v ∧ ScrS w' v r ∧ Below w.heap.size w w' := by
  obtain ⟨vo, vt, vf, h1, h2, h3, h4, h5⟩ := h
  obtain ⟨Ao, co, rfl⟩ := own_slice h2
  obtain ⟨Af, cf, rfl⟩ := own_slice h4
  exact ⟨_, h1, ⟨Ao, co, vt, Af, cf, rfl, OwnI.sl h2 (fun g _ h => h), h3.s, SlR.of_flat h4 rfl (fun _ => rfl) (fun g _ h => h)⟩, h5⟩
set_option maxRecDepth 100000 in
theorem rsame28_eq (v v' : Value) (r : Scr) (w : World) (h : ScrS w v r) (h' : ScrS w v' r) (h1 : r.order.length ≤ 1000000) (h2 : ∀ l, r.tree = some l → l.length ≤ 1000000) (h3 : r.facts.length ≤ 1000000) :
    Calls Tryz.prog 22 #[v, v'] w fun e w' => e = .returned (.bool true) ∧ Below w.heap.size w w' := by
  obtain ⟨Ao, co, vt, Af, cf, rfl, ho, ht, hf⟩ := h
  obtain ⟨Ao', co', vt', Af', cf', rfl, ho', ht', hf'⟩ := h'
  obtain ⟨sd, od, tr, fa⟩ := r
  dsimp only at *
  have hno : (intsN od).length ≤ 1000000 := by rw [intsN_len]; exact h1
  generalize intsN od = ol at *
  obtain ⟨At, nt, ct, rfl⟩ : ∃ A n c, vt = .slice A n c := by
    cases tr with
    | none => exact ⟨_, _, _, ht⟩
    | some l => obtain ⟨g, kc, vc, q, -⟩ := ht; exact ⟨_, _, _, q⟩
  obtain ⟨At', nt', ct', rfl⟩ : ∃ A n c, vt' = .slice A n c := by
    cases tr with
    | none => exact ⟨_, _, _, ht'⟩
    | some l => obtain ⟨g, kc, vc, q, -⟩ := ht'; exact ⟨_, _, _, q⟩
  obtain ⟨W0, hW0⟩ : ∃ W0, (w.alloc (.cells #[.int .i64 sd, .slice Ao ol.length co, .slice At nt ct, .slice Af fa.length cf] 44)).alloc (.cells #[.int .i64 sd, .slice Ao' ol.length co', .slice At' nt' ct', .slice Af' fa.length cf'] 44) = W0 := ⟨_, rfl⟩
  have hb := below_two hW0
  have k0 := Blk.two1 hW0
  have k1 := Blk.two2 hW0
  have hc := hide (ints_any Ao Ao' co co' ol ol W0 (ho.below hb) (ho'.below hb) hno hno)
  have hct := hide (fun W (hb : Below w.heap.size w W) => rsame24_eq _ _ tr W (ht.below hb) (ht'.below hb) h2)
  have hcf := hide (fun W (hb : Below w.heap.size w W) => rsame23_eq Af Af' cf cf' fa W (SlR.below (Flat.stab _) hf hb) (SlR.below (Flat.stab _) hf' hb) h3)
  have a1 := k0.cell 1
  have b1 := k1.cell 1
  simp only [List.getElem?_toArray, List.getElem?_cons_zero, List.getElem?_cons_succ] at a1 b1
  have hself : (sd == sd) = true := by simp
  clear h1 h2 h3 ho ho' ht ht' hf hf'
  go_enter Tryz.func22, Tryz.ntmps22
  go_wp2_with fail
  clear hW0
  refine Calls.mono hc.out ?_
  rintro e w1 ⟨rfl, hb1⟩
  replace k0 := k0.below hb1 k0.lt
  replace k1 := k1.below hb1 k1.lt
  have hb2 := hb.trans (hb1.mono hb.size)
  clear hc a1 b1 hb1 hb
  have a2 := k0.cell 2
  have b2 := k1.cell 2
  simp only [List.getElem?_toArray, List.getElem?_cons_zero, List.getElem?_cons_succ] at a2 b2
  have hc2 := hide (hct.out w1 hb2)
  simp only [decide_true]
  go_wp2_with fail
  refine Calls.mono hc2.out ?_
  rintro e w2 ⟨rfl, hb3⟩
  replace k0 := k0.below hb3 k0.lt
  replace k1 := k1.below hb3 k1.lt
  replace hb2 := hb2.trans (hb3.mono hb2.size)
  clear hc2 hct a2 b2 hb3
  have a3 := k0.cell 3
  have b3 := k1.cell 3
  simp only [List.getElem?_toArray, List.getElem?_cons_zero, List.getElem?_cons_succ] at a3 b3
  have hc3 := hide (hcf.out w2 hb2)
  go_wp2_with fail
  refine Calls.mono hc3.out ?_
  rintro e w3 ⟨rfl, hb4⟩
  replace k0 := k0.below hb4 k0.lt
  replace k1 := k1.below hb4 k1.lt
  replace hb2 := hb2.trans (hb4.mono hb2.size)
  have a0 := k0.cell 0
  have b0 := k1.cell 0
  simp only [List.getElem?_toArray, List.getElem?_cons_zero, List.getElem?_cons_succ] at a0 b0
  clear hc3 hcf a3 b3 hb4
  go_wp2
  go_ret
  exact ⟨rfl, hb2⟩
end Go.Proofs.YtjomijnbnbideaaGreatDoor

namespace Go.Proofs.YtjomijnbnbideaaGreatDoor
open Go.RowKit Go.Inq
set_option maxHeartbeats 1000000

theorem rightC_nil (H : List Txn) : rightC H [] = rightH H := by unfold rightC; simp
theorem scr_facts (H : List Txn) (level : Int) : (scrH H level).facts = [] ∨ (scrH H level).facts = plainL H level (pairsL H) := by
  unfold scrH
  split
  · split
    · split
      · exact .inl rfl
      · exact .inr rfl
    · exact .inl rfl
  · exact .inl rfl
theorem scr_flen {H : List Txn} {level : Int} : (scrH H level).facts.length ≤ 40000 := by
  by_cases hr : rightH H = true
  · rcases scr_facts H level with e | e
    · rw [e]; simp
    · rw [e]
      have := plainL_len H level (pairsL H)
      have := pairsL_len hr
      omega
  · have hb : (rightC H [] && (decide (level = 0) || decide (level = 1))) = false := by rw [rightC_nil]; simp [hr]
    have : scrH H level = ⟨3, [], none, []⟩ := by unfold scrH; rw [hb]; rfl
    rw [this]; simp
end Go.Proofs.YtjomijnbnbideaaGreatDoor
