/-
  Walks: the law of layer 28's Plain: what is said, as the reference holds it.
-/
import Derived.Test.YtjomijnbnbideaaGreatDoorT38
import Derived.Test.YtjomijnbnbideaaGreatDoorT27
import Derived.Test.YtjomijnbnbideaaGreatDoorT02
set_option linter.unusedVariables false
set_option linter.unusedSimpArgs false
namespace Go.Proofs.YtjomijnbnbideaaGreatDoor
open Go.RowKit Go.Inq
set_option maxHeartbeats 8000000
attribute [local go_sem ↓] Go.wp_at_zero Go.wp_at_succ

theorem infoN24 : (Tryz.prog.info? 118).map (fun i => (i.zero, i.size, i.bytes)) = some (some (.agg #[.int .i64 0, .int .i64 0, .int .i64 0, .slice none 0 0]), 4, 48) := by kernel_rfl
theorem NodeS.far {w : World} {g : Nat} {vc : Value} (h : NodeS w g vc) {p : Addr} (hp : g ≠ p.block) (u : Value) : NodeS (w.setCell p u) g vc := by
  have hc : ∀ i, (w.setCell p u).cell? ⟨g, i, none⟩ = w.cell? ⟨g, i, none⟩ := fun i => World.cell?_of_block (Below.heap_setCell w p u g hp)
  exact ⟨by simpa using h.lt, (hc 0).trans h.c0, (hc 1).trans h.c1, (hc 2).trans h.c2, (hc 3).trans h.c3⟩
theorem NodeS.grown {w w' : World} {g : Nat} {vc : Value} {row : Option Nat} (h : NodeS w g vc) (hg : w.grownBy w' row) (hne : some g ≠ row) : NodeS w' g vc := by
  have hc : ∀ i, w'.cell? ⟨g, i, none⟩ = w.cell? ⟨g, i, none⟩ := fun i => World.cell?_of_block (hg.block g h.lt hne)
  exact ⟨Nat.lt_of_lt_of_le h.lt hg.size, (hc 0).trans h.c0, (hc 1).trans h.c1, (hc 2).trans h.c2, (hc 3).trans h.c3⟩
/-- A row of one node, out of a row of the call's own. -/
theorem nodeS_own {w : World} {base : Nat} {v vc : Value} (h : w.ownsRow base 118 4 v 1 [.int .i64 0, .int .i64 0, .int .i64 0, vc]) : ∃ g c, v = .slice (some ⟨g, 0, none⟩) 1 c ∧ base ≤ g ∧ NodeS w g vc := by
  rcases h.2 with ⟨_, h2⟩ | ⟨g, cap, cur, hv, hg, hb, h1, h2, h3, h4⟩
  · exact absurd h2 (by decide)
  · refine ⟨g, cap, hv, hg, (Array.getElem?_eq_some_iff.1 hb).1, ?_, ?_, ?_, ?_⟩
    all_goals
      refine (Blk.cell (t := 118) (cs := cur) hb _).trans ?_
      rw [← Array.getElem?_toList]
    · have := congrArg (·[0]?) h4; rw [List.getElem?_take] at this; simpa using this
    · have := congrArg (·[1]?) h4; rw [List.getElem?_take] at this; simpa using this
    · have := congrArg (·[2]?) h4; rw [List.getElem?_take] at this; simpa using this
    · have := congrArg (·[3]?) h4; rw [List.getElem?_take] at this; simpa using this
set_option maxRecDepth 100000 in
theorem plain28_any (r : Scr) (Ao : Option Addr) (co : Nat) (At : Option Addr) (ct : Nat) (Af : Option Addr) (cf : Nat) (w : World) (ho : IntS w (Old w) (.slice Ao r.order.length co) (intsN r.order)) (ht : TreeX w 0 (.slice At (treeN r.tree) ct) r.tree) (hf : OwnX w 0 (.slice Af r.facts.length cf) r.facts) (hn : r.facts.length ≤ 1000000) :
    Calls Tryz.prog 23 #[.agg #[.int .i64 r.said, .slice Ao r.order.length co, .slice At (treeN r.tree) ct, .slice Af r.facts.length cf]] w fun e w' => ∃ v, e = .returned v ∧ ScrS w' v r ∧ Below w.heap.size w w' := by
  obtain ⟨sd, od, tr, fa⟩ := r
  dsimp only at *
  have hh := hide (fun W (hb : Below w.heap.size w W) => IntS.below ho hb)
  have hht := hide (fun W (hb : Below w.heap.size w W) => TreeX.below ht hb)
  have hhf := hide (fun W (hb : Below w.heap.size w W) => show OwnX W 0 _ fa from own_below hf hb (Nat.le_refl _))
  have hnoe : Hid (∀ x, x = od.length → x = (intsN od).length) := hide (fun x e => by rw [e, intsN_len])
  obtain ⟨no, hno'⟩ : ∃ no, od.length = no := ⟨_, rfl⟩
  rw [hno'] at hh ⊢
  replace hnoe : Hid (no = (intsN od).length) := hide (by rw [intsN_len]; exact hno'.symm)
  clear ho ht hf hno'
  cases tr with
  | none =>
    go_enter Tryz.func23, Tryz.ntmps23
    go_upto_region 2 with fail
    obtain ⟨W0, hW0⟩ : ∃ W0, ((w.alloc (.cells #[.int .i64 sd, .slice Ao no co, .slice At (treeN none) ct, .slice Af fa.length cf] 35)).alloc (.cells #[.int .i64 0, .slice none 0 0, .slice none 0 0, .slice none 0 0] 44)).alloc (.cells #[.int .i64 sd, .slice Ao no co, .slice none 0 0, .slice none 0 0] 44) = W0 := ⟨_, rfl⟩
    try rw [hW0]
    have hb := below_three hW0
    have k0 := Blk.three1 hW0
    have k1 := Blk.three2 hW0
    have k2 := Blk.three3 hW0
    clear hW0
    go_wp2_with fail
    go_loopw [4] (fun s4 wr => s4 = .int .i64 0 ∧ wr = W0) (fun _ _ => 0)
    case atStart => exact ⟨by go_num, rfl⟩
    case round =>
      obtain ⟨rfl, hwr⟩ := hrel
      subst hwr
      obtain ⟨Wt, rfl⟩ : ∃ Wt, Wt = wr := ⟨_, rfl⟩
      have a2 := k0.cell 2
      simp only [List.getElem?_toArray, List.getElem?_cons_zero, List.getElem?_cons_succ, treeN] at a2
      have hTP : (fun (_ : World) => True) Wt := trivial
      have hTPb := hide (fun (X Y : World) (_ : (fun (_ : World) => True) X) (_ : Below X.heap.size X Y) => (trivial : (fun (_ : World) => True) Y))
      have hTPg := hide (fun (X Y : World) (row : Option Nat) (_ : (fun (_ : World) => True) X) (_ : X.grownBy Y row) (_ : ∀ r, row = some r → Wt.heap.size ≤ r) => (trivial : (fun (_ : World) => True) Y))
      have hTPs := hide (fun (X : World) (i : Nat) (u : Value) (_ : (fun (_ : World) => True) X) => (trivial : (fun (_ : World) => True) (X.setCell ⟨w.heap.size + 1 + 1, i, none⟩ u)))
      have hTPe := hide (fun (X : World) (a b d : Value) (_ : (fun (_ : World) => True) X) (_ : Below w.heap.size w ((((X.setCell ⟨w.heap.size + 1, 0, none⟩ (.int .i64 sd)).setCell ⟨w.heap.size + 1, 1, none⟩ a).setCell ⟨w.heap.size + 1, 2, none⟩ b).setCell ⟨w.heap.size + 1, 3, none⟩ d)) => (show TreeS ((((X.setCell ⟨w.heap.size + 1, 0, none⟩ (.int .i64 sd)).setCell ⟨w.heap.size + 1, 1, none⟩ a).setCell ⟨w.heap.size + 1, 2, none⟩ b).setCell ⟨w.heap.size + 1, 3, none⟩ d) (.slice none 0 0) none from rfl))
      have hWt := hide (show w.heap.size + 1 + 1 < Wt.heap.size from k2.lt)
      go_wp2_with fail
      go_loopw [5] (fun s5 wr => ∃ (k : Nat) (v : Value), k ≤ fa.length ∧ s5 = .int .i64 k ∧ Below w.heap.size w wr ∧ Blk wr w.heap.size 35 #[.int .i64 sd, .slice Ao no co, .slice At (treeN none) ct, .slice Af fa.length cf] ∧ Blk wr (w.heap.size + 1) 44 #[.int .i64 0, .slice none 0 0, .slice none 0 0, .slice none 0 0] ∧ Blk wr (w.heap.size + 1 + 1) 44 #[.int .i64 sd, .slice Ao no co, (.slice none 0 0), v] ∧ OwnXr wr Wt.heap.size v (fa.take k) ∧ Wt.heap.size ≤ wr.heap.size ∧ (fun (_ : World) => True) wr) (fun s5 _ => fa.length - (intOf s5).toNat)
      case atStart => exact ⟨0, .slice none 0 0, Nat.zero_le _, by go_num, hb, k0, k1, k2, World.ownsRow_nil _ _ _ _, Nat.le_refl _, hTP⟩
      case round =>
        clear hb k0 k1 k2 hTP
        obtain ⟨k, v, hk, rfl, hb, k0, k1, k2, hown, hsz, hTP⟩ := hrel
        obtain ⟨Wr, rfl⟩ : ∃ Wr, Wr = wr := ⟨_, rfl⟩
        have hk0 : (0 : Int) ≤ (k : Int) := Int.natCast_nonneg _
        have a3 := k0.cell 3
        simp only [List.getElem?_toArray, List.getElem?_cons_zero, List.getElem?_cons_succ] at a3
        by_cases hkt : k < fa.length
        · have hk1 : (k : Int) < (fa.length : Int) := by omega
          obtain ⟨b, off, rfl, d0, d1, d2, d3, d4, d5, d6⟩ := OwnX.at_ (hhf.out Wr hb) hkt
          have hst := hide (show fa.take (k + 1) = fa.take k ++ [fa[k]] from take_snoc' hkt)
          have hlen : (fa.take k).length = k := by rw [List.length_take]; omega
          have hen := hide (show [Value.int .i64 fa[k].1.key, .int .i64 fa[k].1.a, .int .i64 fa[k].1.b, .int .i64 (mkF fa[k].1 fa[k].2).kind, .int .i64 (mkF fa[k].1 fa[k].2).i, .int .i64 0, .slice none 0 0] = encX fa[k] from rfl)
          generalize fa[k] = x at *
          generalize (mkF x.1 x.2).kind = kd at *
          generalize (mkF x.1 x.2).i = ix at *
          generalize x.1.key = xk at *
          generalize x.1.a = xa at *
          generalize x.1.b = xb at *
          generalize fa.take k = LL at *
          have hlo := hide (fun b hb => (World.ownsRow.lt hown b hb).1)
          obtain ⟨Av, cv, rfl⟩ := own_slice hown
          replace hlen := hide hlen
          go_upto_region 10 with fail
          obtain ⟨W1, hW1⟩ : ∃ W1, Wr.alloc (.cells #[.int .i64 xk, .int .i64 xa, .int .i64 xb, .int .i64 kd, .int .i64 ix, .int .i64 0, .slice none 0 0] 51) = W1 := ⟨_, rfl⟩
          have hb1 := below_allocEq (Below.refl Wr.heap.size Wr) hW1 (Nat.le_refl _)
          have k6 := Blk.newEq hW1
          try rw [hW1]
          have hs1 := hb1.size
          replace hTP := hTPb.out Wr W1 hTP hb1
          replace k0 := k0.below hb1 k0.lt
          replace k1 := k1.below hb1 k1.lt
          replace k2 := k2.below hb1 k2.lt
          replace hown := own_below hown hb1 (Nat.le_refl _)
          replace hb := hb.trans (hb1.mono hb.size)
          clear hW1 hb1 d0 d1 d2 d3 d4 d5 d6 a3
          have e0 := k6.cell 0
          have e1 := k6.cell 1
          have e2 := k6.cell 2
          have e3 := k6.cell 3
          have e4 := k6.cell 4
          have e5 := k6.cell 5
          have e6 := k6.cell 6
          have c3 := k2.cell 3
          simp only [List.getElem?_toArray, List.getElem?_cons_zero, List.getElem?_cons_succ] at e0 e1 e2 e3 e4 e5 e6 c3
          have hwt : w.heap.size + 1 + 1 < Wt.heap.size := hWt.out
          have hbs : Wt.heap.size ≤ W1.heap.size := Nat.le_trans hsz hs1
          obtain ⟨ii, hii, hi1, hi2, hi3⟩ := info_parts infoF22r
          have h63 : LL.length + 1 ≤ maxLen := by rw [hlen.out]; unfold maxLen; omega
          have h64c : (LL.length + 1) * 72 ≤ 140737488355328 := by rw [hlen.out]; omega
          have hown1 : Hid (W1.ownsRow Wt.heap.size 119 7 (.slice Av LL.length cv) LL.length (LL.map encX).flatten) := hide hown
          clear hown k6
          go_wp2_with (at_builtin; go_loud (refine wpList_push (enc := encX) rfl (.tmp 50) (.tmp 62) 42 rfl Wt.heap.size 119 ii _ 7 72 Tryz.underlying42 hii hi1 hi2 hi3 rfl (by decide) (.slice Av LL.length cv) LL rfl hown1.out encX_len x #[.int .i64 xk, .int .i64 xa, .int .i64 xb, .int .i64 kd, .int .i64 ix, .int .i64 0, .slice none 0 0] hen.out rfl encX_one h63 h64c hbs w w.heap.size (by omega) hb ?_); intro v9 w9 hown9 hg9 hb9 hat9; obtain ⟨A9, c9, rfl⟩ := own_slice hown9; have k9 := (k2.alloc (.cells #[.int .i64 xk, .int .i64 xa, .int .i64 xb, .int .i64 kd, .int .i64 ix, .int .i64 0, .slice none 0 0] 119)).grown hg9 (fun e => by have := hlo.out _ e.symm; omega); have g9 := k9.cell 3; have f9 := k9.frozen 3)
          have hlx : (LL ++ [x]).length = LL.length + 1 := by simp
          have hown2 : OwnXr w9 Wt.heap.size (.slice A9 (LL.length + 1) c9) (fa.take (k + 1)) := by rw [hst.out, ← hlx]; exact hown9
          have hno : ∀ q, q < Wt.heap.size → some q ≠ (Value.slice Av LL.length cv).ownBlock := fun q hq e => by have := hlo.out q e.symm; omega
          have k08 := ((k0.alloc (.cells #[.int .i64 xk, .int .i64 xa, .int .i64 xb, .int .i64 kd, .int .i64 ix, .int .i64 0, .slice none 0 0] 119)).grown hg9 (hno _ (by omega))).far (p := ⟨w.heap.size + 1 + 1, 3, none⟩) (by simp; omega) (.slice A9 (LL.length + 1) c9)
          have k18 := ((k1.alloc (.cells #[.int .i64 xk, .int .i64 xa, .int .i64 xb, .int .i64 kd, .int .i64 ix, .int .i64 0, .slice none 0 0] 119)).grown hg9 (hno _ (by omega))).far (p := ⟨w.heap.size + 1 + 1, 3, none⟩) (by simp) (.slice A9 (LL.length + 1) c9)
          have hTP9 := hTPs.out w9 3 (.slice A9 (LL.length + 1) c9) (hTPg.out (W1.alloc (.cells #[.int .i64 xk, .int .i64 xa, .int .i64 xb, .int .i64 kd, .int .i64 ix, .int .i64 0, .slice none 0 0] 119)) w9 _ (hTPb.out W1 (W1.alloc (.cells #[.int .i64 xk, .int .i64 xa, .int .i64 xb, .int .i64 kd, .int .i64 ix, .int .i64 0, .slice none 0 0] 119)) hTP ((Below.refl W1.heap.size W1).alloc (Nat.le_refl _) (.cells #[.int .i64 xk, .int .i64 xa, .int .i64 xb, .int .i64 kd, .int .i64 ix, .int .i64 0, .slice none 0 0] 119))) hg9 (fun r e => hlo.out r e))
          have hz9 := hg9.size
          have hof := World.ownsRow.kept hown2 (grown_set (w.heap.size + 1 + 1) 3 (.slice A9 (LL.length + 1) c9)) (.inr fun e => by have := (World.ownsRow.lt hown2 _ e).1; omega)
          go_roundw
          case rel => exact ⟨k + 1, .slice A9 (LL.length + 1) c9, by omega, by go_num, hb9.setCell (p := ⟨w.heap.size + 1 + 1, 3, none⟩) (by simp; omega) _, k08, k18, k9.set_ 3 _, hof, by simp at hz9 ⊢; omega, hTP9⟩
          case measure => simp [intOf] <;> omega
        · obtain rfl : k = fa.length := by omega
          rw [List.take_length] at hown
          obtain ⟨Av, cv, rfl⟩ := own_slice hown
          have kf : Blk _ (w.heap.size + 1) 44 #[.int .i64 sd, .slice Ao no co, (.slice none 0 0), .slice Av fa.length cv] := (((k1.set_ 0 (.int .i64 sd)).set_ 1 (.slice Ao no co)).set_ 2 (.slice none 0 0)).set_ 3 (.slice Av fa.length cv)
          have hwt : w.heap.size + 1 + 1 < Wt.heap.size := hWt.out
          have hno : ∀ g, (Value.slice Av fa.length cv).ownBlock = some g → g ≠ w.heap.size + 1 := fun g e => by have := (World.ownsRow.lt hown g e).1; omega
          have hof := hide ((((World.ownsRow.kept hown (grown_set (w.heap.size + 1) 0 (.int .i64 sd)) (.inr fun e => hno _ e rfl)).kept (grown_set (w.heap.size + 1) 1 (.slice Ao no co)) (.inr fun e => hno _ e rfl)).kept (grown_set (w.heap.size + 1) 2 (.slice none 0 0)) (.inr fun e => hno _ e rfl)).kept (grown_set (w.heap.size + 1) 3 (.slice Av fa.length cv)) (.inr fun e => hno _ e rfl))
          have hBf := hide ((((hb.setCell (p := ⟨w.heap.size + 1, 0, none⟩) (by simp) (.int .i64 sd)).setCell (p := ⟨w.heap.size + 1, 1, none⟩) (by simp) (.slice Ao no co)).setCell (p := ⟨w.heap.size + 1, 2, none⟩) (by simp) (.slice none 0 0)).setCell (p := ⟨w.heap.size + 1, 3, none⟩) (by simp) (.slice Av fa.length cv))
          have hTf := hide (hTPe.out Wr (.slice Ao no co) (.slice none 0 0) (.slice Av fa.length cv) hTP hBf.out)
          have r0 := hide (kf.cell 0)
          have r1 := hide (kf.cell 1)
          have r2 := hide (kf.cell 2)
          have r3 := hide (kf.cell 3)
          simp only [List.getElem?_toArray, List.getElem?_cons_zero, List.getElem?_cons_succ] at r0 r1 r2 r3
          have p0 := k1.cell 0
          have p1 := k1.cell 1
          have p2 := k1.cell 2
          have p3 := k1.cell 3
          have q0 := k1.frozen 0
          have q1 := k1.frozen 1
          have q2 := k1.frozen 2
          have q3 := k1.frozen 3
          have x0 := k2.cell 0
          have x1 := k2.cell 1
          have x2 := k2.cell 2
          have x3 := k2.cell 3
          simp only [List.getElem?_toArray, List.getElem?_cons_zero, List.getElem?_cons_succ] at p0 p1 p2 p3 x0 x1 x2 x3
          clear kf hno k0 k1 k2 hb
          go_upto_region 11 with fail
          repeat' (first | go_values | go_skip | go_guarded | go_step | go_upon)
          try simp only [Exit.inBlock, Exit.then]
          have hBz := hBf.out
          exact bodyPost_ret (v := .agg #[.int .i64 sd, .slice Ao no co, (.slice none 0 0), .slice Av fa.length cv]) (by simp [results, Tryz.results23, go_sem, r0.out, r1.out, r2.out, r3.out]) rfl ⟨_, rfl, ⟨Ao, co, (.slice none 0 0), Av, cv, by rw [hnoe.out], by rw [← hnoe.out]; exact hh.out _ hBz, hTf.out, SlR.of_flat hof.out rfl (fun _ => rfl) (fun g _ h => h)⟩, hBz⟩
  | some l =>
    obtain ⟨g, vc, -, hv, kN, hoc⟩ := hht.out w (Below.refl _ _)
    simp only [Value.slice.injEq] at hv
    obtain ⟨rfl, -, rfl⟩ := hv
    have hIc := hide (fun W (hb : Below w.heap.size w W) => IntS.below (OwnI.sl (K := Old w) hoc (fun g _ h => h)) hb)
    obtain ⟨Ac, cc, rfl⟩ := OwnI.form hoc
    clear hoc
    have hkN := hide (fun W (hb : Below w.heap.size w W) => kN.below hb kN.lt)
    clear kN hht
    go_enter Tryz.func23, Tryz.ntmps23
    go_upto_region 2 with fail
    obtain ⟨W0, hW0⟩ : ∃ W0, ((w.alloc (.cells #[.int .i64 sd, .slice Ao no co, .slice (some ⟨g, 0, none⟩) (treeN (some l)) 1, .slice Af fa.length cf] 35)).alloc (.cells #[.int .i64 0, .slice none 0 0, .slice none 0 0, .slice none 0 0] 44)).alloc (.cells #[.int .i64 sd, .slice Ao no co, .slice none 0 0, .slice none 0 0] 44) = W0 := ⟨_, rfl⟩
    try rw [hW0]
    have hb := below_three hW0
    have k0 := Blk.three1 hW0
    have k1 := Blk.three2 hW0
    have k2 := Blk.three3 hW0
    clear hW0
    go_wp2_with fail
    go_loopw [4] (fun s4 wr => (s4 = .int .i64 0 ∧ wr = W0) ∨ (s4 = .int .i64 1 ∧ ∃ gN cN, Below w.heap.size w wr ∧ Blk wr w.heap.size 35 #[.int .i64 sd, .slice Ao no co, .slice (some ⟨g, 0, none⟩) (treeN (some l)) 1, .slice Af fa.length cf] ∧ Blk wr (w.heap.size + 1) 44 #[.int .i64 0, .slice none 0 0, .slice none 0 0, .slice none 0 0] ∧ Blk wr (w.heap.size + 1 + 1) 44 #[.int .i64 sd, .slice Ao no co, .slice (some ⟨gN, 0, none⟩) 1 cN, .slice none 0 0] ∧ w.heap.size + 1 + 1 < gN ∧ NodeS wr gN (.slice Ac (intsN l).length cc))) (fun s4 _ => 1 - (intOf s4).toNat)
    case atStart => exact .inl ⟨by go_num, rfl⟩
    case round =>
      rcases hrel with ⟨rfl, hwr⟩ | ⟨rfl, gN, cN, hb', k0', k1', k2', hgN, hN⟩
      · subst hwr
        obtain ⟨Wt, rfl⟩ : ∃ Wt, Wt = wr := ⟨_, rfl⟩
        have kn := hkN.out Wt hb
        have a2 := k0.cell 2
        have c2 := k2.cell 2
        have n0 := kn.cell 0
        have n1 := kn.cell 1
        have n2 := kn.cell 2
        have n3 := kn.cell 3
        simp only [List.getElem?_toArray, List.getElem?_cons_zero, List.getElem?_cons_succ, treeN] at a2 c2 n0 n1 n2 n3
        obtain ⟨ii, hii, hi1, hi2, hi3⟩ := info_parts infoN24
        have hbs := k2.lt
        obtain ⟨A0, q0, e0, hown0⟩ : ∃ A0 q0, (Value.slice none 0 0) = .slice A0 0 q0 ∧ ∀ X : World, X.ownsRow (w.heap.size + 1 + 1 + 1) 118 4 (.slice A0 0 q0) 0 [] := ⟨none, 0, rfl, fun X => World.ownsRow_nil _ _ _ _⟩
        rw [e0] at c2
        replace e0 := hide e0
        replace hown0 := hide hown0
        clear kn
        go_upto_region 5 with fail
        refine wp_region_plan [0, 1, 2, 3, 4, 5, 6, 7, 8, 9, 10, 11, 12, 13, 14] [15, 16, 17, 18] (by kernel_rfl) (by kernel_rfl) (fun _ _ d _ _ h => by cases d <;> exact h) ?_
        simp only [List.filterMap_cons, List.filterMap_nil, List.getElem?_cons_zero, List.getElem?_cons_succ]
        repeat still_step
        refine wpStill_nil ?_
        have hbx : Below w.heap.size w Wt.drew := below_drew hb
        have k0x : Blk Wt.drew w.heap.size 35 _ := k0
        have k1x : Blk Wt.drew (w.heap.size + 1) 44 _ := k1
        have k2x : Blk Wt.drew (w.heap.size + 1 + 1) 44 _ := k2
        have hbsx : w.heap.size + 1 + 1 + 1 ≤ Wt.drew.heap.size := hbs
        clear hb k0 k1 k2 hbs a2 c2 n0 n1 n2 n3
        change wpList _ _ _ _ _ Wt.drew
        generalize Wt.drew = Wx at *
        refine wpList_plain rfl (fun K hK => ?_)
        go_simp
        refine hK _ _ ?_
        clear hK K
        refine wpList_push (enc := fun (_ : Unit) => [Value.int .i64 0, .int .i64 0, .int .i64 0, .slice Ac (intsN l).length cc]) rfl (.tmp 20) (.tmp 34) 41 rfl (w.heap.size + 1 + 1 + 1) 118 ii _ 4 48 Tryz.underlying41 hii hi1 hi2 hi3 rfl (by decide) (.slice A0 0 q0) [] rfl (hown0.out _) (fun _ => rfl) () #[.int .i64 0, .int .i64 0, .int .i64 0, .slice Ac (intsN l).length cc] rfl rfl (by intro x u hu; simp at hu; rcases hu with rfl | rfl <;> rfl) (by decide) (by decide) hbsx w w.heap.size (by omega) hbx ?_
        intro v1 w6 hown1 hg1 hb1 hat1
        obtain ⟨gN, cN, rfl, hgN, hN⟩ := nodeS_own hown1
        have k9 := (k2x.alloc (.cells #[.int .i64 0, .int .i64 0, .int .i64 0, .slice Ac (intsN l).length cc] 118)).grown hg1 (by rw [← e0.out]; simp [Value.ownBlock])
        have k09 := (k0x.alloc (.cells #[.int .i64 0, .int .i64 0, .int .i64 0, .slice Ac (intsN l).length cc] 118)).grown hg1 (by rw [← e0.out]; simp [Value.ownBlock])
        have k19 := (k1x.alloc (.cells #[.int .i64 0, .int .i64 0, .int .i64 0, .slice Ac (intsN l).length cc] 118)).grown hg1 (by rw [← e0.out]; simp [Value.ownBlock])
        have g9 := k9.cell 2
        have f9 := k9.frozen 2
        go_wp2
        go_roundw
        case rel => exact .inr ⟨by go_num, gN, cN, hb1.setCell (p := ⟨w.heap.size + 1 + 1, 2, none⟩) (by simp; omega) _, k09.far (p := ⟨w.heap.size + 1 + 1, 2, none⟩) (by simp; omega) _, k19.far (p := ⟨w.heap.size + 1 + 1, 2, none⟩) (by simp) _, k9.set_ 2 _, hgN, hN.far (by show gN ≠ w.heap.size + 1 + 1; omega) _⟩
        case measure => simp [intOf]
      · clear hb k0 k1 k2
        obtain ⟨Wt, rfl⟩ : ∃ Wt, Wt = wr := ⟨_, rfl⟩
        have a2 := k0'.cell 2
        simp only [List.getElem?_toArray, List.getElem?_cons_zero, List.getElem?_cons_succ, treeN] at a2
        have hgNl := hN.lt
        have hb := hb'
        have k0 := k0'
        have k1 := k1'
        have k2 := k2'
        have hTP : (fun (X : World) => NodeS X gN (.slice Ac (intsN l).length cc)) Wt := hN
        have hTPb := hide (fun (X Y : World) (h1 : (fun (X : World) => NodeS X gN (.slice Ac (intsN l).length cc)) X) (h2 : Below X.heap.size X Y) => (show (fun (X : World) => NodeS X gN (.slice Ac (intsN l).length cc)) Y from NodeS.below h1 h2))
        have hTPg := hide (fun (X Y : World) (row : Option Nat) (h1 : (fun (X : World) => NodeS X gN (.slice Ac (intsN l).length cc)) X) (h2 : X.grownBy Y row) (h3 : ∀ r, row = some r → Wt.heap.size ≤ r) => (show (fun (X : World) => NodeS X gN (.slice Ac (intsN l).length cc)) Y from NodeS.grown h1 h2 (fun e => by have := h3 gN e.symm; omega)))
        have hTPs := hide (fun (X : World) (i : Nat) (u : Value) (h1 : (fun (X : World) => NodeS X gN (.slice Ac (intsN l).length cc)) X) => (show (fun (X : World) => NodeS X gN (.slice Ac (intsN l).length cc)) (X.setCell ⟨w.heap.size + 1 + 1, i, none⟩ u) from NodeS.far h1 (by show gN ≠ w.heap.size + 1 + 1; omega) u))
        have hTPe := hide (fun (X : World) (a b d : Value) (h1 : (fun (X : World) => NodeS X gN (.slice Ac (intsN l).length cc)) X) (h2 : Below w.heap.size w ((((X.setCell ⟨w.heap.size + 1, 0, none⟩ (.int .i64 sd)).setCell ⟨w.heap.size + 1, 1, none⟩ a).setCell ⟨w.heap.size + 1, 2, none⟩ b).setCell ⟨w.heap.size + 1, 3, none⟩ d)) => (show TreeS ((((X.setCell ⟨w.heap.size + 1, 0, none⟩ (.int .i64 sd)).setCell ⟨w.heap.size + 1, 1, none⟩ a).setCell ⟨w.heap.size + 1, 2, none⟩ b).setCell ⟨w.heap.size + 1, 3, none⟩ d) (.slice (some ⟨gN, 0, none⟩) 1 cN) (some l) from ⟨gN, cN, _, rfl, (((NodeS.far h1 (by show gN ≠ w.heap.size + 1; omega) _).far (by show gN ≠ w.heap.size + 1; omega) _).far (by show gN ≠ w.heap.size + 1; omega) _).far (by show gN ≠ w.heap.size + 1; omega) _, hIc.out _ h2⟩))
        have hWt := hide (show w.heap.size + 1 + 1 < Wt.heap.size from k2.lt)
        clear hb' k0' k1' k2' hN hgN hgNl
        go_wp2_with fail
        go_loopw [5] (fun s5 wr => ∃ (k : Nat) (v : Value), k ≤ fa.length ∧ s5 = .int .i64 k ∧ Below w.heap.size w wr ∧ Blk wr w.heap.size 35 #[.int .i64 sd, .slice Ao no co, .slice (some ⟨g, 0, none⟩) (treeN (some l)) 1, .slice Af fa.length cf] ∧ Blk wr (w.heap.size + 1) 44 #[.int .i64 0, .slice none 0 0, .slice none 0 0, .slice none 0 0] ∧ Blk wr (w.heap.size + 1 + 1) 44 #[.int .i64 sd, .slice Ao no co, (.slice (some ⟨gN, 0, none⟩) 1 cN), v] ∧ OwnXr wr Wt.heap.size v (fa.take k) ∧ Wt.heap.size ≤ wr.heap.size ∧ (fun (X : World) => NodeS X gN (.slice Ac (intsN l).length cc)) wr) (fun s5 _ => fa.length - (intOf s5).toNat)
        case atStart => exact ⟨0, .slice none 0 0, Nat.zero_le _, by go_num, hb, k0, k1, k2, World.ownsRow_nil _ _ _ _, Nat.le_refl _, hTP⟩
        case round =>
          clear hb k0 k1 k2 hTP
          obtain ⟨k, v, hk, rfl, hb, k0, k1, k2, hown, hsz, hTP⟩ := hrel
          obtain ⟨Wr, rfl⟩ : ∃ Wr, Wr = wr := ⟨_, rfl⟩
          have hk0 : (0 : Int) ≤ (k : Int) := Int.natCast_nonneg _
          have a3 := k0.cell 3
          simp only [List.getElem?_toArray, List.getElem?_cons_zero, List.getElem?_cons_succ] at a3
          by_cases hkt : k < fa.length
          · have hk1 : (k : Int) < (fa.length : Int) := by omega
            obtain ⟨b, off, rfl, d0, d1, d2, d3, d4, d5, d6⟩ := OwnX.at_ (hhf.out Wr hb) hkt
            have hst := hide (show fa.take (k + 1) = fa.take k ++ [fa[k]] from take_snoc' hkt)
            have hlen : (fa.take k).length = k := by rw [List.length_take]; omega
            have hen := hide (show [Value.int .i64 fa[k].1.key, .int .i64 fa[k].1.a, .int .i64 fa[k].1.b, .int .i64 (mkF fa[k].1 fa[k].2).kind, .int .i64 (mkF fa[k].1 fa[k].2).i, .int .i64 0, .slice none 0 0] = encX fa[k] from rfl)
            generalize fa[k] = x at *
            generalize (mkF x.1 x.2).kind = kd at *
            generalize (mkF x.1 x.2).i = ix at *
            generalize x.1.key = xk at *
            generalize x.1.a = xa at *
            generalize x.1.b = xb at *
            generalize fa.take k = LL at *
            have hlo := hide (fun b hb => (World.ownsRow.lt hown b hb).1)
            obtain ⟨Av, cv, rfl⟩ := own_slice hown
            replace hlen := hide hlen
            go_upto_region 10 with fail
            obtain ⟨W1, hW1⟩ : ∃ W1, Wr.alloc (.cells #[.int .i64 xk, .int .i64 xa, .int .i64 xb, .int .i64 kd, .int .i64 ix, .int .i64 0, .slice none 0 0] 51) = W1 := ⟨_, rfl⟩
            have hb1 := below_allocEq (Below.refl Wr.heap.size Wr) hW1 (Nat.le_refl _)
            have k6 := Blk.newEq hW1
            try rw [hW1]
            have hs1 := hb1.size
            replace hTP := hTPb.out Wr W1 hTP hb1
            replace k0 := k0.below hb1 k0.lt
            replace k1 := k1.below hb1 k1.lt
            replace k2 := k2.below hb1 k2.lt
            replace hown := own_below hown hb1 (Nat.le_refl _)
            replace hb := hb.trans (hb1.mono hb.size)
            clear hW1 hb1 d0 d1 d2 d3 d4 d5 d6 a3
            have e0 := k6.cell 0
            have e1 := k6.cell 1
            have e2 := k6.cell 2
            have e3 := k6.cell 3
            have e4 := k6.cell 4
            have e5 := k6.cell 5
            have e6 := k6.cell 6
            have c3 := k2.cell 3
            simp only [List.getElem?_toArray, List.getElem?_cons_zero, List.getElem?_cons_succ] at e0 e1 e2 e3 e4 e5 e6 c3
            have hwt : w.heap.size + 1 + 1 < Wt.heap.size := hWt.out
            have hbs : Wt.heap.size ≤ W1.heap.size := Nat.le_trans hsz hs1
            obtain ⟨ii, hii, hi1, hi2, hi3⟩ := info_parts infoF22r
            have h63 : LL.length + 1 ≤ maxLen := by rw [hlen.out]; unfold maxLen; omega
            have h64c : (LL.length + 1) * 72 ≤ 140737488355328 := by rw [hlen.out]; omega
            have hown1 : Hid (W1.ownsRow Wt.heap.size 119 7 (.slice Av LL.length cv) LL.length (LL.map encX).flatten) := hide hown
            clear hown k6
            go_wp2_with (at_builtin; go_loud (refine wpList_push (enc := encX) rfl (.tmp 50) (.tmp 62) 42 rfl Wt.heap.size 119 ii _ 7 72 Tryz.underlying42 hii hi1 hi2 hi3 rfl (by decide) (.slice Av LL.length cv) LL rfl hown1.out encX_len x #[.int .i64 xk, .int .i64 xa, .int .i64 xb, .int .i64 kd, .int .i64 ix, .int .i64 0, .slice none 0 0] hen.out rfl encX_one h63 h64c hbs w w.heap.size (by omega) hb ?_); intro v9 w9 hown9 hg9 hb9 hat9; obtain ⟨A9, c9, rfl⟩ := own_slice hown9; have k9 := (k2.alloc (.cells #[.int .i64 xk, .int .i64 xa, .int .i64 xb, .int .i64 kd, .int .i64 ix, .int .i64 0, .slice none 0 0] 119)).grown hg9 (fun e => by have := hlo.out _ e.symm; omega); have g9 := k9.cell 3; have f9 := k9.frozen 3)
            have hlx : (LL ++ [x]).length = LL.length + 1 := by simp
            have hown2 : OwnXr w9 Wt.heap.size (.slice A9 (LL.length + 1) c9) (fa.take (k + 1)) := by rw [hst.out, ← hlx]; exact hown9
            have hno : ∀ q, q < Wt.heap.size → some q ≠ (Value.slice Av LL.length cv).ownBlock := fun q hq e => by have := hlo.out q e.symm; omega
            have k08 := ((k0.alloc (.cells #[.int .i64 xk, .int .i64 xa, .int .i64 xb, .int .i64 kd, .int .i64 ix, .int .i64 0, .slice none 0 0] 119)).grown hg9 (hno _ (by omega))).far (p := ⟨w.heap.size + 1 + 1, 3, none⟩) (by simp; omega) (.slice A9 (LL.length + 1) c9)
            have k18 := ((k1.alloc (.cells #[.int .i64 xk, .int .i64 xa, .int .i64 xb, .int .i64 kd, .int .i64 ix, .int .i64 0, .slice none 0 0] 119)).grown hg9 (hno _ (by omega))).far (p := ⟨w.heap.size + 1 + 1, 3, none⟩) (by simp) (.slice A9 (LL.length + 1) c9)
            have hTP9 := hTPs.out w9 3 (.slice A9 (LL.length + 1) c9) (hTPg.out (W1.alloc (.cells #[.int .i64 xk, .int .i64 xa, .int .i64 xb, .int .i64 kd, .int .i64 ix, .int .i64 0, .slice none 0 0] 119)) w9 _ (hTPb.out W1 (W1.alloc (.cells #[.int .i64 xk, .int .i64 xa, .int .i64 xb, .int .i64 kd, .int .i64 ix, .int .i64 0, .slice none 0 0] 119)) hTP ((Below.refl W1.heap.size W1).alloc (Nat.le_refl _) (.cells #[.int .i64 xk, .int .i64 xa, .int .i64 xb, .int .i64 kd, .int .i64 ix, .int .i64 0, .slice none 0 0] 119))) hg9 (fun r e => hlo.out r e))
            have hz9 := hg9.size
            have hof := World.ownsRow.kept hown2 (grown_set (w.heap.size + 1 + 1) 3 (.slice A9 (LL.length + 1) c9)) (.inr fun e => by have := (World.ownsRow.lt hown2 _ e).1; omega)
            go_roundw
            case rel => exact ⟨k + 1, .slice A9 (LL.length + 1) c9, by omega, by go_num, hb9.setCell (p := ⟨w.heap.size + 1 + 1, 3, none⟩) (by simp; omega) _, k08, k18, k9.set_ 3 _, hof, by simp at hz9 ⊢; omega, hTP9⟩
            case measure => simp [intOf] <;> omega
          · obtain rfl : k = fa.length := by omega
            rw [List.take_length] at hown
            obtain ⟨Av, cv, rfl⟩ := own_slice hown
            have kf : Blk _ (w.heap.size + 1) 44 #[.int .i64 sd, .slice Ao no co, (.slice (some ⟨gN, 0, none⟩) 1 cN), .slice Av fa.length cv] := (((k1.set_ 0 (.int .i64 sd)).set_ 1 (.slice Ao no co)).set_ 2 (.slice (some ⟨gN, 0, none⟩) 1 cN)).set_ 3 (.slice Av fa.length cv)
            have hwt : w.heap.size + 1 + 1 < Wt.heap.size := hWt.out
            have hno : ∀ g, (Value.slice Av fa.length cv).ownBlock = some g → g ≠ w.heap.size + 1 := fun g e => by have := (World.ownsRow.lt hown g e).1; omega
            have hof := hide ((((World.ownsRow.kept hown (grown_set (w.heap.size + 1) 0 (.int .i64 sd)) (.inr fun e => hno _ e rfl)).kept (grown_set (w.heap.size + 1) 1 (.slice Ao no co)) (.inr fun e => hno _ e rfl)).kept (grown_set (w.heap.size + 1) 2 (.slice (some ⟨gN, 0, none⟩) 1 cN)) (.inr fun e => hno _ e rfl)).kept (grown_set (w.heap.size + 1) 3 (.slice Av fa.length cv)) (.inr fun e => hno _ e rfl))
            have hBf := hide ((((hb.setCell (p := ⟨w.heap.size + 1, 0, none⟩) (by simp) (.int .i64 sd)).setCell (p := ⟨w.heap.size + 1, 1, none⟩) (by simp) (.slice Ao no co)).setCell (p := ⟨w.heap.size + 1, 2, none⟩) (by simp) (.slice (some ⟨gN, 0, none⟩) 1 cN)).setCell (p := ⟨w.heap.size + 1, 3, none⟩) (by simp) (.slice Av fa.length cv))
            have hTf := hide (hTPe.out Wr (.slice Ao no co) (.slice (some ⟨gN, 0, none⟩) 1 cN) (.slice Av fa.length cv) hTP hBf.out)
            have r0 := hide (kf.cell 0)
            have r1 := hide (kf.cell 1)
            have r2 := hide (kf.cell 2)
            have r3 := hide (kf.cell 3)
            simp only [List.getElem?_toArray, List.getElem?_cons_zero, List.getElem?_cons_succ] at r0 r1 r2 r3
            have p0 := k1.cell 0
            have p1 := k1.cell 1
            have p2 := k1.cell 2
            have p3 := k1.cell 3
            have q0 := k1.frozen 0
            have q1 := k1.frozen 1
            have q2 := k1.frozen 2
            have q3 := k1.frozen 3
            have x0 := k2.cell 0
            have x1 := k2.cell 1
            have x2 := k2.cell 2
            have x3 := k2.cell 3
            simp only [List.getElem?_toArray, List.getElem?_cons_zero, List.getElem?_cons_succ] at p0 p1 p2 p3 x0 x1 x2 x3
            clear kf hno k0 k1 k2 hb
            go_upto_region 11 with fail
            repeat' (first | go_values | go_skip | go_guarded | go_step | go_upon)
            try simp only [Exit.inBlock, Exit.then]
            have hBz := hBf.out
            exact bodyPost_ret (v := .agg #[.int .i64 sd, .slice Ao no co, (.slice (some ⟨gN, 0, none⟩) 1 cN), .slice Av fa.length cv]) (by simp [results, Tryz.results23, go_sem, r0.out, r1.out, r2.out, r3.out]) rfl ⟨_, rfl, ⟨Ao, co, (.slice (some ⟨gN, 0, none⟩) 1 cN), Av, cv, by rw [hnoe.out], by rw [← hnoe.out]; exact hh.out _ hBz, hTf.out, SlR.of_flat hof.out rfl (fun _ => rfl) (fun g _ h => h)⟩, hBz⟩
end Go.Proofs.YtjomijnbnbideaaGreatDoor
