/-
  Walks: layer 18: who reads ahead of whose write.
-/
import Derived.Test.YtfhnamomiaekdaaGreatDoorGSiGraphWL
set_option linter.unusedVariables false
set_option linter.unusedSimpArgs false
namespace Go.Proofs.YtfhnamomiaekdaaGreatDoor
open Go.RowKit Go.Inq
set_option maxHeartbeats 4000000
attribute [local go_sem ↓] Go.wp_at_zero Go.wp_at_succ

/-- Does one read what a choice's first wrote, and is not its second? -/
def seesB (H : List Txn) (c : Cho) : Edges := fun x y => decide (c.b = (y : Int)) && decide (x ≠ y) && (txnAt H x).reads.any fun r => decide (r.a = c.key) && decide (r.b = c.a)
theorem rwE_eq (H : List Txn) (l : List Cho) : rwE H l = fun x y => initE H x y || l.any fun c => seesB H c x y := rfl
def rwMid (H : List Txn) (l : List Cho) (c : Cho) (t : Nat) : Edges := fun x y => rwE H l x y || (decide (x < t) && seesB H c x y)
theorem rwMid_zero (H : List Txn) (l : List Cho) (c : Cho) : rwMid H l c 0 = rwE H l := by funext x y; simp [rwMid]
theorem rwMid_end (H : List Txn) {l : List Cho} {k n : Nat} (hk : k < l.length) {x y : Nat} (hx : x < n) : rwMid H (l.take k) l[k] n x y = rwE H (l.take (k + 1)) x y := by
  unfold rwMid
  rw [rwE_eq, rwE_eq, take_snoc' hk]
  simp only [List.any_append, List.any_cons, List.any_nil, Bool.or_false, decide_eq_true hx, Bool.true_and, Bool.or_assoc]
theorem rwMid_yes {H : List Txn} {l : List Cho} {c : Cho} {t b : Nat} (hb : c.b = b) (hne : t ≠ b) (hs : ((txnAt H t).reads.any fun r => decide (r.a = c.key) && decide (r.b = c.a)) = true) : orE (rwMid H l c t) (oneE t b) = rwMid H l c (t + 1) := by
  funext x y
  unfold orE rwMid oneE
  rw [Bool.or_assoc]
  congr 1
  by_cases e1 : x = t
  · subst e1
    by_cases e2 : y = b
    · subst e2; simp [seesB, hb, hne, hs]
    · have : decide (c.b = (y : Int)) = false := by rw [hb]; simp; omega
      simp [seesB, e2, this]
  · have : decide (x < t + 1) = decide (x < t) := by simp; omega
    simp [e1, this]
theorem rwMid_no {H : List Txn} {l : List Cho} {c : Cho} {t b : Nat} (hb : c.b = b) (h : t = b ∨ ((txnAt H t).reads.any fun r => decide (r.a = c.key) && decide (r.b = c.a)) = false) : rwMid H l c t = rwMid H l c (t + 1) := by
  funext x y
  unfold rwMid
  congr 1
  by_cases e1 : x = t
  · subst e1
    have : seesB H c x y = false := by
      unfold seesB
      rcases h with h | h
      · subst h
        by_cases e2 : y = x
        · subst e2; simp
        · have : decide (c.b = (y : Int)) = false := by rw [hb]; simp; omega
          simp [this]
      · rw [h]; simp
    simp [this]
  · have : decide (x < t + 1) = decide (x < t) := by simp; omega
    rw [this]
theorem rwE_nil (H : List Txn) (x y : Nat) : initE H x y = rwE H [] x y := by simp [rwE]
set_option maxRecDepth 100000 in
theorem rw18_any (A : Option Addr) (c : Nat) (H : List Txn) (Al : Option Addr) (cl : Nat) (l : List Cho) (w : World) (h : TxnS w (Old w) (.slice A H.length c) H) (hn : SmallH H) (hl : ChoS w (Old w) (.slice Al l.length cl) l) (hr : rightC H l = true) :
    Calls Tryz.prog 99 #[.agg #[.slice A H.length c], .slice Al l.length cl] w (OutG1 w H.length (rwE H l)) := by
  obtain ⟨W0, hW0⟩ : ∃ W0, (w.alloc (.cells #[.slice A H.length c] 24)).alloc (.cells #[.int .i64 0, .slice none 0 0] 77) = W0 := ⟨_, rfl⟩
  have hB := below_two hW0
  have k0 := Blk.two1 hW0
  have k1 := Blk.two2 hW0
  have hs0 := size_two hW0
  have hrh := rightC_hist hr
  have h32 : H.length ≤ 32 := ((rightH_iff H).1 hrh).1
  have hll := rightC_len hr
  have hcn := hide (fun x hx => choice_nat hr (x := x) hx)
  have hrl := hide (fun i (hi : i < H.length) => (hn.2 _ (List.getElem_mem hi)).2)
  have h0 := hide (h.below hB)
  have hl0 := hide (hl.below hB)
  replace hr := hide hr
  replace hn := hide hn
  replace hl := hide hl
  replace h := hide h
  replace hrh := hide hrh
  have c0 := k0.cell 0
  simp only [List.getElem?_toArray, List.getElem?_cons_zero, List.getElem?_cons_succ] at c0
  replace hs0 := hide hs0
  go_enter Tryz.func99, Tryz.ntmps99
  go_wp2_with fail
  clear hW0 c0
  refine (right18_any A c H Al cl l _ h0.out hn.out hl0.out (by omega)).mono ?_
  rintro e w1 ⟨rfl, hb1⟩
  rw [hr.out]
  have hs1 : w.heap.size + 2 ≤ w1.heap.size := by have := hb1.size; have := hs0.out; omega
  replace k0 := k0.below hb1 k0.lt
  replace k1 := k1.below hb1 k1.lt
  have hb2 := hB.trans (hb1.mono hB.size)
  have h1 := hide (h0.out.below hb1)
  clear hb1 hB h0 hl0 hs0
  have c0 := k0.cell 0
  simp only [List.getElem?_toArray, List.getElem?_cons_zero, List.getElem?_cons_succ] at c0
  go_wp2_with fail
  refine (init17_any A c H _ h1.out hn.out hrh.out).mono ?_
  rintro e w2 ⟨g, hgs, rfl, kR, hb3⟩
  replace k0 := k0.below hb3 k0.lt
  replace k1 := k1.below hb3 k1.lt
  replace hb2 := hb2.trans (hb3.mono hb2.size)
  have hs2 : w1.heap.size ≤ w2.heap.size := hb3.size
  obtain ⟨W3, hW3⟩ : ∃ W3, w2.alloc (.cells #[.int .i64 H.length, .slice (some ⟨g, 0, none⟩) H.length H.length] 77) = W3 := ⟨_, rfl⟩
  have k3 := Blk.newEq hW3
  have hs3 := size_allocEq hW3
  replace k0 := k0.allocEq hW3
  replace k1 := k1.allocEq hW3
  replace kR := kR.allocEq hW3
  have hb5 := below_allocEq hb2 hW3 (by omega)
  have hbox : BoxG W3 w2.heap.size (w.heap.size + 2) H.length (rwE H (l.take 0)) := ⟨g, by omega, k3, by rw [List.take_zero, ← rowsB_congr (fun a b _ _ => rwE_nil H a b)]; exact kR⟩
  have hag3 := hide (fun W' (hg : W3.grownBy W' (some w2.heap.size)) => (Agree.below hb5 (K := Old w) (fun b h => h)).trans (Agree.grown hg fun b hb => by have : b < w.heap.size := hb; exact ⟨by omega, by simp; omega⟩))
  replace hs3 := hide hs3
  clear hb3 c0 k3 kR hb2 h1
  go_wp2_with fail
  clear hW3
  go_loopw [19] (fun s19 wr => ∃ k : Nat, k ≤ l.length ∧ s19 = .int .i64 k ∧ BoxG wr w2.heap.size (w.heap.size + 2) H.length (rwE H (l.take k)) ∧ W3.grownBy wr (some w2.heap.size)) (fun s19 _ => l.length - (intOf s19).toNat)
  case atStart => exact ⟨0, Nat.zero_le _, by go_num, hbox, World.grownBy.refl _ _⟩
  case round =>
    clear hbox
    obtain ⟨Wo, rfl⟩ : ∃ Wo, Wo = wr := ⟨_, rfl⟩
    obtain ⟨k, hk, rfl, hbox, hgw⟩ := hrel
    have hi1 : (0 : Int) ≤ (k : Int) := Int.natCast_nonneg _
    by_cases hlt : k < l.length
    · have hi2 : (k : Int) < (l.length : Int) := by omega
      obtain ⟨b, off, rfl, _, d0, d1, d2⟩ := (hl.out.keep (hag3.out Wo hgw) (fun b h => h)).at_ hlt
      obtain ⟨xa, xb, ha, hb, ha2, hb2⟩ := hcn.out _ (List.getElem_mem hlt)
      have hend := hide (fun x y (hx : x < H.length) => rwMid_end H hlt (n := H.length) (y := y) hx)
      have hzero := hide (rwMid_zero H (l.take k) l[k])
      have hyes := hide (fun t (hne : t ≠ xb) => rwMid_yes (H := H) (l := l.take k) (t := t) hb hne)
      have hno := hide (fun t => rwMid_no (H := H) (l := l.take k) (t := t) hb)
      rw [ha] at d1 hyes hno
      rw [hb] at d2
      generalize hx0 : l[k] = x at *
      obtain ⟨key, ya, yb⟩ := x
      dsimp only at *
      clear hx0 ha hb
      obtain ⟨W4, hW4⟩ : ∃ W4, Wo.alloc (.cells #[.int .i64 key, .int .i64 xa, .int .i64 xb] 102) = W4 := ⟨_, rfl⟩
      have kC := Blk.newEq hW4
      have hg4 : W3.grownBy W4 (some w2.heap.size) := by rw [← hW4]; exact grown_trans hgw (World.grownBy_alloc _ _ _)
      have hbox4 : BoxG W4 w2.heap.size (w.heap.size + 2) H.length (rwMid H (l.take k) ⟨key, ya, yb⟩ 0) := by rw [hzero.out, ← hW4]; exact hbox.grown (r := none) (World.grownBy_alloc _ _ _) (fun k e => by cases e)
      have m0 := k0.grown hg4 (by simp; omega)
      have c0 := m0.cell 0
      simp only [List.getElem?_toArray, List.getElem?_cons_zero, List.getElem?_cons_succ] at c0
      have hBgo : w2.heap.size < Wo.heap.size := by have := hbox.lt; exact this
      go_wp2_with fail
      clear d0 d1 d2 c0 hW4 hbox m0
      go_loopw [26] (fun s26 wr => ∃ t : Nat, t ≤ H.length ∧ s26 = .int .i64 t ∧ BoxG wr w2.heap.size (w.heap.size + 2) H.length (rwMid H (l.take k) ⟨key, ya, yb⟩ t) ∧ W4.grownBy wr (some w2.heap.size)) (fun s26 _ => H.length - (intOf s26).toNat)
      case atStart => exact ⟨0, Nat.zero_le _, by go_num, hbox4, World.grownBy.refl _ _⟩
      case round =>
        clear hbox4
        obtain ⟨t, ht, rfl, hbox, hgq⟩ := hrel
        have ht1 : (0 : Int) ≤ (t : Int) := Int.natCast_nonneg _
        have hgq4 := grown_trans hg4 hgq
        by_cases hlt2 : t < H.length
        · have ht2 : (t : Int) < (H.length : Int) := by omega
          have hag := hag3.out wr hgq4
          have hTq := TxnS.keep h.out hag (fun b h => h)
          obtain ⟨bt, ot, Aw, cw, Ar, cr, rfl, hKb, e0, e1, e2, _, hrs⟩ := TxnS.at_ hTq hlt2
          have hrlt := hrl.out t hlt2
          have hyt := hide (fun (hne : t ≠ xb) => hyes.out t hne)
          have hnt := hide (hno.out t)
          rw [txnAt_of hlt2] at hyt hnt
          generalize H[t] = x at *
          obtain ⟨ts, ws, rs⟩ := x
          dsimp only at *
          have kCq := kC.grown hgq (by simp; omega)
          obtain ⟨W5, hW5⟩ : ∃ W5, wr.alloc (.cells #[.int .i64 ts, .slice Aw ws.length cw, .slice Ar rs.length cr] 109) = W5 := ⟨_, rfl⟩
          have hB5 := below_allocEq (Below.refl wr.heap.size wr) hW5 (Nat.le_refl _)
          have kX := Blk.newEq hW5
          have kC5 := kCq.allocEq hW5
          have hg5 : W4.grownBy W5 (some w2.heap.size) := by rw [← hW5]; exact grown_trans hgq (World.grownBy_alloc _ _ _)
          have hbox5 : BoxG W5 w2.heap.size (w.heap.size + 2) H.length (rwMid H (l.take k) ⟨key, ya, yb⟩ t) := by rw [← hW5]; exact hbox.grown (r := none) (World.grownBy_alloc _ _ _) (fun k e => by cases e)
          have hszw : w.heap.size ≤ wr.heap.size := by have := hgq4.size; have := hb5.size; omega
          have hrs5 := hide (hrs.keep (K' := Old W5) (Agree.below hB5 fun b hb => by have : b < w.heap.size := hb; omega) (fun b hb => by have : b < w.heap.size := hb; have := hB5.size; show b < W5.heap.size; omega))
          have x2 := kX.cell 2
          have y0 := kC5.cell 0
          have y1 := kC5.cell 1
          have y2 := kC5.cell 2
          simp only [List.getElem?_toArray, List.getElem?_cons_zero, List.getElem?_cons_succ] at x2 y0 y1 y2
          by_cases q1 : t = xb
          · have q1b : ((t : Int) != (xb : Int)) = false := by simp [q1]
            have q1c : (t != xb) = false := by simp [q1]
            have hst := hide (hnt.out (.inl q1))
            have hboxZ := hbox5
            have hgZ := hg5
            clear q1 hyt hnt hrs
            go_wp2
            go_roundw
            case rel => exact ⟨t + 1, by omega, by go_num, by rw [← hst.out]; exact hboxZ, hgZ⟩
            case measure => simp [intOf]; omega
          · have q1b : ((t : Int) != (xb : Int)) = true := by simp; omega
            have q1c : (t != xb) = true := by simp; omega
            have hyt2 := hide (hyt.out q1)
            clear q1 hyt hrs
            go_wp2_with fail
            clear e0 e1 e2 hW5
            refine (containsT_any Ar cr rs key (xa : Int) _ hrs5.out (by omega)).mono ?_
            rintro e W6 ⟨rfl, hb6⟩
            have hboxZ := hbox5.below hb6
            have hgZ := grown_trans hg5 (grown_below hb6 (Nat.le_refl _))
            have kC6 := kC5.below hb6 kC5.lt
            clear x2 y0 y1 y2 hbox5 hg5
            cases hq : (rs.any fun x => decide (x.a = key) && decide (x.b = (xa : Int))) with
            | false =>
              have hst := hide (hnt.out (.inr hq))
              clear hq hnt hyt2
              go_wp2
              go_roundw
              case rel => exact ⟨t + 1, by omega, by go_num, by rw [← hst.out]; exact hboxZ, hgZ⟩
              case measure => simp [intOf]; omega
            | true =>
              have hst := hide (hyt2.out hq)
              clear hq hnt hyt2
              obtain ⟨g', hg', hgne, hgl, kB, kR, hG⟩ := hboxZ.open (by omega)
              have b0 := kB.cell 0
              have b1 := kB.cell 1
              have y2 := kC6.cell 2
              simp only [List.getElem?_toArray, List.getElem?_cons_zero, List.getElem?_cons_succ] at b0 b1 y2
              go_wp2_with fail
              clear b0 b1 y2
              refine (add12_any H.length (some ⟨g', 0, none⟩) H.length _ t xb hlt2 hb2 (fun b => b = g') _ hG (fun b hb => by subst hb; exact hgl)).mono ?_
              rintro e w7 ⟨g5, hgs5, rfl, kR5, hb5'⟩
              have kB5 := kB.below hb5' kB.lt
              have c0 := kB5.cell 0
              have c1 := kB5.cell 1
              have f0 := kB5.frozen 0
              have f1 := kB5.frozen 1
              simp only [List.getElem?_toArray, List.getElem?_cons_zero, List.getElem?_cons_succ] at c0 c1
              have hBl := kB.lt
              have hszg := (grown_trans hg4 hgZ).size
              go_wp2
              go_roundw
              case rel =>
                refine ⟨t + 1, by omega, by go_num, ⟨g5, by omega, ?_, ?_⟩, grown_trans hgZ (grown_trans (grown_trans (grown_below hb5' (Nat.le_refl _)) (grown_set w2.heap.size 0 _)) (grown_set w2.heap.size 1 _))⟩
                · have := (kB5.set_ 0 (.int .i64 H.length)).set_ 1 (.slice (some ⟨g5, 0, none⟩) H.length H.length)
                  simpa using this
                · rw [← hst.out]
                  exact (kR5.far (p := ⟨w2.heap.size, 0, none⟩) (by simp; omega) _).far (p := ⟨w2.heap.size, 1, none⟩) (by simp; omega) _
              case measure => simp [intOf]; omega
        · obtain rfl : t = H.length := by omega
          go_wp2
          go_roundw
          case rel => exact ⟨k + 1, by omega, by go_num, hbox.congr fun x y hx _ => hend.out x y hx, hgq4⟩
          case measure => simp [intOf]; omega
    · obtain rfl : k = l.length := by omega
      rw [List.take_length] at hbox
      obtain ⟨g', hg', hgne, hgl, kB, kR, hG⟩ := hbox.open (by omega)
      have k14 := k1.grown hgw (by simp; omega)
      have hb4 := below_grown hb5 hgw hb5.size (by intro k hk; injection hk with hk; omega)
      have c0 := kB.cell 0
      have c1 := kB.cell 1
      have j0 := k14.cell 0
      have j1 := k14.cell 1
      have jf := k14.frozen 0
      have jf1 := k14.frozen 1
      simp only [List.getElem?_toArray, List.getElem?_cons_zero, List.getElem?_cons_succ] at c0 c1 j0 j1
      have n1 : g' ≠ w.heap.size + 1 := by omega
      go_wp2
      have kF0 := ((kR.far (p := ⟨w.heap.size + 1, 0, none⟩) n1 (.int .i64 H.length)).far (p := ⟨w.heap.size + 1, 1, none⟩) n1 (.slice (some ⟨g', 0, none⟩) H.length H.length))
      have hF := ((hb4.setCell (p := ⟨w.heap.size + 1, 0, none⟩) (by simp) (.int .i64 H.length)).setCell (p := ⟨w.heap.size + 1, 1, none⟩) (by simp) (.slice (some ⟨g', 0, none⟩) H.length H.length))
      exact bodyPost_ret (v := .agg #[.int .i64 H.length, .slice (some ⟨g', 0, none⟩) H.length H.length]) (by simp [results, Tryz.results99, go_sem, j0, j1]) rfl ⟨g', by omega, rfl, kF0, hF⟩
end Go.Proofs.YtfhnamomiaekdaaGreatDoor
