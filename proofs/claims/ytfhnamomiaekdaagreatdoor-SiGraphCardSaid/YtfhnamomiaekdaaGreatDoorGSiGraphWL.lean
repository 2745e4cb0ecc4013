/-
  Walks: layer 17: edges laid into a graph.
-/
import Derived.Test.YtfhnamomiaekdaaGreatDoorGSiGraphWK
import Derived.Test.YtfhnamomiaekdaaGreatDoorG06
import Derived.Test.YtfhnamomiaekdaaGreatDoorGSiGraphWJ
import Derived.Test.YtfhnamomiaekdaaGreatDoorG07
import Derived.Test.YtfhnamomiaekdaaGreatDoorG08
set_option linter.unusedVariables false
set_option linter.unusedSimpArgs false
namespace Go.Proofs.YtfhnamomiaekdaaGreatDoor
open Go.RowKit Go.Inq
set_option maxHeartbeats 4000000
attribute [local go_sem ↓] Go.wp_at_zero Go.wp_at_succ

/-- A variable that holds a graph, whose rows are a block of the call's own. -/
def BoxG (W : World) (Bg base n : Nat) (E : Edges) : Prop :=
  ∃ g, base ≤ g ∧ Blk W Bg 77 #[.int .i64 n, .slice (some ⟨g, 0, none⟩) n n] ∧ Blk W g 172 (rowsB n E)
theorem BoxG.congr {W : World} {Bg base n : Nat} {E F : Edges} (h : BoxG W Bg base n E) (hE : ∀ a b, a < n → b < n → E a b = F a b) : BoxG W Bg base n F := by
  obtain ⟨g, h1, h2, h3⟩ := h
  exact ⟨g, h1, h2, by rw [← rowsB_congr hE]; exact h3⟩
theorem BoxG.grown {W W' : World} {Bg base n : Nat} {E : Edges} {r : Option Nat} (h : BoxG W Bg base n E) (hg : W.grownBy W' r) (hr : ∀ k, r = some k → k ≠ Bg ∧ k < base) : BoxG W' Bg base n E := by
  obtain ⟨g, h1, h2, h3⟩ := h
  exact ⟨g, h1, h2.grown hg (fun e => (hr Bg e.symm).1 rfl), h3.grown hg (fun e => by have := (hr g e.symm).2; omega)⟩
theorem BoxG.below {W W' : World} {Bg base n : Nat} {E : Edges} (h : BoxG W Bg base n E) (hb : Below W.heap.size W W') : BoxG W' Bg base n E := h.grown (r := none) (grown_below hb (Nat.le_refl _)) (fun k e => by cases e)
theorem BoxG.lt {W : World} {Bg base n : Nat} {E : Edges} (h : BoxG W Bg base n E) : Bg < W.heap.size := by
  obtain ⟨g, h1, h2, h3⟩ := h
  exact h2.lt
/-- A graph with one edge more, if it is one. -/
def addE (E : Edges) (a b : Int) : Edges := if 0 ≤ a ∧ a ≠ b then orE E (oneE a.toNat b.toNat) else E
set_option maxRecDepth 100000 in
theorem edge17_any (n : Nat) (hn : n ≤ 64) (E : Edges) (a b : Int) (ha : a < n) (hb0 : 0 ≤ b) (hb : b < n) (Bg base : Nat) (w : World) (h : BoxG w Bg base n E) (hbase : base ≤ w.heap.size) :
    Calls Tryz.prog 258 #[.int .i64 a, .int .i64 b, .pointer (some ⟨Bg, 0, none⟩)] w fun e w' => e = .returned (.tuple #[]) ∧ BoxG w' Bg base n (addE E a b) ∧ w.grownBy w' (some Bg) := by
  by_cases h0 : 0 ≤ a
  · by_cases hne : a = b
    · have hE : addE E a b = E := by unfold addE; rw [if_neg (by omega)]
      rw [hE]
      have h0b : decide (a ≥ 0) = true := by simpa using h0
      have h1b : (a != b) = false := by simpa using hne
      clear hne hE
      go_enter Tryz.func258, Tryz.ntmps258
      go_wp2
      go_end0
      exact ⟨rfl, h, World.grownBy.refl _ _⟩
    · have hE : addE E a b = orE E (oneE a.toNat b.toNat) := by unfold addE; rw [if_pos ⟨h0, hne⟩]
      rw [hE]
      obtain ⟨x, rfl⟩ : ∃ x : Nat, a = x := ⟨a.toNat, by omega⟩
      obtain ⟨y, rfl⟩ : ∃ y : Nat, b = y := ⟨b.toNat, by omega⟩
      simp only [Int.toNat_natCast]
      have h0b : decide ((x : Int) ≥ 0) = true := by simp
      have h1b : ((x : Int) != (y : Int)) = true := by simpa using hne
      have h1c : (x != y) = true := by simp; omega
      have hx : x < n := by omega
      have hy : y < n := by omega
      obtain ⟨g, hg, k0, kR⟩ := h
      have hgne : g ≠ Bg := by
        rintro rfl
        have := k0.symm.trans kR
        simp at this
      clear hne hE h0
      have c0 := k0.cell 0
      have c1 := k0.cell 1
      simp only [List.getElem?_toArray, List.getElem?_cons_zero, List.getElem?_cons_succ] at c0 c1
      have hG : GrS w (fun b => b = g) n (some ⟨g, 0, none⟩) n E := GrS.of_blk kR rfl hn
      have hgl := kR.lt
      go_enter Tryz.func258, Tryz.ntmps258
      go_wp2_with fail
      refine (add12_any n (some ⟨g, 0, none⟩) n E x y hx hy (fun b => b = g) _ hG (fun b hb => by subst hb; exact hgl)).mono ?_
      rintro e w1 ⟨g', hgs, rfl, kR', hb1⟩
      clear c0 c1
      have k1 := k0.below hb1 k0.lt
      have c0 := k1.cell 0
      have c1 := k1.cell 1
      have f0 := k1.frozen 0
      have f1 := k1.frozen 1
      simp only [List.getElem?_toArray, List.getElem?_cons_zero, List.getElem?_cons_succ] at c0 c1
      have hBl := k0.lt
      go_wp2
      go_end0
      refine ⟨rfl, ⟨g', by omega, ?_, ?_⟩, grown_trans (grown_trans (grown_below hb1 (Nat.le_refl _)) (grown_set Bg 0 _)) (grown_set Bg 1 _)⟩
      · have := (k1.set_ 0 (.int .i64 n)).set_ 1 (.slice (some ⟨g', 0, none⟩) n n)
        simpa using this
      · exact (kR'.far (p := ⟨Bg, 0, none⟩) (by simp; omega) _).far (p := ⟨Bg, 1, none⟩) (by simp; omega) _
  · have hE : addE E a b = E := by unfold addE; rw [if_neg (by omega)]
    rw [hE]
    have h0b : decide (a ≥ 0) = false := by simpa using h0
    clear h0 hE
    go_enter Tryz.func258, Tryz.ntmps258
    go_wp2
    go_end0
    exact ⟨rfl, h, World.grownBy.refl _ _⟩
/-- What tells a graph alone. -/
def OutG1 (w : World) (n : Nat) (E : Edges) (e : Ending) (w' : World) : Prop :=
  ∃ g, w.heap.size ≤ g ∧ e = .returned (.agg #[.int .i64 n, .slice (some ⟨g, 0, none⟩) n n]) ∧ Blk w' g 172 (rowsB n E) ∧ Below w.heap.size w w'
theorem OutG1.congr {w w' : World} {n : Nat} {E F : Edges} {e : Ending} (h : OutG1 w n E e w') (hE : ∀ a b, a < n → b < n → E a b = F a b) : OutG1 w n F e w' := by
  unfold OutG1 at h ⊢
  rw [← rowsB_congr hE]; exact h
set_option maxRecDepth 100000 in
theorem laid17_any (f : Nat) (hf : ∀ args w, (callFunc f args).run Tryz.prog w = .ok (.enter f args) w) (lb : Array Value) (A : Option Addr) (c : Nat) (H : List Txn) (E : Edges) (w : World) (h : TxnS w (Old w) (.slice A H.length c) H) (hn : SmallH H) (hr : rightH H = true)
    (hlay : ∀ (W : World) (Bg : Nat), Below w.heap.size w W → BoxG W Bg w.heap.size H.length noE → w.heap.size < Bg →
      Calls Tryz.prog f (#[.func (.func 258) #[] #[.pointer (some ⟨Bg, 0, none⟩)]] ++ lb) W fun e W' => e = .returned (.tuple #[]) ∧ BoxG W' Bg w.heap.size H.length E ∧ W.grownBy W' (some Bg)) :
    Calls Tryz.prog 222 #[.agg #[.slice A H.length c], .func (.func f) #[] lb] w (OutG1 w H.length E) := by
  obtain ⟨W0, hW0⟩ : ∃ W0, (w.alloc (.cells #[.slice A H.length c] 24)).alloc (.cells #[.int .i64 0, .slice none 0 0] 77) = W0 := ⟨_, rfl⟩
  have hB := below_two hW0
  have k0 := Blk.two1 hW0
  have k1 := Blk.two2 hW0
  have h0 := hide (h.below hB)
  have h32 : H.length ≤ 32 := ((rightH_iff H).1 hr).1
  have hs0 := size_two hW0
  replace hn := hide hn
  replace hr := hide hr
  replace hlay := hide hlay
  clear h
  have c0 := k0.cell 0
  simp only [List.getElem?_toArray, List.getElem?_cons_zero, List.getElem?_cons_succ] at c0
  replace hs0 := hide hs0
  go_enter Tryz.func222, Tryz.ntmps222
  go_wp2_with fail
  clear hW0 c0
  refine (right8_any A c H _ h0.out hn.out).mono ?_
  rintro e w1 ⟨rfl, hb1⟩
  rw [hr.out]
  have hs1 : w.heap.size + 2 ≤ w1.heap.size := by have := hb1.size; have := hs0.out; omega
  replace k0 := k0.below hb1 k0.lt
  replace k1 := k1.below hb1 k1.lt
  have hb2 := hB.trans (hb1.mono hB.size)
  clear hb1 hB h0 hs0
  have c0 := k0.cell 0
  simp only [List.getElem?_toArray, List.getElem?_cons_zero, List.getElem?_cons_succ] at c0
  go_wp2_with fail
  refine (new12_any H.length (by omega) _).mono ?_
  rintro e w2 ⟨g, hgs, rfl, kR, hb3⟩
  replace k1 := k1.below hb3 k1.lt
  replace hb2 := hb2.trans (hb3.mono hb2.size)
  have hs2 : w1.heap.size ≤ w2.heap.size := hb3.size
  obtain ⟨W3, hW3⟩ : ∃ W3, w2.alloc (.cells #[.int .i64 H.length, .slice (some ⟨g, 0, none⟩) H.length H.length] 77) = W3 := ⟨_, rfl⟩
  have k3 := Blk.newEq hW3
  have hs3 := size_allocEq hW3
  replace k1 := k1.allocEq hW3
  replace kR := kR.allocEq hW3
  have hb5 := below_allocEq hb2 hW3 (by omega)
  have hbox : BoxG W3 w2.heap.size w.heap.size H.length noE := ⟨g, by omega, k3, kR⟩
  have hcall := hide (hlay.out W3 w2.heap.size hb5 hbox (by omega))
  replace hs3 := hide hs3
  clear hb3 c0 k0 k3 kR hb2 hbox
  go_wp2_with fail
  refine hcall.out.mono ?_
  rintro e w4 ⟨rfl, ⟨g', hg', kB, kR⟩, hg4⟩
  have hgne : g' ≠ w.heap.size + 1 := by
    rintro rfl
    have := (k1.grown hg4 (by simp; omega)).symm.trans kR
    simp at this
  have k14 := k1.grown hg4 (by simp; omega)
  have hb4 := below_grown hb5 hg4 hb5.size (by intro k hk; injection hk with hk; omega)
  have c0 := kB.cell 0
  have c1 := kB.cell 1
  have j0 := k14.cell 0
  have j1 := k14.cell 1
  have jf := k14.frozen 0
  have jf1 := k14.frozen 1
  simp only [List.getElem?_toArray, List.getElem?_cons_zero, List.getElem?_cons_succ] at c0 c1 j0 j1
  clear hcall hW3
  go_wp2
  have kF0 := ((kR.far (p := ⟨w.heap.size + 1, 0, none⟩) hgne (.int .i64 H.length)).far (p := ⟨w.heap.size + 1, 1, none⟩) hgne (.slice (some ⟨g', 0, none⟩) H.length H.length))
  have hF := ((hb4.setCell (p := ⟨w.heap.size + 1, 0, none⟩) (by simp) (.int .i64 H.length)).setCell (p := ⟨w.heap.size + 1, 1, none⟩) (by simp) (.slice (some ⟨g', 0, none⟩) H.length H.length))
  exact bodyPost_ret (v := .agg #[.int .i64 H.length, .slice (some ⟨g', 0, none⟩) H.length H.length]) (by simp [results, Tryz.results222, go_sem, j0, j1]) rfl ⟨g', hg', rfl, kF0, hF⟩
end Go.Proofs.YtfhnamomiaekdaaGreatDoor

namespace Go.Proofs.YtfhnamomiaekdaaGreatDoor
open Go.RowKit Go.Inq
set_option maxHeartbeats 4000000
attribute [local go_sem ↓] Go.wp_at_zero Go.wp_at_succ

set_option maxRecDepth 100000 in
theorem all18_any (n : Nat) (A A' : Option Addr) (c c' : Nat) (E F : Edges) (gs : Nat) (w : World) (h : GrS w (Old w) n A c E) (h' : GrS w (Old w) n A' c' F) (hgs : Blk w gs 77 #[.int .i64 n, .slice A' n c']) :
    Calls Tryz.prog 96 #[.agg #[.int .i64 n, .slice A n c], .slice (some ⟨gs, 0, none⟩) 1 1] w (OutG1 w n (orE E F)) := by
  obtain ⟨W0, hW0⟩ : ∃ W0, (w.alloc (.cells #[.int .i64 n, .slice A n c] 77)).alloc (.cells #[.int .i64 0, .slice none 0 0] 77) = W0 := ⟨_, rfl⟩
  have hB := below_two hW0
  have k0 := Blk.two1 hW0
  have k1 := Blk.two2 hW0
  have hs0 := size_two hW0
  have hn := h.n64
  have hgl := hgs.lt
  replace h := hide (h.below hB)
  replace h' := hide (h'.below hB)
  have m0 := hgs.below hB hgs.lt
  clear hgs
  replace hs0 := hide hs0
  go_enter Tryz.func96, Tryz.ntmps96
  go_wp2_with fail
  clear hW0
  go_loopw [9] (fun s9 wr => ∃ k : Nat, s9 = .int .i64 k ∧ ((k = 0 ∧ Blk wr w.heap.size 77 #[.int .i64 n, .slice A n c] ∧ GrS wr (Old wr) n A c E ∧ GrS wr (Old wr) n A' c' F ∧ Blk wr gs 77 #[.int .i64 n, .slice A' n c'] ∧ w.heap.size + 2 ≤ wr.heap.size) ∨ (k = 1 ∧ ∃ g, w.heap.size + 2 ≤ g ∧ Blk wr w.heap.size 77 #[.int .i64 n, .slice (some ⟨g, 0, none⟩) n n] ∧ Blk wr g 172 (rowsB n (orE E F)))) ∧ Blk wr (w.heap.size + 1) 77 #[.int .i64 0, .slice none 0 0] ∧ Below w.heap.size w wr) (fun s9 _ => 1 - (intOf s9).toNat)
  case atStart => exact ⟨0, by go_num, .inl ⟨rfl, k0, h.out, h'.out, m0, by have := hs0.out; omega⟩, k1, hB⟩
  case round =>
    clear k0 k1 h h' m0 hB hs0
    obtain ⟨k, rfl, hcase, k1, hb⟩ := hrel
    rcases hcase with ⟨rfl, k0, h, h', m0, hsz⟩ | ⟨rfl, g, hg, k0, kR⟩
    · have d0 := m0.cell 0
      have d1 := m0.cell 1
      simp only [List.getElem?_toArray, List.getElem?_cons_zero, List.getElem?_cons_succ] at d0 d1
      obtain ⟨W1, hW1⟩ : ∃ W1, wr.alloc (.cells #[.int .i64 n, .slice A' n c'] 77) = W1 := ⟨_, rfl⟩
      have hB1 := below_allocEq (Below.refl wr.heap.size wr) hW1 (Nat.le_refl _)
      have kM := Blk.newEq hW1
      have ha := hide (h.below hB1)
      have hb' := hide (h'.below hB1)
      have k01 := k0.below hB1 k0.lt
      have k11 := k1.below hB1 k1.lt
      have hb2 := hb.trans (hB1.mono hb.size)
      have hsz1 := size_allocEq hW1
      have a0 := k01.cell 0
      have a1 := k01.cell 1
      have e0 := kM.cell 0
      have e1 := kM.cell 1
      simp only [List.getElem?_toArray, List.getElem?_cons_zero, List.getElem?_cons_succ] at a0 a1 e0 e1
      clear h h' k0 k1 hb m0 hB1
      replace hsz1 := hide hsz1
      go_wp2_with fail
      clear d0 d1 e0 e1 a0 a1 hW1
      refine (union12_any n A A' c c' E F (Old W1) _ ha.out hb'.out (fun b hb => hb)).mono ?_
      rintro e W2 ⟨g, hg, rfl, kR, hb3⟩
      have k02 := k01.below hb3 k01.lt
      have k12 := k11.below hb3 k11.lt
      have hb4 := hb2.trans (hb3.mono hb2.size)
      have c0 := k02.cell 0
      have c1 := k02.cell 1
      have f0 := k02.frozen 0
      have f1 := k02.frozen 1
      simp only [List.getElem?_toArray, List.getElem?_cons_zero, List.getElem?_cons_succ] at c0 c1
      have hg2 : w.heap.size + 2 ≤ g := by have := hsz1.out; omega
      have n1 : g ≠ w.heap.size := by omega
      have n2 : w.heap.size + 1 ≠ w.heap.size := by omega
      go_wp2
      go_roundw
      case rel =>
        refine ⟨1, by go_num, .inr ⟨rfl, g, hg2, ?_, (kR.far (p := ⟨w.heap.size, 0, none⟩) n1 _).far (p := ⟨w.heap.size, 1, none⟩) n1 _⟩, (k12.far (p := ⟨w.heap.size, 0, none⟩) n2 _).far (p := ⟨w.heap.size, 1, none⟩) n2 _, (hb4.setCell (p := ⟨w.heap.size, 0, none⟩) (by simp) _).setCell (p := ⟨w.heap.size, 1, none⟩) (by simp) _⟩
        have := (k02.set_ 0 (.int .i64 n)).set_ 1 (.slice (some ⟨g, 0, none⟩) n n)
        simpa using this
      case measure => simp [intOf]
    · have c0 := k0.cell 0
      have c1 := k0.cell 1
      have j0 := k1.cell 0
      have j1 := k1.cell 1
      have jf := k1.frozen 0
      have jf1 := k1.frozen 1
      simp only [List.getElem?_toArray, List.getElem?_cons_zero, List.getElem?_cons_succ] at c0 c1 j0 j1
      have n1 : g ≠ w.heap.size + 1 := by omega
      go_wp2
      exact bodyPost_ret (v := .agg #[.int .i64 n, .slice (some ⟨g, 0, none⟩) n n]) (by simp [results, Tryz.results96, go_sem, j0, j1]) rfl ⟨g, by omega, rfl, (kR.far (p := ⟨w.heap.size + 1, 0, none⟩) n1 _).far (p := ⟨w.heap.size + 1, 1, none⟩) n1 _, (hb.setCell (p := ⟨w.heap.size + 1, 0, none⟩) (by simp) _).setCell (p := ⟨w.heap.size + 1, 1, none⟩) (by simp) _⟩
end Go.Proofs.YtfhnamomiaekdaaGreatDoor

namespace Go.Proofs.YtfhnamomiaekdaaGreatDoor
open Go.RowKit Go.Inq
set_option maxHeartbeats 4000000
attribute [local go_sem ↓] Go.wp_at_zero Go.wp_at_succ

theorem wwE_step {l : List Cho} {k : Nat} (hk : k < l.length) {a b : Nat} (ha : l[k].a = a) (hb : l[k].b = b) : orE (wwE (l.take k)) (oneE a b) = wwE (l.take (k + 1)) := by
  funext x y
  unfold orE wwE oneE
  rw [take_snoc' hk, List.any_append]
  simp only [List.any_cons, List.any_nil, Bool.or_false, ha, hb]
  congr 1
  rw [Bool.eq_iff_iff]
  simp
  omega
theorem wwE_nil : wwE [] = noE := by funext x y; simp [wwE, noE]
theorem BoxG.open {W : World} {Bg base n : Nat} {E : Edges} (h : BoxG W Bg base n E) (hn : n ≤ 64) : ∃ g, base ≤ g ∧ g ≠ Bg ∧ g < W.heap.size ∧ Blk W Bg 77 #[.int .i64 n, .slice (some ⟨g, 0, none⟩) n n] ∧ Blk W g 172 (rowsB n E) ∧ GrS W (fun b => b = g) n (some ⟨g, 0, none⟩) n E := by
  obtain ⟨g, h1, h2, h3⟩ := h
  refine ⟨g, h1, ?_, h3.lt, h2, h3, GrS.of_blk h3 rfl hn⟩
  rintro rfl
  have := h2.symm.trans h3
  simp at this
/-- What of a choice may be. -/
theorem choice_nat {H : List Txn} {l : List Cho} (h : rightC H l = true) {x : Cho} (hx : x ∈ l) : ∃ a b : Nat, x.a = a ∧ x.b = b ∧ a < H.length ∧ b < H.length := by
  unfold rightC at h
  rw [Bool.and_eq_true, List.all_eq_true] at h
  obtain ⟨a, b, h1, h2, _, h3, h4, _⟩ := oneB_iff.1 (h.2 x hx)
  exact ⟨a, b, h1, h2, h3, h4⟩
theorem rightC_hist {H : List Txn} {l : List Cho} (h : rightC H l = true) : rightH H = true := by
  unfold rightC at h
  rw [Bool.and_eq_true, Bool.and_eq_true] at h
  exact h.1.1
theorem rightC_len {H : List Txn} {l : List Cho} (h : rightC H l = true) : l.length ≤ 20000 := by
  unfold rightC at h
  rw [Bool.and_eq_true, Bool.and_eq_true] at h
  exact of_decide_eq_true h.1.2
set_option maxRecDepth 100000 in
theorem ww18_any (A : Option Addr) (c : Nat) (H : List Txn) (Al : Option Addr) (cl : Nat) (l : List Cho) (w : World) (h : TxnS w (Old w) (.slice A H.length c) H) (hn : SmallH H) (hl : ChoS w (Old w) (.slice Al l.length cl) l) (hr : rightC H l = true) :
    Calls Tryz.prog 98 #[.agg #[.slice A H.length c], .slice Al l.length cl] w (OutG1 w H.length (wwE l)) := by
  obtain ⟨W0, hW0⟩ : ∃ W0, (w.alloc (.cells #[.slice A H.length c] 24)).alloc (.cells #[.int .i64 0, .slice none 0 0] 77) = W0 := ⟨_, rfl⟩
  have hB := below_two hW0
  have k0 := Blk.two1 hW0
  have k1 := Blk.two2 hW0
  have hs0 := size_two hW0
  have h32 : H.length ≤ 32 := ((rightH_iff H).1 (rightC_hist hr)).1
  have hll := rightC_len hr
  have hcn := hide (fun x hx => choice_nat hr (x := x) hx)
  have h0 := hide (h.below hB)
  have hl0 := hide (hl.below hB)
  replace hr := hide hr
  replace hn := hide hn
  replace hl := hide hl
  clear h
  have c0 := k0.cell 0
  simp only [List.getElem?_toArray, List.getElem?_cons_zero, List.getElem?_cons_succ] at c0
  replace hs0 := hide hs0
  go_enter Tryz.func98, Tryz.ntmps98
  go_wp2_with fail
  clear hW0 c0
  refine (right18_any A c H Al cl l _ h0.out hn.out hl0.out (by omega)).mono ?_
  rintro e w1 ⟨rfl, hb1⟩
  rw [hr.out]
  have hs1 : w.heap.size + 2 ≤ w1.heap.size := by have := hb1.size; have := hs0.out; omega
  replace k0 := k0.below hb1 k0.lt
  replace k1 := k1.below hb1 k1.lt
  have hb2 := hB.trans (hb1.mono hB.size)
  clear hb1 hB h0 hl0 hs0
  have c0 := k0.cell 0
  simp only [List.getElem?_toArray, List.getElem?_cons_zero, List.getElem?_cons_succ] at c0
  go_wp2_with fail
  refine (new12_any H.length (by omega) _).mono ?_
  rintro e w2 ⟨g, hgs, rfl, kR, hb3⟩
  replace k1 := k1.below hb3 k1.lt
  replace hb2 := hb2.trans (hb3.mono hb2.size)
  have hs2 : w1.heap.size ≤ w2.heap.size := hb3.size
  obtain ⟨W3, hW3⟩ : ∃ W3, w2.alloc (.cells #[.int .i64 H.length, .slice (some ⟨g, 0, none⟩) H.length H.length] 77) = W3 := ⟨_, rfl⟩
  have k3 := Blk.newEq hW3
  have hs3 := size_allocEq hW3
  replace k1 := k1.allocEq hW3
  replace kR := kR.allocEq hW3
  have hb5 := below_allocEq hb2 hW3 (by omega)
  have hbox : BoxG W3 w2.heap.size (w.heap.size + 2) H.length (wwE (l.take 0)) := ⟨g, by omega, k3, by rw [List.take_zero, wwE_nil]; exact kR⟩
  have hl3 := hide (fun W' (hg : W3.grownBy W' (some w2.heap.size)) => hl.out.keep (K' := Old w) ((Agree.below hb5 (fun b h => h)).trans (Agree.grown hg fun b hb => by have : b < w.heap.size := hb; exact ⟨by omega, by simp; omega⟩)) (fun b h => h))
  replace hs3 := hide hs3
  clear hb3 c0 k0 k3 kR hb2
  go_wp2_with fail
  clear hW3
  go_loopw [23] (fun s23 wr => ∃ k : Nat, k ≤ l.length ∧ s23 = .int .i64 k ∧ BoxG wr w2.heap.size (w.heap.size + 2) H.length (wwE (l.take k)) ∧ W3.grownBy wr (some w2.heap.size)) (fun s23 _ => l.length - (intOf s23).toNat)
  case atStart => exact ⟨0, Nat.zero_le _, by go_num, hbox, World.grownBy.refl _ _⟩
  case round =>
    clear hbox
    obtain ⟨k, hk, rfl, hbox, hgw⟩ := hrel
    have hi1 : (0 : Int) ≤ (k : Int) := Int.natCast_nonneg _
    by_cases hlt : k < l.length
    · have hi2 : (k : Int) < (l.length : Int) := by omega
      obtain ⟨b, off, rfl, _, d0, d1, d2⟩ := (hl3.out wr hgw).at_ hlt
      obtain ⟨xa, xb, ha, hb, ha2, hb2⟩ := hcn.out _ (List.getElem_mem hlt)
      have hst := hide (wwE_step hlt ha hb)
      rw [ha] at d1
      rw [hb] at d2
      generalize l[k] = x at *
      obtain ⟨key, ya, yb⟩ := x
      dsimp only at *
      clear ha hb
      obtain ⟨W4, hW4⟩ : ∃ W4, wr.alloc (.cells #[.int .i64 key, .int .i64 xa, .int .i64 xb] 102) = W4 := ⟨_, rfl⟩
      have kC := Blk.newEq hW4
      have hg4 : W3.grownBy W4 (some w2.heap.size) := by rw [← hW4]; exact grown_trans hgw (World.grownBy_alloc _ _ _)
      have hbox4 : BoxG W4 w2.heap.size (w.heap.size + 2) H.length (wwE (l.take k)) := by rw [← hW4]; exact hbox.grown (r := none) (World.grownBy_alloc _ _ _) (fun k e => by cases e)
      obtain ⟨g', hg', hgne, hgl, kB, kR, hG⟩ := hbox4.open (by omega)
      have b0 := kB.cell 0
      have b1 := kB.cell 1
      have e1 := kC.cell 1
      have e2 := kC.cell 2
      simp only [List.getElem?_toArray, List.getElem?_cons_zero, List.getElem?_cons_succ] at b0 b1 e1 e2
      go_wp2_with fail
      clear d0 d1 d2 b0 b1 e1 e2 hW4
      refine (add12_any H.length (some ⟨g', 0, none⟩) H.length _ xa xb ha2 hb2 (fun b => b = g') _ hG (fun b hb => by subst hb; exact hgl)).mono ?_
      rintro e w5 ⟨g5, hgs5, rfl, kR5, hb5'⟩
      have kB5 := kB.below hb5' kB.lt
      have c0 := kB5.cell 0
      have c1 := kB5.cell 1
      have f0 := kB5.frozen 0
      have f1 := kB5.frozen 1
      simp only [List.getElem?_toArray, List.getElem?_cons_zero, List.getElem?_cons_succ] at c0 c1
      have hBl := kB.lt
      have hszg := hg4.size
      go_wp2
      go_roundw
      case rel =>
        refine ⟨k + 1, by omega, by go_num, ⟨g5, by omega, ?_, ?_⟩, grown_trans hg4 (grown_trans (grown_trans (grown_below hb5' (Nat.le_refl _)) (grown_set w2.heap.size 0 _)) (grown_set w2.heap.size 1 _))⟩
        · have := (kB5.set_ 0 (.int .i64 H.length)).set_ 1 (.slice (some ⟨g5, 0, none⟩) H.length H.length)
          simpa using this
        · rw [← hst.out]
          exact (kR5.far (p := ⟨w2.heap.size, 0, none⟩) (by simp; omega) _).far (p := ⟨w2.heap.size, 1, none⟩) (by simp; omega) _
      case measure => simp [intOf]; omega
    · obtain rfl : k = l.length := by omega
      rw [List.take_length] at hbox
      obtain ⟨g', hg', hgne, hgl, kB, kR, hG⟩ := hbox.open (by omega)
      have k14 := k1.grown hgw (by simp; omega)
      have hb4 := below_grown hb5 hgw hb5.size (by intro k hk; injection hk with hk; omega)
      have c0 := kB.cell 0
      have c1 := kB.cell 1
      have j0 := k14.cell 0
      have j1 := k14.cell 1
      have jf := k14.frozen 0
      have jf1 := k14.frozen 1
      simp only [List.getElem?_toArray, List.getElem?_cons_zero, List.getElem?_cons_succ] at c0 c1 j0 j1
      have n1 : g' ≠ w.heap.size + 1 := by omega
      go_wp2
      have kF0 := ((kR.far (p := ⟨w.heap.size + 1, 0, none⟩) n1 (.int .i64 H.length)).far (p := ⟨w.heap.size + 1, 1, none⟩) n1 (.slice (some ⟨g', 0, none⟩) H.length H.length))
      have hF := ((hb4.setCell (p := ⟨w.heap.size + 1, 0, none⟩) (by simp) (.int .i64 H.length)).setCell (p := ⟨w.heap.size + 1, 1, none⟩) (by simp) (.slice (some ⟨g', 0, none⟩) H.length H.length))
      exact bodyPost_ret (v := .agg #[.int .i64 H.length, .slice (some ⟨g', 0, none⟩) H.length H.length]) (by simp [results, Tryz.results98, go_sem, j0, j1]) rfl ⟨g', by omega, rfl, kF0, hF⟩
end Go.Proofs.YtfhnamomiaekdaaGreatDoor

namespace Go.Proofs.YtfhnamomiaekdaaGreatDoor
open Go.RowKit Go.Inq
set_option maxHeartbeats 4000000
attribute [local go_sem ↓] Go.wp_at_zero Go.wp_at_succ

/-- As far as it is laid. -/
def soMid (H : List Txn) (b a : Nat) : Edges := fun x y => soE H x y && (decide (y < b) || (decide (y = b) && decide (x < a)))
theorem soMid_start (H : List Txn) (x y : Nat) : noE x y = soMid H 0 0 x y := by simp [noE, soMid]
theorem soMid_next (H : List Txn) (b x y : Nat) : soMid H b b x y = soMid H (b + 1) 0 x y := by
  unfold soMid soE
  rw [Bool.eq_iff_iff]
  simp
  omega
theorem soMid_all {H : List Txn} {n x y : Nat} (hy : y < n) : soMid H n 0 x y = soE H x y := by simp [soMid, hy]
theorem soMid_yes {H : List Txn} {b a : Nat} (hab : a < b) (hs : (txnAt H a).sess = (txnAt H b).sess) (x y : Nat) : addE (soMid H b a) (a : Int) (b : Int) x y = soMid H b (a + 1) x y := by
  unfold addE
  rw [if_pos ⟨by omega, by omega⟩]
  simp only [Int.toNat_natCast, orE, oneE, soMid]
  by_cases e1 : y = b
  · by_cases e2 : x = a
    · subst e1 e2; simp [soE, hab, hs]
    · have : decide (x < a + 1) = decide (x < a) := by simp; omega
      simp [e2, this]
  · simp [e1]
theorem soMid_no {H : List Txn} {b a : Nat} (hs : (txnAt H a).sess ≠ (txnAt H b).sess) (x y : Nat) : soMid H b a x y = soMid H b (a + 1) x y := by
  unfold soMid
  by_cases e1 : y = b
  · by_cases e2 : x = a
    · subst e1 e2; simp [soE, hs]
    · have : decide (x < a + 1) = decide (x < a) := by simp; omega
      simp [this]
  · simp [e1]
set_option maxRecDepth 100000 in
theorem so1_any (A : Option Addr) (c : Nat) (H : List Txn) (h32 : H.length ≤ 32) (Bh Bg base : Nat) (K : Nat → Prop) (w : World) (hT : TxnS w K (.slice A H.length c) H) (hBh : Blk w Bh 24 #[.slice A H.length c]) (hK : ∀ b, K b → b < base) (hB : Bh < base) (hBg : base ≤ Bg) (hbox : BoxG w Bg base H.length noE) (hbw : base ≤ w.heap.size) :
    Calls Tryz.prog 223 #[.func (.func 258) #[] #[.pointer (some ⟨Bg, 0, none⟩)], .pointer (some ⟨Bh, 0, none⟩)] w fun e w' => e = .returned (.tuple #[]) ∧ BoxG w' Bg base H.length (soE H) ∧ w.grownBy w' (some Bg) := by
  have c0 := hBh.cell 0
  simp only [List.getElem?_toArray, List.getElem?_cons_zero, List.getElem?_cons_succ] at c0
  replace hT := hide hT
  replace hbox := hide (hbox.congr fun a b _ _ => soMid_start H a b)
  have hK0 : Hid (∀ w', w.grownBy w' (some Bg) → Agree K w w') := hide fun w' hg => Agree.ofGrown hg (fun b hb => Nat.lt_of_lt_of_le (hK b hb) hBg) (Nat.le_of_lt hbox.out.lt)
  replace hK := hide hK
  go_enter Tryz.func223, Tryz.ntmps223
  go_wp2_with fail
  clear c0
  go_loopw [10] (fun s10 wr => ∃ b : Nat, b ≤ H.length ∧ s10 = .int .i64 b ∧ BoxG wr Bg base H.length (soMid H b 0) ∧ w.grownBy wr (some Bg)) (fun s10 _ => H.length - (intOf s10).toNat)
  case atStart => exact ⟨0, Nat.zero_le _, by go_num, hbox.out, World.grownBy.refl _ _⟩
  case round =>
    clear hbox
    obtain ⟨Wo, rfl⟩ : ∃ Wo, Wo = wr := ⟨_, rfl⟩
    obtain ⟨b, hb, rfl, hbox, hgw⟩ := hrel
    have hi1 : (0 : Int) ≤ (b : Int) := Int.natCast_nonneg _
    by_cases hlt : b < H.length
    · have hi2 : (b : Int) < (H.length : Int) := by omega
      have hag := hK0.out Wo hgw
      obtain ⟨ba, oa, Aw, cw, Ar, cr, rfl, hKb, d0, d1, d2, _, _⟩ := TxnS.at_ (TxnS.keep hT.out hag (fun b h => h)) hlt
      have hBo := hBh.grown hgw (by simp; omega)
      have hszo := hgw.size
      have hty := hide (txnAt_of hlt)
      generalize hty2 : H[b] = ty at *
      obtain ⟨ys, yw, yr⟩ := ty
      dsimp only at *
      clear hty2
      have hBgl := hbox.lt
      have hsess : Hid ((txnAt H b).sess = ys) := hide (by rw [hty.out])
      obtain ⟨W1, hW1⟩ : ∃ W1, Wo.alloc (.cells #[.int .i64 ys, .slice Aw yw.length cw, .slice Ar yr.length cr] 109) = W1 := ⟨_, rfl⟩
      have kY := Blk.newEq hW1
      have hs1 := size_allocEq hW1
      have hgw1 : w.grownBy W1 (some Bg) := by rw [← hW1]; exact grown_trans hgw (World.grownBy_alloc _ _ _)
      have hbox1 : BoxG W1 Bg base H.length (soMid H b 0) := by rw [← hW1]; exact hbox.grown (r := none) (World.grownBy_alloc _ _ _) (fun k e => by cases e)
      have hB1 := hBo.allocEq hW1
      have b0 := hB1.cell 0
      simp only [List.getElem?_toArray, List.getElem?_cons_zero, List.getElem?_cons_succ] at b0
      have hHc : H.length ≤ c := by
        obtain ⟨_, _, e, h2⟩ := SlR.len hT.out
        injection e with e1 e2 e3
        omega
      have hbc : b ≤ c := by omega
      have hbc2 : (b : Int) ≤ (c : Int) := by omega
      go_wp2_with fail
      clear d0 d1 d2 b0 hbox hgw hBo hag hW1
      go_loopw [20] (fun s20 wq => ∃ a : Nat, a ≤ b ∧ s20 = .int .i64 a ∧ BoxG wq Bg base H.length (soMid H b a) ∧ W1.grownBy wq (some Bg)) (fun s20 _ => b - (intOf s20).toNat)
      case atStart => exact ⟨0, Nat.zero_le _, by go_num, hbox1, World.grownBy.refl _ _⟩
      case round =>
        clear hbox1
        obtain ⟨a, ha, rfl, hbox, hgq⟩ := hrel
        have ha1 : (0 : Int) ≤ (a : Int) := Int.natCast_nonneg _
        have hgq1 := grown_trans hgw1 hgq
        by_cases hlt2 : a < b
        · have ha2 : (a : Int) < (b : Int) := by omega
          have ha3 : (a : Int) < (H.length : Int) := by omega
          have hag := hK0.out _ hgq1
          obtain ⟨_, _, Aw', cw', Ar', cr', e, _, d0, d1, d2, _, _⟩ := TxnS.at_ (i := a) (TxnS.keep hT.out hag (fun b h => h)) (by omega)
          injection e with e
          injection e with e1 e2
          subst e1 e2
          have htx := hide (txnAt_of (H := H) (t := a) (by omega))
          generalize hty2 : H[a] = tx at *
          obtain ⟨xs, xw, xr⟩ := tx
          dsimp only at *
          clear hty2
          have hsx : Hid ((txnAt H a).sess = xs) := hide (by rw [htx.out])
          have kYq := kY.grown hgq (by simp; omega)
          obtain ⟨W2, hW2⟩ : ∃ W2, wr.alloc (.cells #[.int .i64 xs, .slice Aw' xw.length cw', .slice Ar' xr.length cr'] 109) = W2 := ⟨_, rfl⟩
          have kX := Blk.newEq hW2
          have kY2 := kYq.allocEq hW2
          have hgq2 : W1.grownBy W2 (some Bg) := by rw [← hW2]; exact grown_trans hgq (World.grownBy_alloc _ _ _)
          have hbox2 : BoxG W2 Bg base H.length (soMid H b a) := by rw [← hW2]; exact hbox.grown (r := none) (World.grownBy_alloc _ _ _) (fun k e => by cases e)
          have x0 := kX.cell 0
          have y0 := kY2.cell 0
          simp only [List.getElem?_toArray, List.getElem?_cons_zero, List.getElem?_cons_succ] at x0 y0
          have hsz2 : base ≤ W2.heap.size := by have := (grown_trans hgw1 hgq2).size; omega
          by_cases hs : xs = ys
          · have hsb : (xs == ys) = true := by simpa using hs
            have hst := hide (fun x y => soMid_yes (H := H) (b := b) (a := a) hlt2 (by rw [hsx.out, hsess.out]; exact hs) x y)
            clear hs
            go_wp2_with fail
            clear d0 d1 d2 x0 y0 hW2
            refine (edge17_any H.length (by omega) _ (a : Int) (b : Int) ha3 hi1 hi2 Bg base _ hbox2 hsz2).mono ?_
            rintro e w5 ⟨rfl, hbox5, hg5⟩
            go_wp2
            go_roundw
            case rel => exact ⟨a + 1, by omega, by go_num, hbox5.congr fun x y _ _ => hst.out x y, grown_trans hgq2 hg5⟩
            case measure => simp [intOf]; omega
          · have hsb : (xs == ys) = false := by simpa using hs
            have hst := hide (fun x y => soMid_no (H := H) (b := b) (a := a) (by rw [hsx.out, hsess.out]; exact hs) x y)
            clear hs
            go_wp2
            go_roundw
            case rel => exact ⟨a + 1, by omega, by go_num, hbox2.congr fun x y _ _ => hst.out x y, hgq2⟩
            case measure => simp [intOf]; omega
        · obtain rfl : a = b := by omega
          go_wp2
          go_roundw
          case rel => exact ⟨a + 1, by omega, by go_num, hbox.congr fun x y _ _ => soMid_next H a x y, hgq1⟩
          case measure => simp [intOf]; omega
    · obtain rfl : b = H.length := by omega
      go_wp2
      go_end0
      exact ⟨rfl, hbox.congr fun x y _ hy => soMid_all hy, hgw⟩
set_option maxRecDepth 100000 in
theorem so17_any (A : Option Addr) (c : Nat) (H : List Txn) (w : World) (h : TxnS w (Old w) (.slice A H.length c) H) (hn : SmallH H) (hr : rightH H = true) :
    Calls Tryz.prog 164 #[.agg #[.slice A H.length c]] w (OutG1 w H.length (soE H)) := by
  obtain ⟨W0, hW0⟩ : ∃ W0, (w.alloc (.cells #[.slice A H.length c] 24)).alloc (.cells #[.int .i64 0, .slice none 0 0] 77) = W0 := ⟨_, rfl⟩
  have hB := below_two hW0
  have k0 := Blk.two1 hW0
  have k1 := Blk.two2 hW0
  have hs0 := size_two hW0
  have h0 := h.below hB
  have h32 : H.length ≤ 32 := ((rightH_iff H).1 hr).1
  have hcall := hide (laid17_any 223 (enters_of Tryz.func223 (by kernel_rfl) rfl) #[.pointer (some ⟨w.heap.size, 0, none⟩)] A c H (soE H) W0 h0 hn hr (fun W Bg hbW hbox hBg => by
    have hbW' : Below w.heap.size w W := hB.trans (hbW.mono (by omega))
    exact (so1_any A c H h32 w.heap.size Bg W0.heap.size (Old w) W (TxnS.keep h (Agree.below hbW' fun b h => h) (fun b h => h)) (k0.below hbW k0.lt) (fun b hb => by have : b < w.heap.size := hb; omega) (by omega) (by omega) hbox hbW.size).mono fun e w' hh => hh))
  have c0 := k0.cell 0
  simp only [List.getElem?_toArray, List.getElem?_cons_zero, List.getElem?_cons_succ] at c0
  replace hs0 := hide hs0
  go_enter Tryz.func164, Tryz.ntmps164
  go_wp2_with fail
  clear hW0 c0
  refine hcall.out.mono ?_
  rintro e w4 ⟨g, hg, rfl, kR, hb4⟩
  have hgne : g ≠ w.heap.size + 1 := by have := hs0.out; omega
  have k14 := k1.below hb4 k1.lt
  have hb5 := hB.trans (hb4.mono (by have := hs0.out; omega))
  have j0 := k14.cell 0
  have j1 := k14.cell 1
  have jf := k14.frozen 0
  have jf1 := k14.frozen 1
  simp only [List.getElem?_toArray, List.getElem?_cons_zero, List.getElem?_cons_succ] at j0 j1
  have hgw : w.heap.size ≤ g := by have := hs0.out; omega
  clear hcall
  go_wp2
  have kF0 := ((kR.far (p := ⟨w.heap.size + 1, 0, none⟩) hgne (.int .i64 H.length)).far (p := ⟨w.heap.size + 1, 1, none⟩) hgne (.slice (some ⟨g, 0, none⟩) H.length H.length))
  have hF := ((hb5.setCell (p := ⟨w.heap.size + 1, 0, none⟩) (by simp) (.int .i64 H.length)).setCell (p := ⟨w.heap.size + 1, 1, none⟩) (by simp) (.slice (some ⟨g, 0, none⟩) H.length H.length))
  exact bodyPost_ret (v := .agg #[.int .i64 H.length, .slice (some ⟨g, 0, none⟩) H.length H.length]) (by simp [results, Tryz.results164, go_sem, j0, j1]) rfl ⟨g, hgw, rfl, kF0, hF⟩
end Go.Proofs.YtfhnamomiaekdaaGreatDoor

namespace Go.Proofs.YtfhnamomiaekdaaGreatDoor
open Go.RowKit Go.Inq
set_option maxHeartbeats 4000000
attribute [local go_sem ↓] Go.wp_at_zero Go.wp_at_succ

/-- As far as it is laid. -/
def wrMid (H : List Txn) (b j : Nat) : Edges := fun x y => (decide (y < b) && wrE H x y) || (decide (y = b) && decide (x ≠ y) && ((txnAt H b).reads.take j).any fun r => decide (r.b = (x : Int)))
theorem wrMid_start (H : List Txn) (x y : Nat) : noE x y = wrMid H 0 0 x y := by simp [noE, wrMid]
theorem wrMid_next (H : List Txn) (b x y : Nat) : wrMid H b (txnAt H b).reads.length x y = wrMid H (b + 1) 0 x y := by
  unfold wrMid
  rw [List.take_length]
  by_cases e : y = b
  · subst e; simp [wrE]
  · have : decide (y < b + 1) = decide (y < b) := by simp; omega
    simp [e, this]
theorem wrMid_all {H : List Txn} {n x y : Nat} (hy : y < n) : wrMid H n 0 x y = wrE H x y := by simp [wrMid, hy]
theorem wrMid_step {H : List Txn} {b j : Nat} (hj : j < (txnAt H b).reads.length) (x y : Nat) : addE (wrMid H b j) (txnAt H b).reads[j].b (b : Int) x y = wrMid H b (j + 1) x y := by
  have ht : (txnAt H b).reads.take (j + 1) = (txnAt H b).reads.take j ++ [(txnAt H b).reads[j]] := take_snoc' hj
  unfold wrMid
  rw [ht]
  generalize (txnAt H b).reads[j] = r
  generalize (txnAt H b).reads.take j = l
  rw [List.any_append]
  simp only [List.any_cons, List.any_nil, Bool.or_false]
  unfold addE
  split
  · rename_i h
    simp only [orE, oneE, Int.toNat_natCast]
    by_cases e1 : y = b
    · subst e1
      by_cases e2 : x = r.b.toNat
      · have e3 : r.b = (x : Int) := by omega
        have e4 : x ≠ y := by omega
        rw [decide_eq_true e2, decide_eq_true e3, decide_eq_true e4]; simp
      · have e3 : ¬ r.b = (x : Int) := by omega
        simp [e2, e3]
    · simp [e1]
  · rename_i h
    by_cases e1 : y = b
    · subst e1
      by_cases e2 : x = y
      · simp [e2]
      · have e3 : ¬ r.b = (x : Int) := fun e => h ⟨by omega, by omega⟩
        simp [e2, e3]
    · simp [e1]
theorem reads_from {H : List Txn} (hr : rightH H = true) {b : Nat} (hb : b < H.length) : ∀ r ∈ (txnAt H b).reads, r.b < (H.length : Int) := by
  rw [txnAt_of hb]
  intro r h
  rcases (thereB_iff _ _ _).1 ((((rightH_iff H).1 hr).2 b hb).there r h) with e | ⟨k, hk, e, _, _⟩ <;> omega
set_option maxRecDepth 100000 in
theorem wr1_any (A : Option Addr) (c : Nat) (H : List Txn) (hr : rightH H = true) (hn : SmallH H) (Bh Bg base : Nat) (K : Nat → Prop) (w : World) (hT : TxnS w K (.slice A H.length c) H) (hBh : Blk w Bh 24 #[.slice A H.length c]) (hK : ∀ b, K b → b < base) (hB : Bh < base) (hBg : base ≤ Bg) (hbox : BoxG w Bg base H.length noE) (hbw : base ≤ w.heap.size) :
    Calls Tryz.prog 224 #[.func (.func 258) #[] #[.pointer (some ⟨Bg, 0, none⟩)], .pointer (some ⟨Bh, 0, none⟩)] w fun e w' => e = .returned (.tuple #[]) ∧ BoxG w' Bg base H.length (wrE H) ∧ w.grownBy w' (some Bg) := by
  have c0 := hBh.cell 0
  simp only [List.getElem?_toArray, List.getElem?_cons_zero, List.getElem?_cons_succ] at c0
  have h32 : H.length ≤ 32 := ((rightH_iff H).1 hr).1
  have hfr := hide (fun b (hb : b < H.length) => reads_from hr hb)
  have hrl := hide (fun i (hi : i < H.length) => (hn.2 _ (List.getElem_mem hi)).2)
  replace hr := hide hr
  replace hn := hide hn
  replace hT := hide hT
  replace hbox := hide (hbox.congr fun a b _ _ => wrMid_start H a b)
  have hK0 : Hid (∀ w', w.grownBy w' (some Bg) → Agree K w w') := hide fun w' hg => Agree.ofGrown hg (fun b hb => Nat.lt_of_lt_of_le (hK b hb) hBg) (Nat.le_of_lt hbox.out.lt)
  have hKg : Hid (∀ b, K b → b < w.heap.size ∧ b < Bg) := hide fun b hb => by have := hK b hb; omega
  replace hK := hide hK
  go_enter Tryz.func224, Tryz.ntmps224
  go_wp2_with fail
  clear c0
  go_loopw [10] (fun s10 wr => ∃ b : Nat, b ≤ H.length ∧ s10 = .int .i64 b ∧ BoxG wr Bg base H.length (wrMid H b 0) ∧ w.grownBy wr (some Bg)) (fun s10 _ => H.length - (intOf s10).toNat)
  case atStart => exact ⟨0, Nat.zero_le _, by go_num, hbox.out, World.grownBy.refl _ _⟩
  case round =>
    clear hbox
    obtain ⟨Wo, rfl⟩ : ∃ Wo, Wo = wr := ⟨_, rfl⟩
    obtain ⟨b, hb, rfl, hbox, hgw⟩ := hrel
    have hi1 : (0 : Int) ≤ (b : Int) := Int.natCast_nonneg _
    by_cases hlt : b < H.length
    · have hi2 : (b : Int) < (H.length : Int) := by omega
      have hag := hK0.out Wo hgw
      obtain ⟨ba, oa, Aw, cw, Ar, cr, rfl, hKb, d0, d1, d2, _, hrs⟩ := TxnS.at_ (TxnS.keep hT.out hag (fun b h => h)) hlt
      have hszo := hgw.size
      have hty := hide (txnAt_of hlt)
      have hrlb := hrl.out b hlt
      have hfrb := hide (hfr.out b hlt)
      have hstb := hide (fun j hj => wrMid_step (H := H) (b := b) (j := j) hj)
      have hnxt := hide (wrMid_next H b)
      rw [hty.out] at hfrb hstb hnxt
      generalize H[b] = ty at *
      obtain ⟨ys, yw, yr⟩ := ty
      dsimp only at *
      have hBgl := hbox.lt
      obtain ⟨W1, hW1⟩ : ∃ W1, Wo.alloc (.cells #[.int .i64 ys, .slice Aw yw.length cw, .slice Ar yr.length cr] 109) = W1 := ⟨_, rfl⟩
      have kY := Blk.newEq hW1
      have hBg1 : Bg ≤ W1.heap.size := by rw [size_allocEq hW1]; omega
      have hgw1 : w.grownBy W1 (some Bg) := by rw [← hW1]; exact grown_trans hgw (World.grownBy_alloc _ _ _)
      have hbox1 : BoxG W1 Bg base H.length (wrMid H b 0) := by rw [← hW1]; exact hbox.grown (r := none) (World.grownBy_alloc _ _ _) (fun k e => by cases e)
      have y2 := kY.cell 2
      simp only [List.getElem?_toArray, List.getElem?_cons_zero, List.getElem?_cons_succ] at y2
      have hrs1 := hide (hrs.keep (Agree.allocEq hW1 (fun b hb => by have := (hKg.out b hb).1; omega)) (fun b h => h))
      go_wp2_with fail
      clear d0 d1 d2 hbox hgw hag y2 hrs hW1
      go_loopw [18] (fun s18 wq => ∃ j : Nat, j ≤ yr.length ∧ s18 = .int .i64 j ∧ BoxG wq Bg base H.length (wrMid H b j) ∧ W1.grownBy wq (some Bg)) (fun s18 _ => yr.length - (intOf s18).toNat)
      case atStart => exact ⟨0, Nat.zero_le _, by go_num, hbox1, World.grownBy.refl _ _⟩
      case round =>
        clear hbox1
        obtain ⟨j, hj, rfl, hbox, hgq⟩ := hrel
        have ha1 : (0 : Int) ≤ (j : Int) := Int.natCast_nonneg _
        have hgq1 := grown_trans hgw1 hgq
        by_cases hlt2 : j < yr.length
        · have ha2 : (j : Int) < (yr.length : Int) := by omega
          obtain ⟨br, orr, rfl, _, z0, z1⟩ := ItS.at_ (hrs1.out.keep (Agree.ofGrown hgq (fun b hb => (hKg.out b hb).2) hBg1) (fun b h => h)) hlt2
          have hst := hide (hstb.out j hlt2)
          have hfx := hfrb.out _ (List.getElem_mem hlt2)
          generalize yr[j] = x at *
          obtain ⟨xa, xb⟩ := x
          dsimp only at *
          obtain ⟨W2, hW2⟩ : ∃ W2, wr.alloc (.cells #[.int .i64 xa, .int .i64 xb] 106) = W2 := ⟨_, rfl⟩
          have kX := Blk.newEq hW2
          have hgq2 : W1.grownBy W2 (some Bg) := by rw [← hW2]; exact grown_trans hgq (World.grownBy_alloc _ _ _)
          have hbox2 : BoxG W2 Bg base H.length (wrMid H b j) := by rw [← hW2]; exact hbox.grown (r := none) (World.grownBy_alloc _ _ _) (fun k e => by cases e)
          have x1 := kX.cell 1
          simp only [List.getElem?_toArray, List.getElem?_cons_zero, List.getElem?_cons_succ] at x1
          have hsz2 : base ≤ W2.heap.size := by have := (grown_trans hgw1 hgq2).size; omega
          go_wp2_with fail
          clear z0 z1 x1 hW2
          refine (edge17_any H.length (by omega) _ xb (b : Int) hfx hi1 hi2 Bg base _ hbox2 hsz2).mono ?_
          rintro e w5 ⟨rfl, hbox5, hg5⟩
          go_wp2
          go_roundw
          case rel => exact ⟨j + 1, by omega, by go_num, hbox5.congr fun x y _ _ => hst.out x y, grown_trans hgq2 hg5⟩
          case measure => simp [intOf]; omega
        · obtain rfl : j = yr.length := by omega
          go_wp2
          go_roundw
          case rel => exact ⟨b + 1, by omega, by go_num, hbox.congr fun x y _ _ => hnxt.out x y, hgq1⟩
          case measure => simp [intOf]; omega
    · obtain rfl : b = H.length := by omega
      go_wp2
      go_end0
      exact ⟨rfl, hbox.congr fun x y _ hy => wrMid_all hy, hgw⟩
set_option maxRecDepth 100000 in
theorem wr17_any (A : Option Addr) (c : Nat) (H : List Txn) (w : World) (h : TxnS w (Old w) (.slice A H.length c) H) (hn : SmallH H) (hr : rightH H = true) :
    Calls Tryz.prog 165 #[.agg #[.slice A H.length c]] w (OutG1 w H.length (wrE H)) := by
  obtain ⟨W0, hW0⟩ : ∃ W0, (w.alloc (.cells #[.slice A H.length c] 24)).alloc (.cells #[.int .i64 0, .slice none 0 0] 77) = W0 := ⟨_, rfl⟩
  have hB := below_two hW0
  have k0 := Blk.two1 hW0
  have k1 := Blk.two2 hW0
  have hs0 := size_two hW0
  have h0 := h.below hB
  have h32 : H.length ≤ 32 := ((rightH_iff H).1 hr).1
  have hcall := hide (laid17_any 224 (enters_of Tryz.func224 (by kernel_rfl) rfl) #[.pointer (some ⟨w.heap.size, 0, none⟩)] A c H (wrE H) W0 h0 hn hr (fun W Bg hbW hbox hBg => by
    have hbW' : Below w.heap.size w W := hB.trans (hbW.mono (by omega))
    exact (wr1_any A c H hr hn w.heap.size Bg W0.heap.size (Old w) W (TxnS.keep h (Agree.below hbW' fun b h => h) (fun b h => h)) (k0.below hbW k0.lt) (fun b hb => by have : b < w.heap.size := hb; omega) (by omega) (by omega) hbox hbW.size).mono fun e w' hh => hh))
  have c0 := k0.cell 0
  simp only [List.getElem?_toArray, List.getElem?_cons_zero, List.getElem?_cons_succ] at c0
  replace hs0 := hide hs0
  go_enter Tryz.func165, Tryz.ntmps165
  go_wp2_with fail
  clear hW0 c0
  refine hcall.out.mono ?_
  rintro e w4 ⟨g, hg, rfl, kR, hb4⟩
  have hgne : g ≠ w.heap.size + 1 := by have := hs0.out; omega
  have k14 := k1.below hb4 k1.lt
  have hb5 := hB.trans (hb4.mono (by have := hs0.out; omega))
  have j0 := k14.cell 0
  have j1 := k14.cell 1
  have jf := k14.frozen 0
  have jf1 := k14.frozen 1
  simp only [List.getElem?_toArray, List.getElem?_cons_zero, List.getElem?_cons_succ] at j0 j1
  have hgw : w.heap.size ≤ g := by have := hs0.out; omega
  clear hcall
  go_wp2
  have kF0 := ((kR.far (p := ⟨w.heap.size + 1, 0, none⟩) hgne (.int .i64 H.length)).far (p := ⟨w.heap.size + 1, 1, none⟩) hgne (.slice (some ⟨g, 0, none⟩) H.length H.length))
  have hF := ((hb5.setCell (p := ⟨w.heap.size + 1, 0, none⟩) (by simp) (.int .i64 H.length)).setCell (p := ⟨w.heap.size + 1, 1, none⟩) (by simp) (.slice (some ⟨g, 0, none⟩) H.length H.length))
  exact bodyPost_ret (v := .agg #[.int .i64 H.length, .slice (some ⟨g, 0, none⟩) H.length H.length]) (by simp [results, Tryz.results165, go_sem, j0, j1]) rfl ⟨g, hgw, rfl, kF0, hF⟩
end Go.Proofs.YtfhnamomiaekdaaGreatDoor

namespace Go.Proofs.YtfhnamomiaekdaaGreatDoor
open Go.RowKit Go.Inq
set_option maxHeartbeats 4000000
attribute [local go_sem ↓] Go.wp_at_zero Go.wp_at_succ

/-- Some edges, but none that leads from a node to itself. -/
def neL (l : List (Nat × Nat)) : Edges := fun x y => decide (x ≠ y) && l.contains (x, y)
theorem neL_nil (x y : Nat) : noE x y = neL [] x y := by simp [noE, neL]
theorem neL_step (l : List (Nat × Nat)) (a b x y : Nat) : addE (neL l) (a : Int) (b : Int) x y = neL (l ++ [(a, b)]) x y := by
  unfold addE
  have hc : (l ++ [(a, b)]).contains (x, y) = (l.contains (x, y) || (decide (x = a) && decide (y = b))) := by
    rw [Bool.eq_iff_iff]; simp
  split
  · rename_i h
    simp only [orE, oneE, neL, Int.toNat_natCast, hc]
    by_cases e1 : x = a
    · by_cases e2 : y = b
      · have : x ≠ y := by omega
        simp [e1, e2, this]
        omega
      · simp [e2]
    · simp [e1]
  · rename_i h
    simp only [neL, hc]
    have hab : a = b := by omega
    by_cases e1 : x = a
    · by_cases e2 : y = b
      · have : x = y := by omega
        simp [this]
      · simp [e2]
    · simp [e1]
def iniR (wr : List Nat) (rd : List Nat) : List (Nat × Nat) := (rd.map fun a => wr.map fun b => (a, b)).flatten
def iniK (H : List Txn) (key : Int) : List (Nat × Nat) := iniR (wrsL H key) (rdsL H key (-1))
def iniTo (H : List Txn) (k : Nat) : List (Nat × Nat) := (((keysL H).take k).map (iniK H)).flatten
theorem iniTo_step {H : List Txn} {k : Nat} (h : k < (keysL H).length) : iniTo H (k + 1) = iniTo H k ++ iniK H (keysL H)[k] := by
  unfold iniTo
  rw [List.take_succ_eq_append_getElem h, List.map_append, List.flatten_append]; simp
theorem iniR_step (wr : List Nat) {rd : List Nat} {i : Nat} (h : i < rd.length) : iniR wr (rd.take (i + 1)) = iniR wr (rd.take i) ++ wr.map fun b => (rd[i], b) := by
  unfold iniR
  rw [List.take_succ_eq_append_getElem h, List.map_append, List.flatten_append]; simp
theorem iniR_mem {wr rd : List Nat} {a b : Nat} : (a, b) ∈ iniR wr rd ↔ a ∈ rd ∧ b ∈ wr := by
  unfold iniR
  rw [List.mem_flatten]
  constructor
  · rintro ⟨l, hl, h⟩
    obtain ⟨x, hx, rfl⟩ := List.mem_map.1 hl
    obtain ⟨y, hy, e⟩ := List.mem_map.1 h
    injection e with e1 e2
    subst e1 e2
    exact ⟨hx, hy⟩
  · rintro ⟨ha, hb⟩
    exact ⟨_, List.mem_map.2 ⟨a, ha, rfl⟩, List.mem_map.2 ⟨b, hb, rfl⟩⟩
theorem iniTo_all {H : List Txn} {x y : Nat} (hx : x < H.length) (hy : y < H.length) : neL (iniTo H (keysL H).length) x y = initE H x y := by
  unfold neL iniTo
  rw [List.take_length, Bool.eq_iff_iff, initE_iff hx hy, Bool.and_eq_true, decide_eq_true_iff, List.contains_iff_mem, List.mem_flatten]
  constructor
  · rintro ⟨h1, l, hl, h⟩
    obtain ⟨k, hk, rfl⟩ := List.mem_map.1 hl
    obtain ⟨h2, h3⟩ := iniR_mem.1 h
    exact ⟨h1, k, hk, h2, h3⟩
  · rintro ⟨h1, k, hk, h2, h3⟩
    exact ⟨h1, _, List.mem_map.2 ⟨k, hk, rfl⟩, iniR_mem.2 ⟨h2, h3⟩⟩
theorem rdsL_len {H : List Txn} (hn : SmallH H) (hr : rightH H = true) (key src : Int) : (rdsL H key src).length ≤ 32000000 := by
  rw [← selR_all]
  unfold selR
  rw [List.length_map]
  exact Nat.le_trans (List.length_filter_le _ _) (readsL_len hn hr)
set_option maxRecDepth 100000 in
theorem init1_any (A : Option Addr) (c : Nat) (H : List Txn) (hr : rightH H = true) (hn : SmallH H) (Bh Bg base : Nat) (K : Nat → Prop) (w : World) (hT : TxnS w K (.slice A H.length c) H) (hBh : Blk w Bh 24 #[.slice A H.length c]) (hK : ∀ b, K b → b < base) (hB : Bh < base) (hBg : base ≤ Bg) (hbox : BoxG w Bg base H.length noE) (hbw : base ≤ w.heap.size) :
    Calls Tryz.prog 225 #[.func (.func 258) #[] #[.pointer (some ⟨Bg, 0, none⟩)], .pointer (some ⟨Bh, 0, none⟩)] w fun e w' => e = .returned (.tuple #[]) ∧ BoxG w' Bg base H.length (initE H) ∧ w.grownBy w' (some Bg) := by
  have c0 := hBh.cell 0
  simp only [List.getElem?_toArray, List.getElem?_cons_zero, List.getElem?_cons_succ] at c0
  have h32 : H.length ≤ 32 := ((rightH_iff H).1 hr).1
  have hBl : Bg < w.heap.size := hbox.lt
  have hkw : Hid (∀ b, K b → b < w.heap.size) := hide fun b hb => by have := hK b hb; omega
  have hkg : Hid (∀ b, K b → b < Bg) := hide fun b hb => by have := hK b hb; omega
  replace hr := hide hr
  replace hn := hide hn
  have hTo := hT.fit (K' := Old w) (fun b hb => hkw.out b hb)
  replace hT := hide hT
  replace hbox := hide (hbox.congr fun a b _ _ => neL_nil a b)
  have hT0 : Hid (∀ w', w.grownBy w' (some Bg) → TxnS w' (Old w') (.slice A H.length c) H) := hide fun w' hg => TxnS.keep hT.out (Agree.ofGrown hg hkg.out (Nat.le_of_lt hBl)) (fun b hb => Nat.lt_of_lt_of_le (hkw.out b hb) hg.size)
  replace hK := hide hK
  go_enter Tryz.func225, Tryz.ntmps225
  go_wp2_with fail
  clear c0
  refine (keys9_any A c H _ hTo hn.out hr.out).mono ?_
  rintro e wk ⟨vk, rfl, hKO, hbk⟩
  obtain ⟨Ak, ck, rfl⟩ := hKO.form
  have hKS := hide (hKO.sl (K := fun b => w.heap.size ≤ b ∧ b < wk.heap.size) (fun g h1 h2 => ⟨h1, h2⟩))
  have hboxk := hbox.out.below hbk
  have hgk := grown_below hbk (r := some Bg) (Nat.le_refl _)
  have hk16 := keysL_16len hr.out
  have hstp := hide (fun k (hk : k < (keysL H).length) => iniTo_step hk)
  have hall := hide (fun x y (hx : x < H.length) (hy : y < H.length) => iniTo_all hx hy)
  clear hKO hbox hTo
  generalize hKL : keysL H = KL at *
  clear hKL
  go_wp2_with fail
  go_loopw [12] (fun s12 wr => ∃ k : Nat, k ≤ KL.length ∧ s12 = .int .i64 k ∧ BoxG wr Bg base H.length (neL (iniTo H k)) ∧ wk.grownBy wr (some Bg)) (fun s12 _ => KL.length - (intOf s12).toNat)
  case atStart => exact ⟨0, Nat.zero_le _, by go_num, hboxk, World.grownBy.refl _ _⟩
  case round =>
    clear hboxk hbk
    obtain ⟨Wo, rfl⟩ : ∃ Wo, Wo = wr := ⟨_, rfl⟩
    obtain ⟨k, hk, rfl, hbox, hgw⟩ := hrel
    have hi1 : (0 : Int) ≤ (k : Int) := Int.natCast_nonneg _
    have hgo := grown_trans hgk hgw
    have hszo := hgo.size
    have hszk := hgw.size
    by_cases hlt : k < KL.length
    · have hi2 : (k : Int) < (KL.length : Int) := by omega
      obtain ⟨bk, ok, rfl, _, hck⟩ := (hKS.out.keep (Agree.grown hgw fun b hb => ⟨hb.2, by have := hb.1; simp; omega⟩) (fun b h => h)).at_ hlt
      have hst := hide (hstp.out k hlt)
      have hBo := hBh.grown hgo (by simp; omega)
      have b0 := hBo.cell 0
      simp only [List.getElem?_toArray, List.getElem?_cons_zero, List.getElem?_cons_succ] at b0
      generalize KL[k] = key at *
      unfold iniK at hst
      go_wp2_with fail
      clear b0 hck
      refine (readers9_any A c H key (-1) _ (hT0.out _ hgo) hn.out hr.out).mono ?_
      rintro e wd ⟨vd, rfl, hDO, hbd⟩
      have hDm := hide (fun a (ha : a ∈ rdsL H key (-1)) => (rdsL_mem.1 ha).1)
      have hDl := rdsL_len hn.out hr.out key (-1)
      generalize rdsL H key (-1) = D at *
      obtain ⟨Ad, cd, hv⟩ := hDO.form
      rw [intsN_len] at hv
      subst hv
      have hDS := hide (hDO.sl (K := fun b => Wo.heap.size ≤ b ∧ b < wd.heap.size) (fun g h1 h2 => ⟨h1, h2⟩))
      have hboxd := hbox.below hbd
      have hgd := grown_trans hgo (grown_below hbd (r := some Bg) (Nat.le_refl _))
      have hgd2 := grown_trans hgw (grown_below hbd (r := some Bg) (Nat.le_refl _))
      have hszd := hbd.size
      have hW0 : Hid (neL (iniTo H k) = neL (iniTo H k ++ iniR (wrsL H key) (D.take 0))) := hide (by simp [iniR])
      clear hDO hbd hbox hgw hgo hBo
      go_wp2_with fail
      go_loopw [20] (fun s20 wr => ∃ i : Nat, i ≤ D.length ∧ s20 = .int .i64 i ∧ BoxG wr Bg base H.length (neL (iniTo H k ++ iniR (wrsL H key) (D.take i))) ∧ wd.grownBy wr (some Bg)) (fun s20 _ => D.length - (intOf s20).toNat)
      case atStart => exact ⟨0, Nat.zero_le _, by go_num, by rw [← hW0.out]; exact hboxd, World.grownBy.refl _ _⟩
      case round =>
        clear hboxd hW0
        obtain ⟨Wp, rfl⟩ : ∃ Wp, Wp = wr := ⟨_, rfl⟩
        obtain ⟨i, hi, rfl, hbox, hgw⟩ := hrel
        have hj1 : (0 : Int) ≤ (i : Int) := Int.natCast_nonneg _
        have hgo := grown_trans hgd hgw
        by_cases hlt2 : i < D.length
        · have hj2 : (i : Int) < (D.length : Int) := by omega
          obtain ⟨bd, od, rfl, _, hcd⟩ := (hDS.out.keep (Agree.grown hgw fun b hb => ⟨hb.2, by have := hb.1; simp; omega⟩) (fun b h => h)).at_ (i := i) (by rw [intsN_len]; exact hlt2)
          rw [intsN_at hlt2] at hcd
          have hast := hide (iniR_step (wrsL H key) hlt2)
          have ham := hDm.out _ (List.getElem_mem hlt2)
          generalize D[i] = a at *
          have hBo := hBh.grown hgo (by simp; omega)
          have b0 := hBo.cell 0
          simp only [List.getElem?_toArray, List.getElem?_cons_zero, List.getElem?_cons_succ] at b0
          go_wp2_with fail
          clear b0 hcd
          refine (writers9_any A c H key _ (hT0.out _ hgo) hn.out hr.out).mono ?_
          rintro e wl ⟨vl, rfl, hLO, hbl⟩
          have hLm := hide (fun b (hb : b ∈ wrsL H key) => (wrsL_mem.1 hb).1)
          have hLl := wrsL_len H key
          generalize hLe : wrsL H key = L at *
          replace hLe := hide hLe
          obtain ⟨Al, cl, hv⟩ := hLO.form
          rw [intsN_len] at hv
          subst hv
          have hLS := hide (hLO.sl (K := fun b => Wp.heap.size ≤ b ∧ b < wl.heap.size) (fun g h1 h2 => ⟨h1, h2⟩))
          have hboxl := hbox.below hbl
          have hgl := grown_trans hgw (grown_below hbl (r := some Bg) (Nat.le_refl _))
          have hglo := grown_trans hgo (grown_below hbl (r := some Bg) (Nat.le_refl _))
          have hszl := hglo.size
          have hszp := hgo.size
          have hM0 : Hid (neL (iniTo H k ++ iniR L (D.take i)) = neL (iniTo H k ++ iniR L (D.take i) ++ (L.take 0).map fun b => (a, b))) := hide (by simp)
          clear hLO hbl hbox hgw hgo hBo
          go_wp2_with fail
          go_loopw [28] (fun s28 wr => ∃ j : Nat, j ≤ L.length ∧ s28 = .int .i64 j ∧ BoxG wr Bg base H.length (neL (iniTo H k ++ iniR L (D.take i) ++ (L.take j).map fun b => (a, b))) ∧ wl.grownBy wr (some Bg)) (fun s28 _ => L.length - (intOf s28).toNat)
          case atStart => exact ⟨0, Nat.zero_le _, by go_num, by rw [← hM0.out]; exact hboxl, World.grownBy.refl _ _⟩
          case round =>
            clear hboxl hM0
            obtain ⟨j, hj, rfl, hbox, hgw⟩ := hrel
            have hjj : (0 : Int) ≤ (j : Int) := Int.natCast_nonneg _
            by_cases hlt3 : j < L.length
            · have hj3 : (j : Int) < (L.length : Int) := by omega
              obtain ⟨bl, ol, rfl, _, hcl⟩ := (hLS.out.keep (Agree.grown hgw fun b hb => ⟨hb.2, by have := hb.1; simp; omega⟩) (fun b h => h)).at_ (i := j) (by rw [intsN_len]; exact hlt3)
              rw [intsN_at hlt3] at hcl
              have htk := hide (take_snoc' hlt3)
              have hbm := hLm.out _ (List.getElem_mem hlt3)
              generalize L[j] = b at *
              have hb0 : (0 : Int) ≤ (b : Int) := Int.natCast_nonneg _
              have hb1 : (b : Int) < (H.length : Int) := by omega
              have ha1 : (a : Int) < (H.length : Int) := by omega
              have hszr := hgw.size
              have hbsz : base ≤ wr.heap.size := by omega
              have hM2 : Hid (iniTo H k ++ iniR L (D.take i) ++ (L.take (j + 1)).map (fun b => (a, b)) = (iniTo H k ++ iniR L (D.take i) ++ (L.take j).map fun b => (a, b)) ++ [(a, b)]) := hide (by rw [htk.out, List.map_append, ← List.append_assoc]; rfl)
              go_wp2_with fail
              clear hcl
              refine (edge17_any H.length (by omega) _ (a : Int) (b : Int) ha1 hb0 hb1 Bg base _ hbox hbsz).mono ?_
              rintro e w5 ⟨rfl, hbox5, hg5⟩
              go_wp2
              go_roundw
              case rel => exact ⟨j + 1, by omega, by go_num, by rw [hM2.out]; exact hbox5.congr fun x y _ _ => neL_step _ a b x y, grown_trans hgw hg5⟩
              case measure => simp [intOf]; omega
            · obtain rfl : j = L.length := by omega
              rw [List.take_length, List.append_assoc, ← hast.out] at hbox
              go_wp2
              go_roundw
              case rel => exact ⟨i + 1, by omega, by go_num, by rw [hLe.out]; exact hbox, grown_trans hgl hgw⟩
              case measure => simp [intOf]; omega
        · obtain rfl : i = D.length := by omega
          rw [List.take_length, ← hst.out] at hbox
          go_wp2
          go_roundw
          case rel => exact ⟨k + 1, by omega, by go_num, hbox, grown_trans hgd2 hgw⟩
          case measure => simp [intOf]; omega
    · obtain rfl : k = KL.length := by omega
      go_wp2
      go_end0
      exact ⟨rfl, hbox.congr fun x y hx hy => hall.out x y hx hy, grown_trans hgk hgw⟩
set_option maxRecDepth 100000 in
theorem init17_any (A : Option Addr) (c : Nat) (H : List Txn) (w : World) (h : TxnS w (Old w) (.slice A H.length c) H) (hn : SmallH H) (hr : rightH H = true) :
    Calls Tryz.prog 168 #[.agg #[.slice A H.length c]] w (OutG1 w H.length (initE H)) := by
  obtain ⟨W0, hW0⟩ : ∃ W0, (w.alloc (.cells #[.slice A H.length c] 24)).alloc (.cells #[.int .i64 0, .slice none 0 0] 77) = W0 := ⟨_, rfl⟩
  have hB := below_two hW0
  have k0 := Blk.two1 hW0
  have k1 := Blk.two2 hW0
  have hs0 := size_two hW0
  have h0 := h.below hB
  have h32 : H.length ≤ 32 := ((rightH_iff H).1 hr).1
  have hcall := hide (laid17_any 225 (enters_of Tryz.func225 (by kernel_rfl) rfl) #[.pointer (some ⟨w.heap.size, 0, none⟩)] A c H (initE H) W0 h0 hn hr (fun W Bg hbW hbox hBg => by
    have hbW' : Below w.heap.size w W := hB.trans (hbW.mono (by omega))
    exact (init1_any A c H hr hn w.heap.size Bg W0.heap.size (Old w) W (TxnS.keep h (Agree.below hbW' fun b h => h) (fun b h => h)) (k0.below hbW k0.lt) (fun b hb => by have : b < w.heap.size := hb; omega) (by omega) (by omega) hbox hbW.size).mono fun e w' hh => hh))
  have c0 := k0.cell 0
  simp only [List.getElem?_toArray, List.getElem?_cons_zero, List.getElem?_cons_succ] at c0
  replace hs0 := hide hs0
  go_enter Tryz.func168, Tryz.ntmps168
  go_wp2_with fail
  clear hW0 c0
  refine hcall.out.mono ?_
  rintro e w4 ⟨g, hg, rfl, kR, hb4⟩
  have hgne : g ≠ w.heap.size + 1 := by have := hs0.out; omega
  have k14 := k1.below hb4 k1.lt
  have hb5 := hB.trans (hb4.mono (by have := hs0.out; omega))
  have j0 := k14.cell 0
  have j1 := k14.cell 1
  have jf := k14.frozen 0
  have jf1 := k14.frozen 1
  simp only [List.getElem?_toArray, List.getElem?_cons_zero, List.getElem?_cons_succ] at j0 j1
  have hgw : w.heap.size ≤ g := by have := hs0.out; omega
  clear hcall
  go_wp2
  have kF0 := ((kR.far (p := ⟨w.heap.size + 1, 0, none⟩) hgne (.int .i64 H.length)).far (p := ⟨w.heap.size + 1, 1, none⟩) hgne (.slice (some ⟨g, 0, none⟩) H.length H.length))
  have hF := ((hb5.setCell (p := ⟨w.heap.size + 1, 0, none⟩) (by simp) (.int .i64 H.length)).setCell (p := ⟨w.heap.size + 1, 1, none⟩) (by simp) (.slice (some ⟨g, 0, none⟩) H.length H.length))
  exact bodyPost_ret (v := .agg #[.int .i64 H.length, .slice (some ⟨g, 0, none⟩) H.length H.length]) (by simp [results, Tryz.results168, go_sem, j0, j1]) rfl ⟨g, hgw, rfl, kF0, hF⟩
end Go.Proofs.YtfhnamomiaekdaaGreatDoor
