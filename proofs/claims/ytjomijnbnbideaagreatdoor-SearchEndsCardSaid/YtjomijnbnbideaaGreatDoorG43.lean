/-
  Walks: layer 17's reference: the past.
-/
import Derived.Test.YtjomijnbnbideaaGreatDoorG40
import Derived.Test.YtjomijnbnbideaaGreatDoorG02
import Derived.Test.YtjomijnbnbideaaGreatDoorG42
import Derived.Test.YtjomijnbnbideaaGreatDoorG24
set_option linter.unusedVariables false
set_option linter.unusedSimpArgs false
namespace Go.Proofs.YtjomijnbnbideaaGreatDoor
open Go.RowKit Go.Inq
set_option maxHeartbeats 4000000
attribute [local go_sem ↓] Go.wp_at_zero Go.wp_at_succ

def GVR (base n : Nat) (E : Edges) (v : Value) (W : World) : Prop := ∃ A c, v = .agg #[.int .i64 n, .slice A n c] ∧ RG W base n E (.slice A n c)
def VarStR (b : Nat) (W W' : World) : Prop :=
  (W'.os = W.os ∧ W'.tape = W.tape ∧ W'.output = W.output ∧ W.heap.size ≤ W'.heap.size) ∧ ∀ k, k < W.heap.size → W'.heap[k]? = W.heap[k]? ∨ (b ≤ k ∧ ∃ cs cs', W.heap[k]? = some (.cells cs 124 (0, 0)) ∧ W'.heap[k]? = some (.cells cs' 124 (0, 0)) ∧ cs'.size = 2)
theorem VarStR.of_below {b : Nat} {W W' : World} (h : Below W.heap.size W W') : VarStR b W W' := ⟨⟨h.os, h.tape, h.output, h.size⟩, fun k hk => .inl (h.block k hk)⟩
theorem VarStR.blk {b g : Nat} {t : TypeId} {cs : Array Value} {W W' : World} (h : VarStR b W W') (hk : Blk W g t cs) (ht : t ≠ 124) : Blk W' g t cs := by
  rcases h.2 g hk.lt with e | ⟨_, cs1, _, e, _⟩
  · exact e.trans hk
  · rw [show W.heap[g]? = _ from hk] at e
    injection e with e
    injection e with _ e
    exact absurd e ht
theorem GVR.var {base n b : Nat} {E : Edges} {v : Value} {W W' : World} (h : GVR base n E v W) (hb : VarStR b W W') : GVR base n E v W' := by
  obtain ⟨A, c, h1, h2⟩ := h
  refine ⟨A, c, h1, ?_⟩
  rcases h2 with h2 | ⟨g, cap, cur, h2, h3, h4, r⟩
  · exact .inl h2
  · exact .inr ⟨g, cap, cur, h2, h3, hb.blk h4 (by decide), r⟩
theorem GVR.of {W0 W : World} {base n : Nat} {E : Edges} {e : Ending} (hn : n ≤ 64) (hB : base ≤ W0.heap.size) (h : OutR W0 n E e W) : ∃ v, e = .returned v ∧ GVR base n E v W ∧ Below W0.heap.size W0 W := by
  obtain ⟨u, rfl, hR, hb⟩ := h
  obtain ⟨A, c, rfl, -⟩ := hR.gr hn (K := fun _ => True) (fun _ _ _ => trivial)
  exact ⟨_, rfl, ⟨A, c, rfl, hR.base hB⟩, hb⟩
theorem GVR.gr {W : World} {base n : Nat} {E : Edges} {v : Value} (hn : n ≤ 64) (h : GVR base n E v W) : ∃ A c, v = .agg #[.int .i64 n, .slice A n c] ∧ GrS W (Old W) n A c E ∧ RG W base n E (.slice A n c) := by
  obtain ⟨A, c, rfl, hR⟩ := h
  obtain ⟨A', c', e, hg⟩ := hR.gr hn (K := Old W) (fun g _ h => h)
  simp only [Value.slice.injEq, true_and] at e
  obtain ⟨rfl, rfl⟩ := e
  exact ⟨A, c, rfl, hg, hR⟩
def VarVR (b : Nat) (v : Value) (W : World) : Prop := ∃ g, b ≤ g ∧ v = .pointer (some ⟨g, 0, none⟩) ∧ ∃ x y, Blk W g 124 #[x, y]
theorem VarVR.var {b b' : Nat} {v : Value} {W W' : World} (h : VarVR b v W) (hs : VarStR b' W W') : VarVR b v W' := by
  obtain ⟨g, h1, h2, x, y, h3⟩ := h
  rcases hs.2 g h3.lt with e | ⟨_, cs, cs', _, e2, e3⟩
  · exact ⟨g, h1, h2, x, y, e.trans h3⟩
  · refine ⟨g, h1, h2, cs'[0]'(by omega), cs'[1]'(by omega), ?_⟩
    have : cs' = #[cs'[0]'(by omega), cs'[1]'(by omega)] := by
      refine Array.ext (by simp [e3]) fun i h1 h2 => ?_
      simp at h2
      match i, h2 with
      | 0, _ => rfl
      | 1, _ => rfl
    unfold Blk
    rw [← this]
    exact e2
def RPastW (H : List Txn) (A : Option Addr) (c base : Nat) : Nat → (Nat → Value) → World → Prop
  | 0, vs, _ => vs 0 = .agg #[.slice A H.length c]
  | 1, vs, W => GVR base H.length (soE H) (vs 1) W
  | 2, vs, _ => vs 2 = .agg #[.slice A H.length c]
  | 3, vs, W => GVR base H.length (wrE H) (vs 3) W
  | 4, vs, W => GVR base H.length (pastE H) (vs 4) W
  | 5, vs, W => VarVR base (vs 5) W
  | 6, vs, W => ∃ g x y, vs 5 = .pointer (some ⟨g, 0, none⟩) ∧ base ≤ g ∧ vs 4 = .agg #[x, y] ∧ Blk W g 124 #[x, y]
  | _, _, _ => True
def rpastD : Nat → List Nat
  | 1 => [0]
  | 3 => [2]
  | 4 => [1, 3]
  | 6 => [5, 4]
  | _ => []
theorem rpast_cg {H : List Txn} {A : Option Addr} {c base : Nat} : ∀ j (vs vs' : Nat → Value) w, (∀ k, k = j ∨ k ∈ rpastD j → vs k = vs' k) → RPastW H A c base j vs w → RPastW H A c base j vs' w := by
  intro j vs vs' w hk h
  match j, h with
  | 0, h | 1, h | 2, h | 3, h | 4, h | 5, h =>
    simp only [RPastW] at h ⊢
    rw [← hk _ (.inl rfl)]
    exact h
  | 6, h =>
    simp only [RPastW] at h ⊢
    rw [← hk 5 (.inr (by simp [rpastD])), ← hk 4 (.inr (by simp [rpastD]))]
    exact h
  | n + 7, _ => trivial
def RPastSt (s base : Nat) (i : Nat) (W W' : World) : Prop := if i = s then VarStR base W W' else Below W.heap.size W W'
theorem RPastSt.var {s base i : Nat} {W W' : World} (h : RPastSt s base i W W') : VarStR base W W' := by
  unfold RPastSt at h
  split at h
  · exact h
  · exact VarStR.of_below h
theorem rpast_keep {H : List Txn} {A : Option Addr} {c base : Nat} : ∀ i j (vs : Nat → Value) w w', j ≠ i → j ∉ (fun _ => [] : Nat → List Nat) i → RPastW H A c base j vs w → RPastSt 6 base i w w' → RPastW H A c base j vs w' := by
  intro i j vs w w' hne _ h hs
  have hv := hs.var
  match j, h with
  | 0, h | 2, h => exact h
  | 1, h | 3, h | 4, h =>
    simp only [RPastW] at h ⊢
    exact h.var hv
  | 5, h =>
    simp only [RPastW] at h ⊢
    exact VarVR.var h hv
  | 6, h =>
    unfold RPastSt at hs
    rw [if_neg (fun e => hne e.symm)] at hs
    simp only [RPastW] at h ⊢
    obtain ⟨g, x, y, h1, h2, h3, h4⟩ := h
    exact ⟨g, x, y, h1, h2, h3, h4.below hs h4.lt⟩
  | n + 7, _ => trivial
theorem rpastD_end : ∀ i, 7 ≤ i → rpastD i = [] := by
  intro i hi
  match i, hi with
  | n + 7, _ => rfl
set_option maxRecDepth 100000 in
theorem rpast17_any (A : Option Addr) (c : Nat) (H : List Txn) (w : World) (h : TxnS w (Old w) (.slice A H.length c) H) (hr : rightH H = true) (hn : SmallH H) :
    Calls Tryz.prog 124 #[.agg #[.slice A H.length c]] w (OutR w H.length (pastE H)) := by
  obtain ⟨W0, hW0⟩ : ∃ W0, (w.alloc (.cells #[.slice A H.length c] 24)).alloc (.cells #[.int .i64 0, .slice none 0 0] 124) = W0 := ⟨_, rfl⟩
  have hB := below_two hW0
  have k0 := Blk.two1 hW0
  have k1 := Blk.two2 hW0
  have h32 : H.length ≤ 64 := by have := ((rightH_iff H).1 hr).1; omega
  go_enter Tryz.func124, Tryz.ntmps124
  go_wp2_with fail
  clear hW0
  refine wp_region_rel (RPastW H A c (w.heap.size + 2)) (fun W => Below w.heap.size w W ∧ Blk W w.heap.size 24 #[.slice A H.length c] ∧ Blk W (w.heap.size + 1) 124 #[.int .i64 0, .slice none 0 0]) (RPastSt 6 (w.heap.size + 2)) rpastD (by kernel_rfl) (by kernel_rfl) (by kernel_rfl) rpastD_end (fun _ => []) (by kernel_rfl) rpast_cg rpast_keep ⟨hB.drew, k0, k1⟩ ?hstep ?hend
  case hstep =>
    intro i o ho vs W hS hd
    obtain ⟨hb, m0, m1⟩ := hS
    have hT := h.below hb
    have hsz : w.heap.size + 2 ≤ W.heap.size := m1.lt
    match i, ho with
    | 0, ho | 2, ho =>
      simp only [gZ, gS, Option.some.injEq] at ho
      subst ho
      simp only [acV, gA, gZ, gS, Act.put, sA, sZ, sS]
      have c0 := Blk.n0 m0
      go_wp2
      exact ⟨rfl, .agg #[.slice A H.length c], rfl, rfl, ⟨hb, m0, m1⟩, Below.refl _ _⟩
    | 1, ho =>
      have d0 := hd 0 (by simp [rpastD])
      simp only [RPastW] at d0
      simp only [gZ, gS, Option.some.injEq] at ho
      subst ho
      simp only [acV, gA, gZ, gS, Act.put, sA, sZ, sS]
      rw [d0]
      go_wp2_with fail
      refine (rso17_any A c H _ hT hr).mono ?_
      intro e W2 hO
      obtain ⟨v, rfl, hG, hb2⟩ := GVR.of h32 hsz hO
      go_wp2
      exact ⟨rfl, _, rfl, hG, ⟨hb.trans (hb2.mono hb.size), m0.below hb2 m0.lt, m1.below hb2 m1.lt⟩, hb2⟩
    | 3, ho =>
      have d0 := hd 2 (by simp [rpastD])
      simp only [RPastW] at d0
      simp only [gZ, gS, Option.some.injEq] at ho
      subst ho
      simp only [acV, gA, gZ, gS, Act.put, sA, sZ, sS]
      rw [d0]
      go_wp2_with fail
      refine (rwr17_any A c H _ hT hr hn).mono ?_
      intro e W2 hO
      obtain ⟨v, rfl, hG, hb2⟩ := GVR.of h32 hsz hO
      go_wp2
      exact ⟨rfl, _, rfl, hG, ⟨hb.trans (hb2.mono hb.size), m0.below hb2 m0.lt, m1.below hb2 m1.lt⟩, hb2⟩
    | 4, ho =>
      have g1 := hd 1 (by simp [rpastD])
      have g3 := hd 3 (by simp [rpastD])
      simp only [RPastW] at g1 g3
      obtain ⟨A1, c1, d1, q1, -⟩ := g1.gr h32
      obtain ⟨A3, c3, d3, q3, -⟩ := g3.gr h32
      simp only [gZ, gS, Option.some.injEq] at ho
      subst ho
      simp only [acV, gA, gZ, gS, Act.put, sA, sZ, sS]
      rw [d1, d3]
      go_wp2_with fail
      refine (runion12_any H.length _ _ (soE H) _ _ (wrE H) (Old W) _ q1 q3 (fun b hb => hb)).mono ?_
      intro e W2 hO
      obtain ⟨v, rfl, hG, hb2⟩ := GVR.of h32 hsz hO
      go_wp2
      exact ⟨rfl, _, rfl, hG, ⟨hb.trans (hb2.mono hb.size), m0.below hb2 m0.lt, m1.below hb2 m1.lt⟩, hb2⟩
    | 5, ho =>
      simp only [gZ, gS, Option.some.injEq] at ho
      subst ho
      simp only [acV, gA, gZ, gS, Act.put, sA, sZ, sS]
      go_wp2
      exact ⟨rfl, _, rfl, ⟨W.heap.size, by omega, rfl, _, _, Blk.new _ _ _⟩, ⟨hb.alloc hb.size _, m0.alloc _, m1.alloc _⟩, (Below.refl _ _).alloc (Nat.le_refl _) _⟩
    | 6, ho =>
      obtain ⟨g, hg, d8, x, y, q8⟩ := hd 5 (by simp [rpastD])
      obtain ⟨A6, c6, d6, q6⟩ := hd 4 (by simp [rpastD])
      simp only [gZ, gS, Option.some.injEq] at ho
      subst ho
      simp only [acV, gA, gZ, gS, Act.put, sA, sZ, sS]
      rw [d8, d6]
      have c0 := Blk.n0 q8
      have c1 := Blk.n1 q8
      have f0 := q8.frozen 0
      have f1 := q8.frozen 1
      go_wp2
      have hq := (q8.set_ 0 (.int .i64 H.length)).set_ 1 (.slice A6 H.length c6)
      have n1 : w.heap.size ≠ g := by omega
      have n2 : w.heap.size + 1 ≠ g := by omega
      refine ⟨rfl, undef, rfl, ⟨g, _, _, (show updV vs 6 undef 5 = _ from d8), hg, (show updV vs 6 undef 4 = _ from d6), by simpa using hq⟩, ⟨(hb.setCell (p := ⟨g, 0, none⟩) (by simp; omega) _).setCell (p := ⟨g, 1, none⟩) (by simp; omega) _, (m0.far n1 _).far n1 _, (m1.far n2 _).far n2 _⟩, ?_⟩
      unfold RPastSt
      rw [if_pos rfl]
      refine ⟨⟨rfl, rfl, rfl, by simp⟩, fun k hk => ?_⟩
      by_cases e : k = g
      · subst e
        exact .inr ⟨hg, _, _, q8, hq, by simp⟩
      · exact .inl ((Below.heap_setCell _ ⟨g, 1, none⟩ _ k e).trans (Below.heap_setCell _ ⟨g, 0, none⟩ _ k e))
    | n + 7, ho => simp at ho
  case hend =>
    rintro vs W ⟨hb, m0, m1⟩ hd
    obtain ⟨g, x, y, d8, hg, d6, q9⟩ := hd 6 (by simp) (by simp)
    obtain ⟨A6, c6, d6', q6⟩ := hd 4 (by simp) (by simp)
    rw [d6] at d6'
    injection d6' with d6'
    simp only [Array.mk.injEq, List.cons.injEq, and_true] at d6'
    obtain ⟨rfl, rfl⟩ := d6'
    clear hd
    simp only [acV, gA, gZ, gS, Act.put, sA, sZ, sS, List.length_cons, List.length_nil, Nat.reduceAdd]
    rw [d8, d6]
    have c0 := Blk.n0 q9
    have c1 := Blk.n1 q9
    have j0 := Blk.n0 m1
    have j1 := Blk.n1 m1
    have jf := m1.frozen 0
    have jf1 := m1.frozen 1
    go_wp2
    have kF0 := ((q6.far (p := ⟨w.heap.size + 1, 0, none⟩) (by simp) (.int .i64 H.length)).far (p := ⟨w.heap.size + 1, 1, none⟩) (by simp) (.slice A6 H.length c6)).base (B' := w.heap.size) (by omega)
    have hF := ((hb.setCell (p := ⟨w.heap.size + 1, 0, none⟩) (by simp) (.int .i64 H.length)).setCell (p := ⟨w.heap.size + 1, 1, none⟩) (by simp) (.slice A6 H.length c6))
    exact bodyPost_ret (v := .agg #[.int .i64 H.length, .slice A6 H.length c6]) (by simp [results, Tryz.results124, go_sem, j0, j1]) rfl ⟨_, rfl, kF0, hF⟩
end Go.Proofs.YtjomijnbnbideaaGreatDoor

namespace Go.Proofs.YtjomijnbnbideaaGreatDoor
open Go.RowKit Go.Inq
set_option maxHeartbeats 8000000
attribute [local go_sem ↓] Go.wp_at_zero Go.wp_at_succ

set_option maxRecDepth 100000 in
theorem rww18_any (A : Option Addr) (c : Nat) (H : List Txn) (Al : Option Addr) (cl : Nat) (l : List Cho) (w : World) (h : TxnS w (Old w) (.slice A H.length c) H) (hl : ChoS w (Old w) (.slice Al l.length cl) l) (hr : rightC H l = true) :
    Calls Tryz.prog 125 #[.agg #[.slice A H.length c], .slice Al l.length cl] w (OutR w H.length (wwE l)) := by
  have hn64 : H.length ≤ 64 := by have := ((rightH_iff H).1 (rightC_hist hr)).1; omega
  have hll := rightC_len hr
  have hcn := hide (fun x hx => choice_nat hr (x := x) hx)
  clear hr
  go_enter Tryz.func125, Tryz.ntmps125
  go_upto_region 1 with fail
  obtain ⟨W0, hW0⟩ : ∃ W0, (w.alloc (.cells #[.slice A H.length c] 24)).alloc (.cells #[.int .i64 0, .slice none 0 0] 124) = W0 := ⟨_, rfl⟩
  rw [hW0]
  have hb := below_two hW0
  have k1 := Blk.two1 hW0
  have k3 := Blk.two2 hW0
  have s0 := size_two hW0
  have hT := hide (h.below hb)
  clear hW0 h
  have c0 := Blk.n0 k1
  replace s0 := hide s0
  go_wp2_with fail
  refine (rnew12_any H.length hn64 W0).mono ?_
  rintro e w1 ⟨v, rfl, hR, hb1⟩
  clear c0
  obtain ⟨Av, cv, rfl, -⟩ := hR.gr hn64 (K := fun _ => True) (fun _ _ _ => trivial)
  go_upto_region 2 with fail
  obtain ⟨W5, hW5⟩ : ∃ W5, w1.alloc (.cells #[.int .i64 (H.length : Int), .slice Av H.length cv] 124) = W5 := ⟨_, rfl⟩
  rw [hW5]
  have hP := RGP.start hR hn64 hW5
  have hs1 := hb1.size
  have hb5 := below_allocEq hb1 hW5 hs1
  clear hW5 hR hb1
  go_wp2_with fail
  have hl0 := hide (hl.below hb)
  clear hl
  go_loopw [6] (fun s6 wr => ∃ k : Nat, k ≤ l.length ∧ s6 = .int .i64 k ∧ RGP wr W0.heap.size w1.heap.size H.length (wwE (l.take k)) Av cv ∧ Below W0.heap.size W0 wr) (fun s6 _ => l.length - (intOf s6).toNat)
  case atStart => exact ⟨0, Nat.zero_le _, by go_num, by rw [List.take_zero, wwE_nil]; exact hP, hb5⟩
  case round =>
    obtain ⟨k, hk, rfl, hP4, hb4⟩ := hrel
    have hk1 : (0 : Int) ≤ (k : Int) := Int.natCast_nonneg _
    by_cases hlt : k < l.length
    · have hk2 : (k : Int) < (l.length : Int) := by omega
      obtain ⟨b, off, rfl, _, -, y1, y2⟩ := (hl0.out.below hb4).at_ hlt
      obtain ⟨xa, xb, ha, hb', ha2, hb2⟩ := hcn.out _ (List.getElem_mem hlt)
      have hE2 := hide (wwE_step hlt ha hb')
      rw [ha] at y1
      rw [hb'] at y2
      have ha3 : (xa : Int) < (H.length : Int) := by omega
      have ha4 : (0 : Int) ≤ (xa : Int) := Int.natCast_nonneg _
      clear ha hb'
      go_wp2_with fail
      obtain ⟨g, rfl, hX⟩ := hP4.at_ ha2
      have hP5 := hide (hX.add (y := xb) ha2 hb2).drew
      have hb5 := hide (below_drew (hb4.setCell (p := ⟨g, xa, none⟩) hX.B (.int .u64 (withB (setB ((wwE (l.take k)) xa) H.length) (xb : Int) : Nat))))
      obtain ⟨-, c0, c1, d0, df, gp, gl, -, h64⟩ := hX
      clear hP hP4 hb4
      generalize setB ((wwE (l.take k)) xa) H.length = s at *
      go_upto_region 5 with fail
      refine wp_region_still_tail 23 (by kernel_rfl) (by kernel_rfl) ?_
      simp only [List.take_succ_cons, List.take_zero, List.drop_succ_cons, List.drop_zero]
      repeat still_step
      still_call ((rwith10_any _ h64 _ _).mono fun _ _ h => ⟨h.1, h.2.symm⟩)
      repeat still_step
      refine wpStill_nil ?_
      change wpList _ _ _ _ _ (wr).drew
      go_wp2
      go_roundw
      case rel => exact ⟨k + 1, by omega, by go_num, by rw [← hE2.out]; exact hP5.out, hb5.out⟩
      case measure => simp [intOf]; omega
    · obtain rfl : k = l.length := by omega
      rw [List.take_length] at hP4
      have hbr := hb4
      have c0 := hP4.c0
      have c1 := hP4.c1
      have k3r := k3.below hbr k3.lt
      have f0 := k3r.frozen 0
      have f1 := k3r.frozen 1
      have e0 := k3r.cell 0
      have e1 := k3r.cell 1
      have hs0 := s0.out
      have hs3 : w.heap.size + 1 < W0.heap.size := k3.lt
      have hR := hide (((hP4.rg.far (p := ⟨w.heap.size + 1, 0, none⟩) hs3 (.int .i64 H.length)).far (p := ⟨w.heap.size + 1, 1, none⟩) hs3 (.slice Av H.length cv)).base (B' := w.heap.size) (by omega))
      have hz := hide (((hb.trans (hbr.mono hb.size)).setCell (p := ⟨w.heap.size + 1, 0, none⟩) (by simp; try omega) (.int .i64 H.length)).setCell (p := ⟨w.heap.size + 1, 1, none⟩) (by simp; try omega) (.slice Av H.length cv))
      have hq := (k3r.set_ 0 (.int .i64 H.length)).set_ 1 (.slice Av H.length cv)
      simp only [sA, sZ, sS] at hq
      have y0 := hq.cell 0
      have y1 := hq.cell 1
      simp only [gA, gZ, gS] at y0 y1 e0 e1
      clear hq hs0 hs3
      go_wp2_with fail
      exact bodyPost_ret (v := .agg #[.int .i64 H.length, .slice Av H.length cv]) (by simp [results, Tryz.results125, go_sem, y0, y1]) rfl ⟨_, rfl, hR.out, hz.out⟩
end Go.Proofs.YtjomijnbnbideaaGreatDoor
