/-
  Walks: layer 18's reference: all that must not lead back.
-/
import Derived.Test.YtfhnamomiaekdaaGreatT29
import Derived.Test.YtfhnamomiaekdaaGreatT31
import Derived.Test.YtfhnamomiaekdaaGreatT22
import Derived.Test.YtfhnamomiaekdaaGreatT07
import Derived.Test.YtfhnamomiaekdaaGreatT08
import Derived.Test.YtfhnamomiaekdaaGreatT03
set_option linter.unusedVariables false
set_option linter.unusedSimpArgs false
namespace Go.Proofs.YtfhnamomiaekdaaGreat
open Go.RowKit Go.Inq
set_option maxHeartbeats 8000000
attribute [local go_sem ↓] Go.wp_at_zero Go.wp_at_succ

def RFullW (H : List Txn) (A : Option Addr) (c : Nat) (Al : Option Addr) (cl : Nat) (l : List Cho) (base : Nat) : Nat → (Nat → Value) → World → Prop
  | 0, vs, _ => vs 0 = .agg #[.slice A H.length c]
  | 1, vs, W => GVR base H.length (pastE H) (vs 1) W
  | 2, vs, _ => vs 2 = .agg #[.slice A H.length c]
  | 3, vs, _ => vs 3 = .slice Al l.length cl
  | 4, vs, W => GVR base H.length (wwE l) (vs 4) W
  | 5, vs, W => GVR base H.length (orE (pastE H) (wwE l)) (vs 5) W
  | 6, vs, W => VarVR base (vs 6) W
  | 7, vs, W => ∃ g x y, vs 6 = .pointer (some ⟨g, 0, none⟩) ∧ base ≤ g ∧ vs 5 = .agg #[x, y] ∧ Blk W g 174 #[x, y]
  | _, _, _ => True
def rfullD : Nat → List Nat
  | 1 => [0]
  | 4 => [2, 3]
  | 5 => [1, 4]
  | 7 => [6, 5]
  | _ => []
theorem rfull_cg {H : List Txn} {A : Option Addr} {c : Nat} {Al : Option Addr} {cl : Nat} {l : List Cho} {base : Nat} : ∀ j (vs vs' : Nat → Value) w, (∀ k, k = j ∨ k ∈ rfullD j → vs k = vs' k) → RFullW H A c Al cl l base j vs w → RFullW H A c Al cl l base j vs' w := by
  intro j vs vs' w hk h
  match j, h with
  | 0, h | 1, h | 2, h | 3, h | 4, h | 5, h | 6, h =>
    simp only [RFullW] at h ⊢
    rw [← hk _ (.inl rfl)]
    exact h
  | 7, h =>
    simp only [RFullW] at h ⊢
    rw [← hk 6 (.inr (by simp [rfullD])), ← hk 5 (.inr (by simp [rfullD]))]
    exact h
  | n + 8, _ => trivial
theorem rfull_keep {H : List Txn} {A : Option Addr} {c : Nat} {Al : Option Addr} {cl : Nat} {l : List Cho} {base : Nat} : ∀ i j (vs : Nat → Value) w w', j ≠ i → j ∉ (fun _ => [] : Nat → List Nat) i → RFullW H A c Al cl l base j vs w → RPastSt 7 base i w w' → RFullW H A c Al cl l base j vs w' := by
  intro i j vs w w' hne _ h hs
  have hv := hs.var
  match j, h with
  | 0, h | 2, h | 3, h => exact h
  | 1, h | 4, h | 5, h =>
    simp only [RFullW] at h ⊢
    exact h.var hv
  | 6, h =>
    simp only [RFullW] at h ⊢
    exact VarVR.var h hv
  | 7, h =>
    unfold RPastSt at hs
    rw [if_neg (fun e => hne e.symm)] at hs
    simp only [RFullW] at h ⊢
    obtain ⟨g, x, y, h1, h2, h3, h4⟩ := h
    exact ⟨g, x, y, h1, h2, h3, h4.below hs h4.lt⟩
  | n + 8, _ => trivial
theorem rfullD_end : ∀ i, 8 ≤ i → rfullD i = [] := by
  intro i hi
  match i, hi with
  | n + 8, _ => rfl
set_option maxRecDepth 100000 in
theorem rfull18_any (A : Option Addr) (c : Nat) (H : List Txn) (level : Int) (Al : Option Addr) (cl : Nat) (l : List Cho) (w : World) (h : TxnS w (Old w) (.slice A H.length c) H) (hl : ChoS w (Old w) (.slice Al l.length cl) l) (hr : rightC H l = true) (hn : SmallH H) :
    Calls Tryz.prog 101 #[.agg #[.slice A H.length c], .int .i64 level, .slice Al l.length cl] w (OutR w H.length (fullE H level l)) := by
  obtain ⟨W0, hW0⟩ : ∃ W0, (w.alloc (.cells #[.slice A H.length c] 24)).alloc (.cells #[.int .i64 0, .slice none 0 0] 174) = W0 := ⟨_, rfl⟩
  have hB := below_two hW0
  have k0 := Blk.two1 hW0
  have k1 := Blk.two2 hW0
  have hrh := rightC_hist hr
  have h64 : H.length ≤ 64 := by have := ((rightH_iff H).1 hrh).1; omega
  replace hr := hide hr
  replace hn := hide hn
  replace hl := hide hl
  replace h := hide h
  replace hrh := hide hrh
  go_enter Tryz.func101, Tryz.ntmps101
  go_wp2_with fail
  clear hW0
  refine wp_region_rel (RFullW H A c Al cl l (w.heap.size + 2)) (fun W => Below w.heap.size w W ∧ Blk W w.heap.size 24 #[.slice A H.length c] ∧ Blk W (w.heap.size + 1) 174 #[.int .i64 0, .slice none 0 0]) (RPastSt 7 (w.heap.size + 2)) rfullD (by kernel_rfl) (by kernel_rfl) (by kernel_rfl) rfullD_end (fun _ => []) (by kernel_rfl) rfull_cg rfull_keep ⟨hB.drew, k0, k1⟩ ?hstep ?hend
  case hstep =>
    intro i o ho vs W hS hd
    obtain ⟨hb, m0, m1⟩ := hS
    have hT := h.out.below hb
    have hC := hl.out.below hb
    have hsz : w.heap.size + 2 ≤ W.heap.size := m1.lt
    match i, ho with
    | 0, ho | 2, ho =>
      simp only [List.getElem?_cons_zero, List.getElem?_cons_succ, Option.some.injEq] at ho
      subst ho
      simp only [acV, List.getElem?_toArray, List.getElem?_cons_zero, List.getElem?_cons_succ, Act.put, List.setIfInBounds_toArray, List.set_cons_zero, List.set_cons_succ]
      have c0 := m0.cell 0
      simp only [List.getElem?_toArray, List.getElem?_cons_zero] at c0
      go_wp2
      exact ⟨rfl, .agg #[.slice A H.length c], rfl, rfl, ⟨hb, m0, m1⟩, Below.refl _ _⟩
    | 3, ho =>
      simp only [List.getElem?_cons_zero, List.getElem?_cons_succ, Option.some.injEq] at ho
      subst ho
      simp only [acV, List.getElem?_toArray, List.getElem?_cons_zero, List.getElem?_cons_succ, Act.put, List.setIfInBounds_toArray, List.set_cons_zero, List.set_cons_succ]
      go_wp2
      exact ⟨rfl, .slice Al l.length cl, rfl, rfl, ⟨hb, m0, m1⟩, Below.refl _ _⟩
    | 1, ho =>
      have d0 := hd 0 (by simp [rfullD])
      simp only [RFullW] at d0
      simp only [List.getElem?_cons_zero, List.getElem?_cons_succ, Option.some.injEq] at ho
      subst ho
      simp only [acV, List.getElem?_toArray, List.getElem?_cons_zero, List.getElem?_cons_succ, Act.put, List.setIfInBounds_toArray, List.set_cons_zero, List.set_cons_succ]
      rw [d0]
      go_wp2_with fail
      refine (rpast17_any A c H _ hT hrh.out hn.out).mono ?_
      intro e W2 hO
      obtain ⟨v, rfl, hG, hb2⟩ := GVR.of h64 hsz hO
      go_wp2
      exact ⟨rfl, _, rfl, hG, ⟨hb.trans (hb2.mono hb.size), m0.below hb2 m0.lt, m1.below hb2 m1.lt⟩, hb2⟩
    | 4, ho =>
      have d2 := hd 2 (by simp [rfullD])
      have d3 := hd 3 (by simp [rfullD])
      simp only [RFullW] at d2 d3
      simp only [List.getElem?_cons_zero, List.getElem?_cons_succ, Option.some.injEq] at ho
      subst ho
      simp only [acV, List.getElem?_toArray, List.getElem?_cons_zero, List.getElem?_cons_succ, Act.put, List.setIfInBounds_toArray, List.set_cons_zero, List.set_cons_succ]
      rw [d2, d3]
      go_wp2_with fail
      refine (rww18_any A c H Al cl l _ hT hC hr.out).mono ?_
      intro e W2 hO
      obtain ⟨v, rfl, hG, hb2⟩ := GVR.of h64 hsz hO
      go_wp2
      exact ⟨rfl, _, rfl, hG, ⟨hb.trans (hb2.mono hb.size), m0.below hb2 m0.lt, m1.below hb2 m1.lt⟩, hb2⟩
    | 5, ho =>
      have g1 := hd 1 (by simp [rfullD])
      have g3 := hd 4 (by simp [rfullD])
      simp only [RFullW] at g1 g3
      obtain ⟨A1, c1, d1, q1, -⟩ := g1.gr h64
      obtain ⟨A3, c3, d3, q3, -⟩ := g3.gr h64
      simp only [List.getElem?_cons_zero, List.getElem?_cons_succ, Option.some.injEq] at ho
      subst ho
      simp only [acV, List.getElem?_toArray, List.getElem?_cons_zero, List.getElem?_cons_succ, Act.put, List.setIfInBounds_toArray, List.set_cons_zero, List.set_cons_succ]
      rw [d1, d3]
      go_wp2_with fail
      refine (runion12_any H.length _ _ (pastE H) _ _ (wwE l) (Old W) _ q1 q3 (fun b hb => hb)).mono ?_
      intro e W2 hO
      obtain ⟨v, rfl, hG, hb2⟩ := GVR.of h64 hsz hO
      go_wp2
      exact ⟨rfl, _, rfl, hG, ⟨hb.trans (hb2.mono hb.size), m0.below hb2 m0.lt, m1.below hb2 m1.lt⟩, hb2⟩
    | 6, ho =>
      simp only [List.getElem?_cons_zero, List.getElem?_cons_succ, Option.some.injEq] at ho
      subst ho
      simp only [acV, List.getElem?_toArray, List.getElem?_cons_zero, List.getElem?_cons_succ, Act.put, List.setIfInBounds_toArray, List.set_cons_zero, List.set_cons_succ]
      go_wp2
      exact ⟨rfl, _, rfl, ⟨W.heap.size, by omega, rfl, _, _, Blk.new _ _ _⟩, ⟨hb.alloc hb.size _, m0.alloc _, m1.alloc _⟩, (Below.refl _ _).alloc (Nat.le_refl _) _⟩
    | 7, ho =>
      obtain ⟨g, hg, d8, x, y, q8⟩ := hd 6 (by simp [rfullD])
      obtain ⟨A6, c6, d6, q6⟩ := hd 5 (by simp [rfullD])
      simp only [List.getElem?_cons_zero, List.getElem?_cons_succ, Option.some.injEq] at ho
      subst ho
      simp only [acV, List.getElem?_toArray, List.getElem?_cons_zero, List.getElem?_cons_succ, Act.put, List.setIfInBounds_toArray, List.set_cons_zero, List.set_cons_succ]
      rw [d8, d6]
      have c0 := q8.cell 0
      have c1 := q8.cell 1
      have f0 := q8.frozen 0
      have f1 := q8.frozen 1
      simp only [List.getElem?_toArray, List.getElem?_cons_zero, List.getElem?_cons_succ] at c0 c1
      go_wp2
      have hq := (q8.set_ 0 (.int .i64 H.length)).set_ 1 (.slice A6 H.length c6)
      have n1 : w.heap.size ≠ g := by omega
      have n2 : w.heap.size + 1 ≠ g := by omega
      refine ⟨rfl, undef, rfl, ⟨g, _, _, (show updV vs 7 undef 6 = _ from d8), hg, (show updV vs 7 undef 5 = _ from d6), by simpa using hq⟩, ⟨(hb.setCell (p := ⟨g, 0, none⟩) (by simp; omega) _).setCell (p := ⟨g, 1, none⟩) (by simp; omega) _, (m0.far n1 _).far n1 _, (m1.far n2 _).far n2 _⟩, ?_⟩
      unfold RPastSt
      rw [if_pos rfl]
      refine ⟨⟨rfl, rfl, rfl, by simp⟩, fun k hk => ?_⟩
      by_cases e : k = g
      · subst e
        exact .inr ⟨hg, _, _, q8, hq, by simp⟩
      · exact .inl ((Below.heap_setCell _ ⟨g, 1, none⟩ _ k e).trans (Below.heap_setCell _ ⟨g, 0, none⟩ _ k e))
    | n + 8, ho => simp at ho
  case hend =>
    rintro vs W ⟨hb, m0, m1⟩ hd
    obtain ⟨g, x, y, d8, hg, d6, q9⟩ := hd 7 (by simp) (by simp)
    have hG5 := hd 5 (by simp) (by simp)
    simp only [RFullW] at hG5
    obtain ⟨A6, c6, d6', hgr, q6⟩ := hG5.gr h64
    rw [d6] at d6'
    injection d6' with d6'
    simp only [Array.mk.injEq, List.cons.injEq, and_true] at d6'
    obtain ⟨rfl, rfl⟩ := d6'
    clear hd hG5
    simp only [acV, List.getElem?_toArray, List.getElem?_cons_zero, List.getElem?_cons_succ, Act.put, List.setIfInBounds_toArray, List.set_cons_zero, List.set_cons_succ, List.length_cons, List.length_nil, Nat.reduceAdd]
    rw [d8, d6]
    have hT := hide (h.out.below hb)
    have hC := hide (hl.out.below hb)
    have c0 := m0.cell 0
    simp only [List.getElem?_toArray, List.getElem?_cons_zero, List.getElem?_cons_succ] at c0
    clear k0 k1 d6 d8
    go_wp2_with fail
    refine (rrw18_any A c H Al cl l _ hT.out hC.out hr.out hn.out).mono ?_
    intro e W2 hO
    obtain ⟨v, rfl, hGr, hb2⟩ := GVR.of h64 (Nat.le_refl _) hO
    obtain ⟨Ar, cr, rfl, hgr2, -⟩ := hGr.gr h64
    clear c0 hT hC hO hGr
    obtain ⟨W3, hW3⟩ : ∃ W3, W2.alloc (.cells #[.int .i64 H.length, .slice Ar H.length cr] 174) = W3 := ⟨_, rfl⟩
    have hB3 := below_allocEq (Below.refl W2.heap.size W2) hW3 (Nat.le_refl _)
    have k9 := Blk.newEq hW3
    have hBW := hb2.trans (hB3.mono hb2.size)
    have m1c := m1.below hBW m1.lt
    have q9c := q9.below hBW q9.lt
    have hGd := hide (hgr.keep (Agree.below hBW (fun b h => h)) (fun b (h : b < W.heap.size) => (Nat.lt_of_lt_of_le h hBW.size : b < W3.heap.size)))
    have hGd2 := hide (hgr.keep (Agree.below hBW (fun b h => h)) (fun b (h : b < W.heap.size) => h))
    have hGo := hide (hgr2.keep (Agree.below hB3 (fun b h => h)) (fun b (h : b < W2.heap.size) => (Nat.lt_of_lt_of_le h hB3.size : b < W3.heap.size)))
    have hbc := hb.trans (hBW.mono hb.size)
    have hsz := m1.lt
    have hgl := q9.lt
    have hw2 := hb2.size
    have hw3 := hB3.size
    clear hBW hB3 hb2 hb m0 m1 q9 q6 hgr hgr2
    by_cases h1 : level = 1
    · have q3 : (level == 1) = true := by simpa using h1
      have hfe : Hid (fullE H level l = orE (orE (pastE H) (wwE l)) (thenE H.length (orE (pastE H) (wwE l)) (rwE H l))) := hide (by rw [fullE_eq, if_pos h1])
      clear h1
      have a0 := q9c.cell 0
      have a1 := q9c.cell 1
      have b0 := k9.cell 0
      have b1 := k9.cell 1
      simp only [List.getElem?_toArray, List.getElem?_cons_zero, List.getElem?_cons_succ] at a0 a1 b0 b1
      have hcp := hide (rcomp12_any H.length A6 c6 (orE (pastE H) (wwE l)) Ar cr (rwE H l) (Old W3) W3 hGd.out hGo.out (fun b h => h))
      go_wp2_with fail
      clear a0 a1 b0 b1 hW3
      refine hcp.out.mono ?_
      rintro e W4 ⟨u, rfl, hR4, hb4⟩
      obtain ⟨Ac, cc, rfl, hG4⟩ := hR4.gr h64 (K := fun b => W3.heap.size ≤ b ∧ b < W4.heap.size) (fun g h1 h2 => ⟨h1, h2⟩)
      have k94 := k9.below hb4 k9.lt
      have c0 := k94.cell 0
      have c1 := k94.cell 1
      have f0 := k94.frozen 0
      have f1 := k94.frozen 1
      simp only [List.getElem?_toArray, List.getElem?_cons_zero, List.getElem?_cons_succ] at c0 c1
      have hk9l := k9.lt
      have ng : g ≠ W2.heap.size := by omega
      have nr : w.heap.size + 1 ≠ W2.heap.size := by omega
      have m1d := ((m1c.below hb4 m1c.lt).far (p := ⟨W2.heap.size, 0, none⟩) nr (.int .i64 H.length)).far (p := ⟨W2.heap.size, 1, none⟩) nr (.slice Ac H.length cc)
      have q9d := ((q9c.below hb4 q9c.lt).far (p := ⟨W2.heap.size, 0, none⟩) ng (.int .i64 H.length)).far (p := ⟨W2.heap.size, 1, none⟩) ng (.slice Ac H.length cc)
      have k9d := (k94.set_ 0 (.int .i64 H.length)).set_ 1 (.slice Ac H.length cc)
      simp only [List.setIfInBounds_toArray, List.set_cons_zero, List.set_cons_succ] at k9d
      have hbd := ((hbc.trans (hb4.mono hbc.size)).setCell (p := ⟨W2.heap.size, 0, none⟩) (by simp; omega) (.int .i64 H.length)).setCell (p := ⟨W2.heap.size, 1, none⟩) (by simp; omega) (.slice Ac H.length cc)
      have hGd3 := hide (hGd2.out.keep (K' := Old W4) (((Agree.below hb4 (fun b h => Nat.lt_of_lt_of_le h (Nat.le_trans hw2 hw3))).trans (Agree.setCell ⟨W2.heap.size, 0, none⟩ (fun h => by have h2 : W2.heap.size < W.heap.size := h; omega) (.int .i64 H.length))).trans (Agree.setCell ⟨W2.heap.size, 1, none⟩ (fun h => by have h2 : W2.heap.size < W.heap.size := h; omega) (.slice Ac H.length cc))) (fun b h => Nat.lt_of_lt_of_le h (Nat.le_trans (Nat.le_trans hw2 hw3) hb4.size)))
      have hGo3 := hide (hG4.keep (K' := Old W4) ((Agree.setCell ⟨W2.heap.size, 0, none⟩ (fun h => by have h2 := h.1; dsimp only at h2; omega) (.int .i64 H.length)).trans (Agree.setCell ⟨W2.heap.size, 1, none⟩ (fun h => by have h2 := h.1; dsimp only at h2; omega) (.slice Ac H.length cc))) (fun b h => h.2))
      clear m1c q9c k9 k94 hcp hb4 hGd hGo hGd2 hG4 hR4 hbc
      obtain ⟨Wd, hWd⟩ : ∃ Wd, (W4.setCell ⟨W2.heap.size, 0, none⟩ (.int .i64 H.length)).setCell ⟨W2.heap.size, 1, none⟩ (.slice Ac H.length cc) = Wd := ⟨_, rfl⟩
      have hsd : Wd.heap.size = W4.heap.size := by rw [← hWd]; simp
      rw [hWd] at m1d q9d k9d hbd hGd3 hGo3
      have m1c := m1d
      have q9c := q9d
      have k9c := k9d
      have hbc := hbd
      have hGd := hGd3
      have hGo := hGo3
      have hKK := hide (fun b (h : Old W4 b) => (by have h2 : b < W4.heap.size := h; omega : b < Wd.heap.size))
      clear m1d q9d k9d hbd hGd3 hGo3
      have a0 := q9c.cell 0
      have a1 := q9c.cell 1
      have b0 := k9c.cell 0
      have b1 := k9c.cell 1
      simp only [List.getElem?_toArray, List.getElem?_cons_zero, List.getElem?_cons_succ] at a0 a1 b0 b1
      have hcall := hide (runion12_any H.length A6 c6 (orE (pastE H) (wwE l)) Ac cc (thenE H.length (orE (pastE H) (wwE l)) (rwE H l)) (Old W4) Wd hGd.out hGo.out hKK.out)
      go_wp2_with fail
      clear a0 a1 b0 b1
      refine hcall.out.mono ?_
      rintro e W6 ⟨uz, rfl, hRz, hb6⟩
      obtain ⟨Az, cz, rfl, -⟩ := hRz.gr h64 (K := fun _ => True) (fun _ _ _ => trivial)
      have m16 := m1c.below hb6 m1c.lt
      have hb7 := hbc.trans (hb6.mono hbc.size)
      have j0 := m16.cell 0
      have j1 := m16.cell 1
      have jf := m16.frozen 0
      have jf1 := m16.frozen 1
      simp only [List.getElem?_toArray, List.getElem?_cons_zero, List.getElem?_cons_succ] at j0 j1
      have hml := m1c.lt
      clear hcall
      go_wp2
      exact bodyPost_ret (v := .agg #[.int .i64 H.length, .slice Az H.length cz]) (by simp [results, Tryz.results101, go_sem, j0, j1]) rfl ⟨_, rfl, by rw [hfe.out]; exact ((hRz.far (p := ⟨w.heap.size + 1, 0, none⟩) hml _).far (p := ⟨w.heap.size + 1, 1, none⟩) hml _).base (by omega), (hb7.setCell (p := ⟨w.heap.size + 1, 0, none⟩) (by simp) _).setCell (p := ⟨w.heap.size + 1, 1, none⟩) (by simp) _⟩
    · have q3 : (level == 1) = false := by simpa using h1
      have hfe : Hid (fullE H level l = orE (orE (pastE H) (wwE l)) (rwE H l)) := hide (by rw [fullE_eq, if_neg h1])
      have k9c := k9
      have hKK := hide (fun b (h : Old W3 b) => h)
      clear h1 k9
      have a0 := q9c.cell 0
      have a1 := q9c.cell 1
      have b0 := k9c.cell 0
      have b1 := k9c.cell 1
      simp only [List.getElem?_toArray, List.getElem?_cons_zero, List.getElem?_cons_succ] at a0 a1 b0 b1
      have hcall := hide (runion12_any H.length A6 c6 (orE (pastE H) (wwE l)) Ar cr (rwE H l) (Old W3) W3 hGd.out hGo.out hKK.out)
      go_wp2_with fail
      clear a0 a1 b0 b1
      refine hcall.out.mono ?_
      rintro e W6 ⟨uz, rfl, hRz, hb6⟩
      obtain ⟨Az, cz, rfl, -⟩ := hRz.gr h64 (K := fun _ => True) (fun _ _ _ => trivial)
      have m16 := m1c.below hb6 m1c.lt
      have hb7 := hbc.trans (hb6.mono hbc.size)
      have j0 := m16.cell 0
      have j1 := m16.cell 1
      have jf := m16.frozen 0
      have jf1 := m16.frozen 1
      simp only [List.getElem?_toArray, List.getElem?_cons_zero, List.getElem?_cons_succ] at j0 j1
      have hml := m1c.lt
      clear hcall
      go_wp2
      exact bodyPost_ret (v := .agg #[.int .i64 H.length, .slice Az H.length cz]) (by simp [results, Tryz.results101, go_sem, j0, j1]) rfl ⟨_, rfl, by rw [hfe.out]; exact ((hRz.far (p := ⟨w.heap.size + 1, 0, none⟩) hml _).far (p := ⟨w.heap.size + 1, 1, none⟩) hml _).base (by omega), (hb7.setCell (p := ⟨w.heap.size + 1, 0, none⟩) (by simp) _).setCell (p := ⟨w.heap.size + 1, 1, none⟩) (by simp) _⟩
end Go.Proofs.YtfhnamomiaekdaaGreat

namespace Go.Proofs.YtfhnamomiaekdaaGreat
open Go.RowKit Go.Inq
set_option maxHeartbeats 8000000
attribute [local go_sem ↓] Go.wp_at_zero Go.wp_at_succ

set_option maxRecDepth 100000 in
theorem rgood18_any (A : Option Addr) (c : Nat) (H : List Txn) (level : Int) (Al : Option Addr) (cl : Nat) (l : List Cho) (w : World) (h : TxnS w (Old w) (.slice A H.length c) H) (hl : ChoS w (Old w) (.slice Al l.length cl) l) (hr : rightC H l = true) (hn : SmallH H) :
    Calls Tryz.prog 43 #[.agg #[.slice A H.length c], .int .i64 level, .slice Al l.length cl] w fun e w' => e = .returned (.bool (goodB H level l)) ∧ Below w.heap.size w w' := by
  have hn64 : H.length ≤ 64 := by have := ((rightH_iff H).1 (rightC_hist hr)).1; omega
  obtain ⟨W0, hW0⟩ : ∃ W0, w.alloc (.cells #[.slice A H.length c] 24) = W0 := ⟨_, rfl⟩
  have hb := below_allocEq (Below.refl w.heap.size w) hW0 (Nat.le_refl _)
  have k1 := Blk.newEq hW0
  have hfu := hide (rfull18_any A c H level Al cl l W0 (h.below hb) (hl.below hb) hr hn)
  have c0 := k1.cell 0
  simp only [List.getElem?_toArray, List.getElem?_cons_zero, List.getElem?_cons_succ] at c0
  have hgd : Hid (goodB H level l = !cycB H.length (fullE H level l)) := hide rfl
  rw [hgd.out]
  clear h hl hr hgd
  obtain ⟨q, hq⟩ : ∃ q, cycB H.length (fullE H level l) = q := ⟨_, rfl⟩
  rw [hq]
  replace hq := hide hq
  go_enter Tryz.func43, Tryz.ntmps43
  go_wp2_with fail
  clear hW0 c0
  refine hfu.out.mono ?_
  rintro e w1 ⟨u, rfl, hR, hb1⟩
  obtain ⟨A1, c1, rfl, hG⟩ := hR.gr hn64 (K := Old w1) (fun g _ h => h)
  have hb2 := hb.trans (hb1.mono hb.size)
  clear hfu
  go_wp2_with fail
  have hcy := hide (rcyc13_any H.length A1 c1 (fullE H level l) w1 hG)
  rw [hq.out] at hcy
  refine hcy.out.mono ?_
  rintro e w2 ⟨rfl, hb3⟩
  have hb4 := hb2.trans (hb3.mono hb2.size)
  clear hcy hq
  cases q
  all_goals
    go_wp2
    go_ret
    exact ⟨rfl, hb4⟩
end Go.Proofs.YtfhnamomiaekdaaGreat

namespace Go.Proofs.YtfhnamomiaekdaaGreat
open Go.RowKit Go.Inq
set_option maxHeartbeats 8000000
attribute [local go_sem ↓] Go.wp_at_zero Go.wp_at_succ

set_option maxRecDepth 100000 in
theorem rchk21_any (A : Option Addr) (c : Nat) (H : List Txn) (Ar : Option Addr) (cr : Nat) (R : List SRow) (w : World) (h : TxnS w (Old w) (.slice A H.length c) H) (hn : SmallH H) (hR : RowS w (Old w) (.slice Ar R.length cr) R) (hf : FitS R) :
    Calls Tryz.prog 12 #[.agg #[.slice A H.length c], .slice Ar R.length cr] w fun e w' => e = .returned (.bool (checkS H R)) ∧ Below w.heap.size w w' := by
  obtain ⟨W0, hW0⟩ : ∃ W0, w.alloc (.cells #[.slice A H.length c] 24) = W0 := ⟨_, rfl⟩
  have hB := below_allocEq (Below.refl w.heap.size w) hW0 (Nat.le_refl _)
  have k0 := Blk.newEq hW0
  have hT := h.below hB
  have hRS := hR.below hB
  have hrc := hide (rright21_any A c H Ar cr R W0 hT hn hRS hf)
  have hno := hide (fun (e : rightS H R = false) => (choS_no e).2)
  have hyes := hide (fun (e : rightS H R = true) => (by rw [checkS_good, e, Bool.true_and] : checkS H R = goodB H 1 (choS H R)))
  have hr1 := hide (fun (e : rightS H R = true) => choS_rightC e)
  obtain ⟨q, hq⟩ : ∃ q, checkS H R = q := ⟨_, rfl⟩
  rw [hq] at hno hyes ⊢
  clear hq
  have c0 := k0.cell 0
  simp only [List.getElem?_toArray, List.getElem?_cons_zero, List.getElem?_cons_succ] at c0
  clear h hR
  replace hf := hide hf
  replace hn := hide hn
  go_enter Tryz.func12, Tryz.ntmps12
  go_wp2_with fail
  clear c0 hW0
  refine hrc.out.mono ?_
  rintro e w1 ⟨rfl, hb1⟩
  have hB1 := hB.trans (hb1.mono hB.size)
  replace k0 := k0.below hb1 k0.lt
  have hT1 := hide (hT.below hb1)
  have hR1 := hide (hRS.below hb1)
  have c0 := k0.cell 0
  simp only [List.getElem?_toArray, List.getElem?_cons_zero, List.getElem?_cons_succ] at c0
  clear hrc hT hRS hb1 hB
  cases hr : rightS H R with
  | false =>
    obtain rfl := hno.out hr
    clear hr hno hyes hr1
    go_wp2
    go_ret
    exact ⟨rfl, hB1⟩
  | true =>
    have hqe := hide (hyes.out hr)
    have hr2 := hide (hr1.out hr)
    clear hr hno hyes hr1
    go_upto_region 4 with fail
    have hTd : TxnS w1.drew (Old w1.drew) (.slice A H.length c) H := TxnS.keep hT1.out (Agree.drew _ _) (fun b h => h)
    have hRd : RowS w1.drew (Old w1.drew) (.slice Ar R.length cr) R := RowS.keep hR1.out (Agree.drew _ _) (fun b h => h)
    have hBd : Below w.heap.size w w1.drew := hB1.trans ⟨rfl, rfl, rfl, Nat.le_refl _, fun _ _ => rfl⟩
    have kd : Blk w1.drew w.heap.size 24 #[.slice A H.length c] := k0
    have hch := hide (rcho21_any A c H Ar cr R w1.drew hTd hn.out hRd hf.out)
    have hgo := hide (fun wl (hb : Below w1.drew.heap.size w1.drew wl) Al cl (hl : ChoS wl (Old wl) (.slice Al (choS H R).length cl) (choS H R)) => rgood18_any A c H 1 Al cl (choS H R) wl (hTd.below hb) hl hr2.out hn.out)
    generalize choS H R = C at *
    clear hr2 hTd hRd hT1 hR1
    refine wp_region_alts [1, 2] [0, 3, 4, 5] [[0, 3, 4, 5], [3, 0, 4, 5]] (by kernel_rfl) (by kernel_rfl) (fun _ _ d _ _ h => by cases d <;> exact h) ?_
    simp only [List.filterMap_cons, List.filterMap_nil, List.getElem?_cons_zero, List.getElem?_cons_succ]
    repeat still_step
    refine wpStill_nil ?_
    intro i0 hi0
    simp only [List.filterMap_cons, List.head?_cons, List.filterMap_nil, List.mem_cons, List.not_mem_nil, or_false, or_self] at hi0
    obtain rfl | rfl : i0 = 0 ∨ i0 = 3 := by omega
    · refine wpOp_list rfl ?_
      simp only [tailsOf, List.filterMap_cons, List.filterMap_nil, if_true, if_false, reduceIte, Nat.reduceEqDiff, List.length_cons, List.length_nil, Nat.reduceAdd]
      go_wp2_with fail
      refine wpAlt_one _ _ _ _ rfl ?_
      simp only [List.filterMap_cons, List.filterMap_nil, List.getElem?_toArray, List.getElem?_cons_zero, List.getElem?_cons_succ]
      go_wp2_with fail
      refine hch.out.mono ?_
      rintro e wl ⟨vl, rfl, hLO, hbl⟩
      obtain ⟨Al, cl, rfl⟩ := hLO.form
      have hB2 := hBd.trans (hbl.mono hBd.size)
      have hg := hide (hgo.out wl hbl Al cl (hLO.sl (K := Old wl) (fun g h1 h2 => h2)))
      clear hLO hbl hch hgo c0 k0 kd
      go_wp2_with fail
      refine hg.out.mono ?_
      rintro e w5 ⟨rfl, hb5⟩
      go_wp2
      go_ret
      exact ⟨ret_bool hqe.out.symm, hB2.trans (hb5.mono hB2.size)⟩
    · refine wpOp_list rfl ?_
      simp only [tailsOf, List.filterMap_cons, List.filterMap_nil, if_true, if_false, reduceIte, Nat.reduceEqDiff, List.length_cons, List.length_nil, Nat.reduceAdd]
      go_wp2_with fail
      refine hch.out.mono ?_
      rintro e wl ⟨vl, rfl, hLO, hbl⟩
      obtain ⟨Al, cl, rfl⟩ := hLO.form
      have hB2 := hBd.trans (hbl.mono hBd.size)
      have hg := hide (hgo.out wl hbl Al cl (hLO.sl (K := Old wl) (fun g h1 h2 => h2)))
      have kl := kd.below hbl kd.lt
      have c1 := kl.cell 0
      simp only [List.getElem?_toArray, List.getElem?_cons_zero, List.getElem?_cons_succ] at c1
      clear hLO hbl hch hgo c0 k0 kd kl
      go_wp2_with fail
      refine wpAlt_one _ _ _ _ rfl ?_
      simp only [List.filterMap_cons, List.filterMap_nil, List.getElem?_toArray, List.getElem?_cons_zero, List.getElem?_cons_succ]
      go_wp2_with fail
      refine hg.out.mono ?_
      rintro e w5 ⟨rfl, hb5⟩
      go_wp2
      go_ret
      exact ⟨ret_bool hqe.out.symm, hB2.trans (hb5.mono hB2.size)⟩
end Go.Proofs.YtfhnamomiaekdaaGreat

namespace Go.Proofs.YtfhnamomiaekdaaGreat
open Go.RowKit Go.Inq
set_option maxHeartbeats 8000000
attribute [local go_sem ↓] Go.wp_at_zero Go.wp_at_succ

/-- A row made, that leads to what lies anywhere. -/
def OutL (w : World) (R : List SRow) (e : Ending) (w' : World) : Prop := ∃ A c, e = .returned (.slice A R.length c) ∧ RowS w' (Old w') (.slice A R.length c) R ∧ Below w.heap.size w w'
theorem infoR21 : (Tryz.prog.info? 90).map (fun i => (i.zero, i.size, i.bytes)) = some (some (.agg #[.int .i64 0, .slice none 0 0]), 2, 32) := by kernel_rfl
set_option maxRecDepth 100000 in
theorem plain21_any (Ar : Option Addr) (cr : Nat) (R : List SRow) (w : World) (hR : RowS w (Old w) (.slice Ar R.length cr) R) (hl : R.length ≤ 1000000) :
    Calls Tryz.prog 8 #[.slice Ar R.length cr] w (OutL w R) := by
  obtain ⟨ix, hix, hix1, hix2, hix3⟩ := info_parts infoR21
  have hR9' := hide hR
  have hrow := hide (fun k (hk : k < R.length) => (take_snoc' hk : R.take (k + 1) = R.take k ++ [R[k]]))
  clear hR
  go_enter Tryz.func8, Tryz.ntmps8
  go_wp2_with fail
  go_loopw [3, 4] (fun s3 s4 wr => ∃ k : Nat, k ≤ R.length ∧ s4 = .int .i64 k ∧ OwnR 2 SRowR wr (fun b => b < wr.heap.size ∧ s3.ownBlock ≠ some b) w.heap.size 90 s3 (R.take k) ∧ Below w.heap.size w wr) (fun _ s4 _ => R.length - (intOf s4).toNat)
  case atStart => exact ⟨0, Nat.zero_le _, by go_num, OwnR.nil _ _ _ _ _ _, Below.refl _ _⟩
  case round =>
    obtain ⟨k, hk, rfl, hO, hb⟩ := hrel
    have hk1 : (0 : Int) ≤ (k : Int) := Int.natCast_nonneg _
    obtain ⟨Av, cv, rfl⟩ := hO.form
    by_cases hlt : k < R.length
    · have hi2 : (k : Int) < (R.length : Int) := by omega
      obtain ⟨b, off, Ay, cy, rfl, hbK, d0', d1', hy⟩ := RowS.at_ hR9'.out hlt
      have d0 := (hb.cell (p := ⟨b, off + k * 2, none⟩) hbK).trans d0'
      have d1 := (hb.cell (p := ⟨b, off + k * 2 + 1, none⟩) hbK).trans d1'
      clear d0' d1'
      have hst := hide (hrow.out k hlt)
      have hln : (R.take k).length ≤ 1000000 := by rw [List.length_take]; omega
      generalize R[k] = row at *
      obtain ⟨rk, rl⟩ := row
      dsimp only at *
      generalize R.take k = M at *
      replace hO := hide hO
      replace hy := hide hy
      have hsz0 := hb.size
      go_wp2_with fail
      refine wp_region_plan [0, 1, 2, 3, 4, 5, 6, 7, 8, 9, 10, 11] [12, 13, 14] (by kernel_rfl) (by kernel_rfl) (fun _ _ d _ _ h => by cases d <;> exact h) ?_
      simp only [List.filterMap_cons, List.filterMap_nil, List.getElem?_cons_zero, List.getElem?_cons_succ]
      repeat still_step
      refine wpStill_nil ?_
      refine wpList_plain rfl (fun K hK => ?_)
      go_simp
      refine hK _ _ ?_
      clear hK K
      have hOd : OwnR 2 SRowR wr.drew (fun b => b < wr.heap.size ∧ (Value.slice Av M.length cv).ownBlock ≠ some b) w.heap.size 90 (.slice Av M.length cv) M := hO.out
      have hvlt := hide (fun g hg => (hOd.lt g hg))
      obtain ⟨W2, hW2⟩ : ∃ W2, wr.drew.alloc (.cells #[.int .i64 rk, .slice Ay rl.length cy] 90) = W2 := ⟨_, rfl⟩
      have kN := Blk.newEq hW2
      have hB2 := below_allocEq (Below.refl wr.drew.heap.size wr.drew) hW2 (Nat.le_refl _)
      have hs2 : W2.heap.size = wr.heap.size + 1 := (size_allocEq hW2 :)
      change wpList _ _ _ _ _ (wr.drew.alloc (.cells #[.int .i64 rk, .slice Ay rl.length cy] 90))
      rw [hW2]
      have hB2w : Below wr.heap.size wr W2 := ((⟨rfl, rfl, rfl, Nat.le_refl _, fun _ _ => rfl⟩ : Below wr.heap.size wr wr.drew).trans hB2)
      have hbw := hb.trans (hB2w.mono hb.size)
      have hO2 : OwnR 2 SRowR W2 (fun b => b < W2.heap.size ∧ (Value.slice Av M.length cv).ownBlock ≠ some b) w.heap.size 90 (.slice Av M.length cv) M :=
        OwnR.keep SRowR.stab hOd (Agree.below hB2 fun b hb => hb.1) (fun b hb => ⟨by have := hb.1; omega, hb.2⟩) fun g hg => hB2.block g (hvlt.out g hg).2
      have hy2 : IntS W2 (fun b => b < W2.heap.size ∧ (Value.slice Av M.length cv).ownBlock ≠ some b) (.slice Ay rl.length cy) rl := IntS.keep hy.out (Agree.below hbw fun b h => h) (fun b hb => ⟨by have : b < w.heap.size := hb; omega, fun e => by have := (hvlt.out b e).1; have : b < w.heap.size := hb; omega⟩)
      have hsrc : SlR 2 SRowR W2 (fun b => b < W2.heap.size ∧ (Value.slice Av M.length cv).ownBlock ≠ some b) (.slice (some ⟨wr.heap.size, 0, none⟩) 1 1) [(⟨rk, rl⟩ : SRow)] :=
        SlR.one kN rfl ⟨_, _, rfl, hy2⟩ ⟨by show wr.heap.size < _; omega, fun e => by have : wr.heap.size < wr.heap.size := (hvlt.out _ e).2; omega⟩
      clear hW2 hOd hB2 hB2w hO kN hy hy2 d0 d1
      refine wpList_append_list (R := SRowR) rfl (.tmp 11) (.tmp 23) 31 rfl w.heap.size 90 ix _ 2 32 Tryz.underlying31 hix hix1 hix2 hix3 rfl (by decide) (.slice Av M.length cv) _ M rfl hO2 _ [(⟨rk, rl⟩ : SRow)] rfl hsrc (fun cs x h => SRowR.one _ _ cs x h) (by simp [maxLen]; omega) (by simp; omega) (by omega) (fun w' hg cs x hx => SRowR.stab _ _ _ _ _ _ hx (Agree.grown hg (fun b hb => ⟨hb.1, fun e => hb.2 e.symm⟩)) (fun _ h => h)) ?_
      intro v7 W7 hO7 hg7 hat7
      have hs7 := hg7.size
      have hb9 := hbw.grown hg7 hbw.size (fun j e => by have := (hvlt.out j e).1; omega)
      have hO9 : OwnR 2 SRowR W7 (fun b => b < W7.heap.size ∧ v7.ownBlock ≠ some b) w.heap.size 90 v7 (M ++ [(⟨rk, rl⟩ : SRow)]) := OwnR.keep SRowR.stab hO7 (Agree.refl _ _) (fun b hb => ⟨by have := hb.1; omega, fun e => by
          rcases hat7 with e' | e'
          · exact hb.2 (e' ▸ e)
          · rw [e'] at e; injection e with e; have := hb.1; omega⟩) fun _ _ => rfl
      rw [← hst.out] at hO9
      clear hO7 hO2 hsrc hg7 hat7 hvlt hbw
      replace hO9 := hide hO9
      go_wp2
      go_roundw
      case rel => exact ⟨k + 1, by omega, by go_num, hO9.out, hb9⟩
      case measure => simp [intOf]; omega
    · obtain rfl : k = R.length := by omega
      rw [List.take_length] at hO
      have hF : RowS wr (Old wr) (.slice Av R.length cv) R := (OwnR.keep SRowR.stab hO (Agree.refl _ _) (fun b hb => hb.1) fun _ _ => rfl : OwnR 2 SRowR wr (Old wr) _ _ _ _).sl fun g hg => (hO.lt g hg).2
      replace hF := hide hF
      go_wp2
      go_ret
      refine ⟨Av, cv, ?_, hF.out, hb⟩
      show Ending.returned (.slice Av (R.take R.length).length cv) = _
      rw [List.take_length]
end Go.Proofs.YtfhnamomiaekdaaGreat

namespace Go.Proofs.YtfhnamomiaekdaaGreat
open Go.RowKit Go.Inq
set_option maxHeartbeats 8000000
attribute [local go_sem ↓] Go.wp_at_zero Go.wp_at_succ

set_option maxRecDepth 100000 in
theorem rsame21_eq (A1 A2 : Option Addr) (c1 c2 : Nat) (R : List SRow) (w : World) (h1 : RowS w (Old w) (.slice A1 R.length c1) R) (h2 : RowS w (Old w) (.slice A2 R.length c2) R) (hf : FitS R) :
    Calls Tryz.prog 16 #[.slice A1 R.length c1, .slice A2 R.length c2] w fun e w' => e = .returned (.bool true) ∧ Below w.heap.size w w' := by
  have hRl := hf.1
  have hfl := hide (fun i (hi : i < R.length) => hf.2 _ (List.getElem_mem hi))
  have hz0 : ((R.length : Int) != (R.length : Int)) = false := bne_self_eq_false _
  replace hf := hide hf
  replace h1 := hide h1
  replace h2 := hide h2
  go_enter Tryz.func16, Tryz.ntmps16
  go_wp2
  go_loopw [5] (fun s5 wr => ∃ i : Nat, i ≤ R.length ∧ s5 = .int .i64 i ∧ Below w.heap.size w wr) (fun s5 _ => R.length - (intOf s5).toNat)
  case atStart => exact ⟨0, Nat.zero_le _, by go_num, Below.refl _ _⟩
  case round =>
    obtain ⟨Wo, rfl⟩ : ∃ Wo, Wo = wr := ⟨_, rfl⟩
    obtain ⟨i, hi, rfl, hb⟩ := hrel
    have hi1 : (0 : Int) ≤ (i : Int) := Int.natCast_nonneg _
    by_cases hil : i < R.length
    · have hi2 : (i : Int) < (R.length : Int) := by omega
      obtain ⟨b1, o1, Y1, y1, rfl, _, d0, d1, g1⟩ := (h1.out.below hb).at_ hil
      obtain ⟨b2, o2, Y2, y2, rfl, _, e0, e1, g2⟩ := (h2.out.below hb).at_ hil
      have hyl := hfl.out i hil
      generalize R[i] = row at *
      obtain ⟨rk, rl⟩ := row
      dsimp only at *
      replace g1 := hide g1
      replace g2 := hide g2
      have hz1 : (rk != rk) = false := bne_self_eq_false _
      have hz2 : ((rl.length : Int) != (rl.length : Int)) = false := bne_self_eq_false _
      go_wp2_with fail
      go_quiet (fail)
      go_wp2_with fail
      go_loopw [6] (fun s6 wq => ∃ k : Nat, k ≤ rl.length ∧ s6 = .int .i64 k ∧ Below Wo.heap.size Wo wq) (fun s6 _ => rl.length - (intOf s6).toNat)
      case atStart => exact ⟨0, Nat.zero_le _, by go_num, ⟨rfl, rfl, rfl, Nat.le_refl _, fun _ _ => rfl⟩⟩
      case round =>
        obtain ⟨Wp, rfl⟩ : ∃ Wp, Wp = wr := ⟨_, rfl⟩
        obtain ⟨k, hk, rfl, hbq⟩ := hrel
        have hk1 : (0 : Int) ≤ (k : Int) := Int.natCast_nonneg _
        have x1 := (hbq.cell (p := ⟨b1, o1 + i * 2 + 1, none⟩) (block_lt_of_cell d1)).trans d1
        have z1 := (hbq.cell (p := ⟨b2, o2 + i * 2 + 1, none⟩) (block_lt_of_cell e1)).trans e1
        by_cases hkl : k < rl.length
        · have hk2 : (k : Int) < (rl.length : Int) := by omega
          obtain ⟨p1, q1, rfl, _, f1⟩ := (g1.out.below hbq).at_ hkl
          obtain ⟨p2, q2, rfl, _, f2⟩ := (g2.out.below hbq).at_ hkl
          generalize rl[k] = x at *
          have hz3 : (x != x) = false := bne_self_eq_false _
          go_wp2_with fail
          go_quiet (fail)
          go_wp2
          go_roundw
          case rel => exact ⟨k + 1, by omega, by go_num, hbq.trans ⟨rfl, rfl, rfl, Nat.le_refl _, fun _ _ => rfl⟩⟩
          case measure => simp [intOf]; omega
        · obtain rfl : k = rl.length := by omega
          go_wp2
          go_roundw
          case rel => exact ⟨i + 1, by omega, by go_num, hb.trans (hbq.mono hb.size)⟩
          case measure => simp [intOf]; omega
    · obtain rfl : i = R.length := by omega
      go_wp2
      go_ret
      exact ⟨rfl, hb⟩
end Go.Proofs.YtfhnamomiaekdaaGreat

namespace Go.Proofs.YtfhnamomiaekdaaGreat
open Go.RowKit Go.Inq
set_option maxHeartbeats 8000000
attribute [local go_sem ↓] Go.wp_at_zero Go.wp_at_succ

set_option maxRecDepth 100000 in
theorem rplace18_any (A : Option Addr) (c : Nat) (l : List Int) (x : Int) (K : Nat → Prop) (w : World) (h : IntS w K (.slice A l.length c) l) (hn : l.length ≤ 1000000000) :
    Calls Tryz.prog 105 #[.slice A l.length c, .int .i64 x] w fun e w' => e = .returned (.int .i64 (idxI l x)) ∧ w = w' := by
  replace h := hide h
  have hhit := hide (fun k (hk : k < l.length) => idxI_first (x := x) hk)
  have hmis := hide (idxI_miss (l := l) (x := x))
  generalize idxI l x = r at *
  go_enter Tryz.func105, Tryz.ntmps105
  go_wp2_with fail
  go_loop [5] (fun s5 => ∃ k : Nat, k ≤ l.length ∧ s5 = .int .i64 k ∧ Hid ((l.take k).contains x = false)) (fun s5 => l.length - (intOf s5).toNat)
  case atStart => exact ⟨0, Nat.zero_le _, by go_num, hide rfl⟩
  case round =>
    obtain ⟨k, hk, rfl, hc⟩ := hrel
    have hk1 : (0 : Int) ≤ (k : Int) := Int.natCast_nonneg _
    by_cases hlt : k < l.length
    · have hki : (k : Int) < (l.length : Int) := by omega
      obtain ⟨b, off, rfl, -, x1⟩ := h.out.at_ hlt
      have hst : Hid ((l.take (k + 1)).contains x = ((l.take k).contains x || l[k] == x)) := hide (by rw [take_snoc' hlt, List.contains_append]; congr 1; rw [List.contains_cons, List.contains_nil, Bool.or_false]; rw [Bool.eq_iff_iff, beq_iff_eq, beq_iff_eq]; exact eq_comm)
      have hin := hide (fun e => hhit.out k hlt hc.out e)
      generalize l[k] = y at *
      cases hy : (y == x) with
      | true =>
        have hr := hin.out (by simpa using hy)
        subst hr
        clear hin hst
        replace hc := hide hc
        replace hhit := hide hhit
        go_wp2
        go_ret
        exact ⟨rfl, rfl⟩
      | false =>
        have hr : Hid ((l.take (k + 1)).contains x = false) := hide (by rw [hst.out, hc.out, hy]; rfl)
        clear hin hst
        replace hc := hide hc
        go_wp2
        go_round
        case rel => exact ⟨k + 1, by omega, by go_num, hr⟩
        case measure => simp [intOf]; omega
    · obtain rfl : k = l.length := by omega
      have hr := hmis.out (by have := hc.out; rwa [List.take_length] at this)
      subst hr
      replace hc := hide hc
      go_wp2
      go_ret
      exact ⟨rfl, rfl⟩
set_option maxRecDepth 100000 in
theorem rperm18_any (A : Option Addr) (c : Nat) (l : List Int) (n : Nat) (K : Nat → Prop) (w : World) (h : IntS w K (.slice A l.length c) l) (hn : l.length ≤ 1000000000) :
    Calls Tryz.prog 50 #[.slice A l.length c, .int .i64 (n : Int)] w fun e w' => e = .returned (.bool (permB l n)) ∧ w = w' := by
  replace h := hide h
  by_cases hln : l.length = n
  · subst hln
    have hno : Hid (∀ i, i < l.length → l.contains (i : Int) = false → permB l l.length = false) := hide (fun i hi hc => by
      unfold permB
      rw [Bool.and_eq_false_iff]
      right
      rw [List.all_eq_false]
      exact ⟨i, List.mem_range.2 hi, by rw [hc]; decide⟩)
    have hyes : Hid ((∀ i, i < l.length → l.contains (i : Int) = true) → permB l l.length = true) := hide (fun g => by
      unfold permB
      rw [decide_eq_true rfl, Bool.true_and, List.all_eq_true]
      exact fun i hi => g i (List.mem_range.1 hi))
    generalize permB l l.length = r at *
    go_enter Tryz.func50, Tryz.ntmps50
    go_wp2_with fail
    go_loop [5] (fun s5 => ∃ k : Nat, k ≤ l.length ∧ s5 = .int .i64 k ∧ Hid (∀ i, i < k → l.contains (i : Int) = true)) (fun s5 => l.length - (intOf s5).toNat)
    case atStart => exact ⟨0, Nat.zero_le _, by go_num, hide (fun i hi => absurd hi (by omega))⟩
    case round =>
      obtain ⟨k, hk, rfl, hall⟩ := hrel
      have hk1 : (0 : Int) ≤ (k : Int) := Int.natCast_nonneg _
      by_cases hlt : k < l.length
      · have hki : (k : Int) < (l.length : Int) := by omega
        have hcall := hide (rplace18_any A c l (k : Int) K w h.out hn)
        have hneg := hide (idxI_neg (l := l) (x := (k : Int)))
        have hst := hide (fun (g : l.contains (k : Int) = true) => (fun i (hi : i < k + 1) => (by
          by_cases e : i = k
          · subst e; exact g
          · exact hall.out i (by omega) : l.contains (i : Int) = true)))
        have hno2 := hide (hno.out k hlt)
        generalize idxI l (k : Int) = q at *
        go_wp2_with fail
        refine hcall.out.mono ?_
        rintro e w1 ⟨rfl, rfl⟩
        by_cases hq : q < 0
        · have hr := hno2.out (hneg.out.1 hq)
          have hqb : decide (q < 0) = true := by simpa using hq
          subst hr
          clear hneg hst hno2 hq
          replace hall := hide hall
          go_wp2
          go_ret
          exact ⟨rfl, rfl⟩
        · have hqb : decide (q < 0) = false := by simpa using hq
          have hr := hide (hst.out (by
            cases e : l.contains (k : Int) with
            | true => rfl
            | false => exact absurd (hneg.out.2 e) hq))
          clear hneg hst hno2 hq hall
          go_wp2
          go_round
          case rel => exact ⟨k + 1, by omega, by go_num, hr⟩
          case measure => simp [intOf]; omega
      · obtain rfl : k = l.length := by omega
        have hr := hyes.out hall.out
        subst hr
        replace hall := hide hall
        go_wp2
        go_ret
        exact ⟨rfl, rfl⟩
  · have hne : ((l.length : Int) != (n : Int)) = true := by simp; omega
    have hr : permB l n = false := by unfold permB; rw [decide_eq_false hln]; rfl
    rw [hr]
    clear hln hr
    go_enter Tryz.func50, Tryz.ntmps50
    go_wp2
    go_ret
    exact ⟨rfl, rfl⟩
end Go.Proofs.YtfhnamomiaekdaaGreat
