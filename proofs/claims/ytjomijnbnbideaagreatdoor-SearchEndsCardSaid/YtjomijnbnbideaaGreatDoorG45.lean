/-
  Walks: layer 18's reference: all that must not lead back.
-/
import Derived.Test.YtjomijnbnbideaaGreatDoorG44
import Derived.Test.YtjomijnbnbideaaGreatDoorG27
import Derived.Test.YtjomijnbnbideaaGreatDoorG41
import Derived.Test.YtjomijnbnbideaaGreatDoorG05
set_option linter.unusedVariables false
set_option linter.unusedSimpArgs false
namespace Go.Proofs.YtjomijnbnbideaaGreatDoor
open Go.RowKit Go.Inq
set_option maxHeartbeats 8000000
attribute [local go_sem ↓] Go.wp_at_zero Go.wp_at_succ

def RFullW (H : List Txn) (A : Option Addr) (c : Nat) (Al : Option Addr) (cl : Nat) (l : List Cho) (base : Nat) : Nat → (Nat → Value) → World → Prop
  | 0, vs, _ => vs 0 = .agg #[.slice A H.length c]
  | 1, vs, W => GVR base H.length (pastE H) (vs 1) W
  | 2, vs, _ => vs 2 = .agg #[.slice A H.length c]
  | 3, vs, _ => vs 3 = .slice Al l.length cl
  | 4, vs, W => GVR base H.length (wwE l) (vs 4) W
  | 5, vs, W => GVR base H.length (orE (pastE H) (wwE l)) (vs 5) W
  | 6, vs, W => VarVR base (vs 6) W
  | 7, vs, W => ∃ g x y, vs 6 = .pointer (some ⟨g, 0, none⟩) ∧ base ≤ g ∧ vs 5 = .agg #[x, y] ∧ Blk W g 124 #[x, y]
  | _, _, _ => True
def rfullD : Nat → List Nat
  | 1 => [0]
  | 4 => [2, 3]
  | 5 => [1, 4]
  | 7 => [6, 5]
  | _ => []
theorem rfull_cg {H : List Txn} {A : Option Addr} {c : Nat} {Al : Option Addr} {cl : Nat} {l : List Cho} {base : Nat} : ∀ j (vs vs' : Nat → Value) w, (∀ k, k = j ∨ k ∈ rfullD j → vs k = vs' k) → RFullW H A c Al cl l base j vs w → RFullW H A c Al cl l base j vs' w := by
  intro j vs vs' w hk h
  match j, h with
  | 0, h | 1, h | 2, h | 3, h | 4, h | 5, h | 6, h =>
    simp only [RFullW] at h ⊢
    rw [← hk _ (.inl rfl)]
    exact h
  | 7, h =>
    simp only [RFullW] at h ⊢
    rw [← hk 6 (.inr (by simp [rfullD])), ← hk 5 (.inr (by simp [rfullD]))]
    exact h
  | n + 8, _ => trivial
theorem rfull_keep {H : List Txn} {A : Option Addr} {c : Nat} {Al : Option Addr} {cl : Nat} {l : List Cho} {base : Nat} : ∀ i j (vs : Nat → Value) w w', j ≠ i → j ∉ (fun _ => [] : Nat → List Nat) i → RFullW H A c Al cl l base j vs w → RPastSt 7 base i w w' → RFullW H A c Al cl l base j vs w' := by
  intro i j vs w w' hne _ h hs
  have hv := hs.var
  match j, h with
  | 0, h | 2, h | 3, h => exact h
  | 1, h | 4, h | 5, h =>
    simp only [RFullW] at h ⊢
    exact h.var hv
  | 6, h =>
    simp only [RFullW] at h ⊢
    exact VarVR.var h hv
  | 7, h =>
    unfold RPastSt at hs
    rw [if_neg (fun e => hne e.symm)] at hs
    simp only [RFullW] at h ⊢
    obtain ⟨g, x, y, h1, h2, h3, h4⟩ := h
    exact ⟨g, x, y, h1, h2, h3, h4.below hs h4.lt⟩
  | n + 8, _ => trivial
theorem rfullD_end : ∀ i, 8 ≤ i → rfullD i = [] := by
  intro i hi
  match i, hi with
  | n + 8, _ => rfl
set_option maxRecDepth 100000 in
theorem rfull18_any (A : Option Addr) (c : Nat) (H : List Txn) (level : Int) (Al : Option Addr) (cl : Nat) (l : List Cho) (w : World) (h : TxnS w (Old w) (.slice A H.length c) H) (hl : ChoS w (Old w) (.slice Al l.length cl) l) (hr : rightC H l = true) (hn : SmallH H) :
    Calls Tryz.prog 70 #[.agg #[.slice A H.length c], .int .i64 level, .slice Al l.length cl] w (OutR w H.length (fullE H level l)) := by
  obtain ⟨W0, hW0⟩ : ∃ W0, (w.alloc (.cells #[.slice A H.length c] 24)).alloc (.cells #[.int .i64 0, .slice none 0 0] 124) = W0 := ⟨_, rfl⟩
  have hB := below_two hW0
  have k0 := Blk.two1 hW0
  have k1 := Blk.two2 hW0
  have hrh := rightC_hist hr
  have h64 : H.length ≤ 64 := by have := ((rightH_iff H).1 hrh).1; omega
  replace hr := hide hr
  replace hn := hide hn
  replace hl := hide hl
  replace h := hide h
  replace hrh := hide hrh
  go_enter Tryz.func70, Tryz.ntmps70
  go_wp2_with fail
  clear hW0
  refine wp_region_rel (RFullW H A c Al cl l (w.heap.size + 2)) (fun W => Below w.heap.size w W ∧ Blk W w.heap.size 24 #[.slice A H.length c] ∧ Blk W (w.heap.size + 1) 124 #[.int .i64 0, .slice none 0 0]) (RPastSt 7 (w.heap.size + 2)) rfullD (by kernel_rfl) (by kernel_rfl) (by kernel_rfl) rfullD_end (fun _ => []) (by kernel_rfl) rfull_cg rfull_keep ⟨hB.drew, k0, k1⟩ ?hstep ?hend
  case hstep =>
    intro i o ho vs W hS hd
    obtain ⟨hb, m0, m1⟩ := hS
    have hT := h.out.below hb
    have hC := hl.out.below hb
    have hsz : w.heap.size + 2 ≤ W.heap.size := m1.lt
    match i, ho with
    | 0, ho | 2, ho =>
      simp only [gZ, gS, Option.some.injEq] at ho
      subst ho
      simp only [acV, gA, gZ, gS, Act.put, sA, sZ, sS]
      have c0 := Blk.n0 m0
      go_wp2
      exact ⟨rfl, .agg #[.slice A H.length c], rfl, rfl, ⟨hb, m0, m1⟩, Below.refl _ _⟩
    | 3, ho =>
      simp only [gZ, gS, Option.some.injEq] at ho
      subst ho
      simp only [acV, gA, gZ, gS, Act.put, sA, sZ, sS]
      go_wp2
      exact ⟨rfl, .slice Al l.length cl, rfl, rfl, ⟨hb, m0, m1⟩, Below.refl _ _⟩
    | 1, ho =>
      have d0 := hd 0 (by simp [rfullD])
      simp only [RFullW] at d0
      simp only [gZ, gS, Option.some.injEq] at ho
      subst ho
      simp only [acV, gA, gZ, gS, Act.put, sA, sZ, sS]
      rw [d0]
      go_wp2_with fail
      refine (rpast17_any A c H _ hT hrh.out hn.out).mono ?_
      intro e W2 hO
      obtain ⟨v, rfl, hG, hb2⟩ := GVR.of h64 hsz hO
      go_wp2
      exact ⟨rfl, _, rfl, hG, ⟨hb.trans (hb2.mono hb.size), m0.below hb2 m0.lt, m1.below hb2 m1.lt⟩, hb2⟩
    | 4, ho =>
      have d2 := hd 2 (by simp [rfullD])
      have d3 := hd 3 (by simp [rfullD])
      simp only [RFullW] at d2 d3
      simp only [gZ, gS, Option.some.injEq] at ho
      subst ho
      simp only [acV, gA, gZ, gS, Act.put, sA, sZ, sS]
      rw [d2, d3]
      go_wp2_with fail
      refine (rww18_any A c H Al cl l _ hT hC hr.out).mono ?_
      intro e W2 hO
      obtain ⟨v, rfl, hG, hb2⟩ := GVR.of h64 hsz hO
      go_wp2
      exact ⟨rfl, _, rfl, hG, ⟨hb.trans (hb2.mono hb.size), m0.below hb2 m0.lt, m1.below hb2 m1.lt⟩, hb2⟩
    | 5, ho =>
      have g1 := hd 1 (by simp [rfullD])
      have g3 := hd 4 (by simp [rfullD])
      simp only [RFullW] at g1 g3
      obtain ⟨A1, c1, d1, q1, -⟩ := g1.gr h64
      obtain ⟨A3, c3, d3, q3, -⟩ := g3.gr h64
      simp only [gZ, gS, Option.some.injEq] at ho
      subst ho
      simp only [acV, gA, gZ, gS, Act.put, sA, sZ, sS]
      rw [d1, d3]
      go_wp2_with fail
      refine (runion12_any H.length _ _ (pastE H) _ _ (wwE l) (Old W) _ q1 q3 (fun b hb => hb)).mono ?_
      intro e W2 hO
      obtain ⟨v, rfl, hG, hb2⟩ := GVR.of h64 hsz hO
      go_wp2
      exact ⟨rfl, _, rfl, hG, ⟨hb.trans (hb2.mono hb.size), m0.below hb2 m0.lt, m1.below hb2 m1.lt⟩, hb2⟩
    | 6, ho =>
      simp only [gZ, gS, Option.some.injEq] at ho
      subst ho
      simp only [acV, gA, gZ, gS, Act.put, sA, sZ, sS]
      go_wp2
      exact ⟨rfl, _, rfl, ⟨W.heap.size, by omega, rfl, _, _, Blk.new _ _ _⟩, ⟨hb.alloc hb.size _, m0.alloc _, m1.alloc _⟩, (Below.refl _ _).alloc (Nat.le_refl _) _⟩
    | 7, ho =>
      obtain ⟨g, hg, d8, x, y, q8⟩ := hd 6 (by simp [rfullD])
      obtain ⟨A6, c6, d6, q6⟩ := hd 5 (by simp [rfullD])
      simp only [gZ, gS, Option.some.injEq] at ho
      subst ho
      simp only [acV, gA, gZ, gS, Act.put, sA, sZ, sS]
      rw [d8, d6]
      have c0 := Blk.n0 q8
      have c1 := Blk.n1 q8
      have f0 := q8.frozen 0
      have f1 := q8.frozen 1
      go_wp2
      have hq := (q8.set_ 0 (.int .i64 H.length)).set_ 1 (.slice A6 H.length c6)
      have n1 : w.heap.size ≠ g := by omega
      have n2 : w.heap.size + 1 ≠ g := by omega
      refine ⟨rfl, undef, rfl, ⟨g, _, _, (show updV vs 7 undef 6 = _ from d8), hg, (show updV vs 7 undef 5 = _ from d6), by simpa using hq⟩, ⟨(hb.setCell (p := ⟨g, 0, none⟩) (by simp; omega) _).setCell (p := ⟨g, 1, none⟩) (by simp; omega) _, (m0.far n1 _).far n1 _, (m1.far n2 _).far n2 _⟩, ?_⟩
      unfold RPastSt
      rw [if_pos rfl]
      refine ⟨⟨rfl, rfl, rfl, by simp⟩, fun k hk => ?_⟩
      by_cases e : k = g
      · subst e
        exact .inr ⟨hg, _, _, q8, hq, by simp⟩
      · exact .inl ((Below.heap_setCell _ ⟨g, 1, none⟩ _ k e).trans (Below.heap_setCell _ ⟨g, 0, none⟩ _ k e))
    | n + 8, ho => simp at ho
  case hend =>
    rintro vs W ⟨hb, m0, m1⟩ hd
    obtain ⟨g, x, y, d8, hg, d6, q9⟩ := hd 7 (by simp) (by simp)
    have hG5 := hd 5 (by simp) (by simp)
    simp only [RFullW] at hG5
    obtain ⟨A6, c6, d6', hgr, q6⟩ := hG5.gr h64
    rw [d6] at d6'
    injection d6' with d6'
    simp only [Array.mk.injEq, List.cons.injEq, and_true] at d6'
    obtain ⟨rfl, rfl⟩ := d6'
    clear hd hG5
    simp only [acV, gA, gZ, gS, Act.put, sA, sZ, sS, List.length_cons, List.length_nil, Nat.reduceAdd]
    rw [d8, d6]
    have hT := hide (h.out.below hb)
    have hC := hide (hl.out.below hb)
    have c0 := Blk.n0 m0
    clear k0 k1 d6 d8
    go_wp2_with fail
    refine (rrw18_any A c H Al cl l _ hT.out hC.out hr.out hn.out).mono ?_
    intro e W2 hO
    obtain ⟨v, rfl, hGr, hb2⟩ := GVR.of h64 (Nat.le_refl _) hO
    obtain ⟨Ar, cr, rfl, hgr2, -⟩ := hGr.gr h64
    clear c0 hT hC hO hGr
    obtain ⟨W3, hW3⟩ : ∃ W3, W2.alloc (.cells #[.int .i64 H.length, .slice Ar H.length cr] 124) = W3 := ⟨_, rfl⟩
    have hB3 := below_allocEq (Below.refl W2.heap.size W2) hW3 (Nat.le_refl _)
    have k9 := Blk.newEq hW3
    have hBW := hb2.trans (hB3.mono hb2.size)
    have m1c := m1.below hBW m1.lt
    have q9c := q9.below hBW q9.lt
    have hGd := hide (hgr.keep (Agree.below hBW (fun b h => h)) (fun b (h : b < W.heap.size) => (Nat.lt_of_lt_of_le h hBW.size : b < W3.heap.size)))
    have hGd2 := hide (hgr.keep (Agree.below hBW (fun b h => h)) (fun b (h : b < W.heap.size) => h))
    have hGo := hide (hgr2.keep (Agree.below hB3 (fun b h => h)) (fun b (h : b < W2.heap.size) => (Nat.lt_of_lt_of_le h hB3.size : b < W3.heap.size)))
    have hbc := hb.trans (hBW.mono hb.size)
    have hsz := m1.lt
    have hgl := q9.lt
    have hw2 := hb2.size
    have hw3 := hB3.size
    clear hBW hB3 hb2 hb m0 m1 q9 q6 hgr hgr2
    by_cases h1 : level = 1
    · have q3 : (level == 1) = true := by simpa using h1
      have hfe : Hid (fullE H level l = orE (orE (pastE H) (wwE l)) (thenE H.length (orE (pastE H) (wwE l)) (rwE H l))) := hide (by rw [fullE_eq, if_pos h1])
      clear h1
      have a0 := Blk.n0 q9c
      have a1 := Blk.n1 q9c
      have b0 := Blk.n0 k9
      have b1 := Blk.n1 k9
      have hcp := hide (rcomp12_any H.length A6 c6 (orE (pastE H) (wwE l)) Ar cr (rwE H l) (Old W3) W3 hGd.out hGo.out (fun b h => h))
      go_wp2_with fail
      clear a0 a1 b0 b1 hW3
      refine hcp.out.mono ?_
      rintro e W4 ⟨u, rfl, hR4, hb4⟩
      obtain ⟨Ac, cc, rfl, hG4⟩ := hR4.gr h64 (K := fun b => W3.heap.size ≤ b ∧ b < W4.heap.size) (fun g h1 h2 => ⟨h1, h2⟩)
      have k94 := k9.below hb4 k9.lt
      have c0 := Blk.n0 k94
      have c1 := Blk.n1 k94
      have f0 := k94.frozen 0
      have f1 := k94.frozen 1
      have hk9l := k9.lt
      have ng : g ≠ W2.heap.size := by omega
      have nr : w.heap.size + 1 ≠ W2.heap.size := by omega
      have m1d := ((m1c.below hb4 m1c.lt).far (p := ⟨W2.heap.size, 0, none⟩) nr (.int .i64 H.length)).far (p := ⟨W2.heap.size, 1, none⟩) nr (.slice Ac H.length cc)
      have q9d := ((q9c.below hb4 q9c.lt).far (p := ⟨W2.heap.size, 0, none⟩) ng (.int .i64 H.length)).far (p := ⟨W2.heap.size, 1, none⟩) ng (.slice Ac H.length cc)
      have k9d := (k94.set_ 0 (.int .i64 H.length)).set_ 1 (.slice Ac H.length cc)
      simp only [sA, sZ, sS] at k9d
      have hbd := ((hbc.trans (hb4.mono hbc.size)).setCell (p := ⟨W2.heap.size, 0, none⟩) (by simp; omega) (.int .i64 H.length)).setCell (p := ⟨W2.heap.size, 1, none⟩) (by simp; omega) (.slice Ac H.length cc)
      have hGd3 := hide (hGd2.out.keep (K' := Old W4) (((Agree.below hb4 (fun b h => Nat.lt_of_lt_of_le h (Nat.le_trans hw2 hw3))).trans (Agree.setCell ⟨W2.heap.size, 0, none⟩ (fun h => by have h2 : W2.heap.size < W.heap.size := h; omega) (.int .i64 H.length))).trans (Agree.setCell ⟨W2.heap.size, 1, none⟩ (fun h => by have h2 : W2.heap.size < W.heap.size := h; omega) (.slice Ac H.length cc))) (fun b h => Nat.lt_of_lt_of_le h (Nat.le_trans (Nat.le_trans hw2 hw3) hb4.size)))
      have hGo3 := hide (hG4.keep (K' := Old W4) ((Agree.setCell ⟨W2.heap.size, 0, none⟩ (fun h => by have h2 := h.1; dsimp only at h2; omega) (.int .i64 H.length)).trans (Agree.setCell ⟨W2.heap.size, 1, none⟩ (fun h => by have h2 := h.1; dsimp only at h2; omega) (.slice Ac H.length cc))) (fun b h => h.2))
      clear m1c q9c k9 k94 hcp hb4 hGd hGo hGd2 hG4 hR4 hbc
      obtain ⟨Wd, hWd⟩ : ∃ Wd, (W4.setCell ⟨W2.heap.size, 0, none⟩ (.int .i64 H.length)).setCell ⟨W2.heap.size, 1, none⟩ (.slice Ac H.length cc) = Wd := ⟨_, rfl⟩
      have hsd : Wd.heap.size = W4.heap.size := by rw [← hWd]; simp
      rw [hWd] at m1d q9d k9d hbd hGd3 hGo3
      have m1c := m1d
      have q9c := q9d
      have k9c := k9d
      have hbc := hbd
      have hGd := hGd3
      have hGo := hGo3
      have hKK := hide (fun b (h : Old W4 b) => (by have h2 : b < W4.heap.size := h; omega : b < Wd.heap.size))
      clear m1d q9d k9d hbd hGd3 hGo3
      have a0 := Blk.n0 q9c
      have a1 := Blk.n1 q9c
      have b0 := Blk.n0 k9c
      have b1 := Blk.n1 k9c
      have hcall := hide (runion12_any H.length A6 c6 (orE (pastE H) (wwE l)) Ac cc (thenE H.length (orE (pastE H) (wwE l)) (rwE H l)) (Old W4) Wd hGd.out hGo.out hKK.out)
      go_wp2_with fail
      clear a0 a1 b0 b1
      refine hcall.out.mono ?_
      rintro e W6 ⟨uz, rfl, hRz, hb6⟩
      obtain ⟨Az, cz, rfl, -⟩ := hRz.gr h64 (K := fun _ => True) (fun _ _ _ => trivial)
      have m16 := m1c.below hb6 m1c.lt
      have hb7 := hbc.trans (hb6.mono hbc.size)
      have j0 := Blk.n0 m16
      have j1 := Blk.n1 m16
      have jf := m16.frozen 0
      have jf1 := m16.frozen 1
      have hml := m1c.lt
      clear hcall
      go_wp2
      exact bodyPost_ret (v := .agg #[.int .i64 H.length, .slice Az H.length cz]) (by simp [results, Tryz.results70, go_sem, j0, j1]) rfl ⟨_, rfl, by rw [hfe.out]; exact ((hRz.far (p := ⟨w.heap.size + 1, 0, none⟩) hml _).far (p := ⟨w.heap.size + 1, 1, none⟩) hml _).base (by omega), (hb7.setCell (p := ⟨w.heap.size + 1, 0, none⟩) (by simp) _).setCell (p := ⟨w.heap.size + 1, 1, none⟩) (by simp) _⟩
    · have q3 : (level == 1) = false := by simpa using h1
      have hfe : Hid (fullE H level l = orE (orE (pastE H) (wwE l)) (rwE H l)) := hide (by rw [fullE_eq, if_neg h1])
      have k9c := k9
      have hKK := hide (fun b (h : Old W3 b) => h)
      clear h1 k9
      have a0 := Blk.n0 q9c
      have a1 := Blk.n1 q9c
      have b0 := Blk.n0 k9c
      have b1 := Blk.n1 k9c
      have hcall := hide (runion12_any H.length A6 c6 (orE (pastE H) (wwE l)) Ar cr (rwE H l) (Old W3) W3 hGd.out hGo.out hKK.out)
      go_wp2_with fail
      clear a0 a1 b0 b1
      refine hcall.out.mono ?_
      rintro e W6 ⟨uz, rfl, hRz, hb6⟩
      obtain ⟨Az, cz, rfl, -⟩ := hRz.gr h64 (K := fun _ => True) (fun _ _ _ => trivial)
      have m16 := m1c.below hb6 m1c.lt
      have hb7 := hbc.trans (hb6.mono hbc.size)
      have j0 := Blk.n0 m16
      have j1 := Blk.n1 m16
      have jf := m16.frozen 0
      have jf1 := m16.frozen 1
      have hml := m1c.lt
      clear hcall
      go_wp2
      exact bodyPost_ret (v := .agg #[.int .i64 H.length, .slice Az H.length cz]) (by simp [results, Tryz.results70, go_sem, j0, j1]) rfl ⟨_, rfl, by rw [hfe.out]; exact ((hRz.far (p := ⟨w.heap.size + 1, 0, none⟩) hml _).far (p := ⟨w.heap.size + 1, 1, none⟩) hml _).base (by omega), (hb7.setCell (p := ⟨w.heap.size + 1, 0, none⟩) (by simp) _).setCell (p := ⟨w.heap.size + 1, 1, none⟩) (by simp) _⟩
end Go.Proofs.YtjomijnbnbideaaGreatDoor

namespace Go.Proofs.YtjomijnbnbideaaGreatDoor
open Go.RowKit Go.Inq
set_option maxHeartbeats 8000000
attribute [local go_sem ↓] Go.wp_at_zero Go.wp_at_succ

set_option maxRecDepth 100000 in
theorem rgood18_any (A : Option Addr) (c : Nat) (H : List Txn) (level : Int) (Al : Option Addr) (cl : Nat) (l : List Cho) (w : World) (h : TxnS w (Old w) (.slice A H.length c) H) (hl : ChoS w (Old w) (.slice Al l.length cl) l) (hr : rightC H l = true) (hn : SmallH H) :
    Calls Tryz.prog 118 #[.agg #[.slice A H.length c], .int .i64 level, .slice Al l.length cl] w fun e w' => e = .returned (.bool (goodB H level l)) ∧ Below w.heap.size w w' := by
  have hn64 : H.length ≤ 64 := by have := ((rightH_iff H).1 (rightC_hist hr)).1; omega
  obtain ⟨W0, hW0⟩ : ∃ W0, w.alloc (.cells #[.slice A H.length c] 24) = W0 := ⟨_, rfl⟩
  have hb := below_allocEq (Below.refl w.heap.size w) hW0 (Nat.le_refl _)
  have k1 := Blk.newEq hW0
  have hfu := hide (rfull18_any A c H level Al cl l W0 (h.below hb) (hl.below hb) hr hn)
  have c0 := Blk.n0 k1
  have hgd : Hid (goodB H level l = !cycB H.length (fullE H level l)) := hide rfl
  rw [hgd.out]
  clear h hl hr hgd
  obtain ⟨q, hq⟩ : ∃ q, cycB H.length (fullE H level l) = q := ⟨_, rfl⟩
  rw [hq]
  replace hq := hide hq
  go_enter Tryz.func118, Tryz.ntmps118
  go_wp2_with fail
  clear hW0 c0
  refine hfu.out.mono ?_
  rintro e w1 ⟨u, rfl, hR, hb1⟩
  obtain ⟨A1, c1, rfl, hG⟩ := hR.gr hn64 (K := Old w1) (fun g _ h => h)
  have hb2 := hb.trans (hb1.mono hb.size)
  clear hfu
  go_wp2_with fail
  have hcy := hide (rcyc13_any H.length A1 c1 (fullE H level l) w1 hG)
  rw [hq.out] at hcy
  refine hcy.out.mono ?_
  rintro e w2 ⟨rfl, hb3⟩
  have hb4 := hb2.trans (hb3.mono hb2.size)
  clear hcy hq
  cases q
  all_goals
    go_wp2
    go_ret
    exact ⟨rfl, hb4⟩
end Go.Proofs.YtjomijnbnbideaaGreatDoor

namespace Go.Proofs.YtjomijnbnbideaaGreatDoor
open Go.RowKit Go.Inq
set_option maxHeartbeats 8000000
attribute [local go_sem ↓] Go.wp_at_zero Go.wp_at_succ

theorem rback18_any (k a b : Int) (w : World) : Calls Tryz.prog 74 #[.agg #[.int .i64 k, .int .i64 a, .int .i64 b]] w fun e w' => e = .returned (.agg #[.int .i64 k, .int .i64 b, .int .i64 a]) ∧ Below w.heap.size w w' := by
  obtain ⟨W0, hW0⟩ : ∃ W0, (w.alloc (.cells #[.int .i64 k, .int .i64 a, .int .i64 b] 49)).alloc (.cells #[.int .i64 0, .int .i64 0, .int .i64 0] 49) = W0 := ⟨_, rfl⟩
  have hb := below_two hW0
  have k1 := Blk.two1 hW0
  have k2 := Blk.two2 hW0
  have a0 := Blk.n0 k1
  have a1 := Blk.n1 k1
  have a2 := Blk.n2 k1
  have b0 := Blk.n0 k2
  have b1 := Blk.n1 k2
  have b2 := Blk.n2 k2
  have f0 := k2.frozen 0
  have f1 := k2.frozen 1
  have f2 := k2.frozen 2
  have hz := hide (((hb.setCell (p := ⟨w.heap.size + 1, 0, none⟩) (by simp) (.int .i64 k)).setCell (p := ⟨w.heap.size + 1, 1, none⟩) (by simp) (.int .i64 b)).setCell (p := ⟨w.heap.size + 1, 2, none⟩) (by simp) (.int .i64 a))
  have hq := ((k2.set_ 0 (.int .i64 k)).set_ 1 (.int .i64 b)).set_ 2 (.int .i64 a)
  simp only [sA, sZ, sS] at hq
  have y0 := Blk.n0 hq
  have y1 := Blk.n1 hq
  have y2 := Blk.n2 hq
  clear hq
  go_enter Tryz.func74, Tryz.ntmps74
  go_wp2_with fail
  exact bodyPost_ret (v := .agg #[.int .i64 k, .int .i64 b, .int .i64 a]) (by simp [results, Tryz.results74, go_sem, y0, y1, y2]) rfl ⟨rfl, hz.out⟩
end Go.Proofs.YtjomijnbnbideaaGreatDoor
