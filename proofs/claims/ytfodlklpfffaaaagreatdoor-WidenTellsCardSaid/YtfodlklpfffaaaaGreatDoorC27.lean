/-
  Walks: layer 18's reference: all that must not lead back.
-/
import Derived.Laws.MakeOwn
import Derived.Test.YtfodlklpfffaaaaGreatDoorC24
import Derived.Test.YtfodlklpfffaaaaGreatDoorC26
import Derived.Test.YtfodlklpfffaaaaGreatDoorC11
import Derived.Test.YtfodlklpfffaaaaGreatDoorC02
import Derived.Test.YtfodlklpfffaaaaGreatDoorC21
import Derived.Test.YtfodlklpfffaaaaGreatDoorC08
import Derived.Test.YtfodlklpfffaaaaGreatDoorC01
import Derived.Test.YtfodlklpfffaaaaGreatDoorC16
set_option linter.unusedVariables false
set_option linter.unusedSimpArgs false
namespace Go.Proofs.YtfodlklpfffaaaaGreatDoor
open Go.RowKit Go.Inq
set_option maxHeartbeats 8000000
attribute [local go_sem ↓] Go.wp_at_zero Go.wp_at_succ

def RFullW (H : List Txn) (A : Option Addr) (c : Nat) (Al : Option Addr) (cl : Nat) (l : List Cho) (base : Nat) : Nat → (Nat → Value) → World → Prop
  | 0, vs, _ => vs 0 = .agg #[.slice A H.length c]
  | 1, vs, W => GVR base H.length (pastE H) (vs 1) W
  | 2, vs, _ => vs 2 = .agg #[.slice A H.length c]
  | 3, vs, _ => vs 3 = .slice Al l.length cl
  | 4, vs, W => GVR base H.length (wwE l) (vs 4) W
  | 5, vs, W => GVR base H.length (orE (pastE H) (wwE l)) (vs 5) W
  | 6, vs, W => VarVR base (vs 6) W
  | 7, vs, W => ∃ g x y, vs 6 = .pointer (some ⟨g, 0, none⟩) ∧ base ≤ g ∧ vs 5 = .agg #[x, y] ∧ Blk W g 74 #[x, y]
  | _, _, _ => True
def rfullD : Nat → List Nat
  | 1 => [0]
  | 4 => [2, 3]
  | 5 => [1, 4]
  | 7 => [6, 5]
  | _ => []
theorem rfull_cg {H : List Txn} {A : Option Addr} {c : Nat} {Al : Option Addr} {cl : Nat} {l : List Cho} {base : Nat} : ∀ j (vs vs' : Nat → Value) w, (∀ k, k = j ∨ k ∈ rfullD j → vs k = vs' k) → RFullW H A c Al cl l base j vs w → RFullW H A c Al cl l base j vs' w := by
  intro j vs vs' w hk h
  match j, h with
  | 0, h | 1, h | 2, h | 3, h | 4, h | 5, h | 6, h =>
    simp only [RFullW] at h ⊢
    rw [← hk _ (.inl rfl)]
    exact h
  | 7, h =>
    simp only [RFullW] at h ⊢
    rw [← hk 6 (.inr (by simp [rfullD])), ← hk 5 (.inr (by simp [rfullD]))]
    exact h
  | n + 8, _ => trivial
theorem rfull_keep {H : List Txn} {A : Option Addr} {c : Nat} {Al : Option Addr} {cl : Nat} {l : List Cho} {base : Nat} : ∀ i j (vs : Nat → Value) w w', j ≠ i → j ∉ (fun _ => [] : Nat → List Nat) i → RFullW H A c Al cl l base j vs w → RPastSt 7 base i w w' → RFullW H A c Al cl l base j vs w' := by
  intro i j vs w w' hne _ h hs
  have hv := hs.var
  match j, h with
  | 0, h | 2, h | 3, h => exact h
  | 1, h | 4, h | 5, h =>
    simp only [RFullW] at h ⊢
    exact h.var hv
  | 6, h =>
    simp only [RFullW] at h ⊢
    exact VarVR.var h hv
  | 7, h =>
    unfold RPastSt at hs
    rw [if_neg (fun e => hne e.symm)] at hs
    simp only [RFullW] at h ⊢
    obtain ⟨g, x, y, h1, h2, h3, h4⟩ := h
    exact ⟨g, x, y, h1, h2, h3, h4.below hs h4.lt⟩
  | n + 8, _ => trivial
theorem rfullD_end : ∀ i, 8 ≤ i → rfullD i = [] := by
  intro i hi
  match i, hi with
  | n + 8, _ => rfl
set_option maxRecDepth 100000 in
theorem rfull18_any (A : Option Addr) (c : Nat) (H : List Txn) (level : Int) (Al : Option Addr) (cl : Nat) (l : List Cho) (w : World) (h : TxnS w (Old w) (.slice A H.length c) H) (hl : ChoS w (Old w) (.slice Al l.length cl) l) (hr : rightC H l = true) (hn : SmallH H) :
    Calls Tryz.prog 32 #[.agg #[.slice A H.length c], .int .i64 level, .slice Al l.length cl] w (OutR w H.length (fullE H level l)) := by
  obtain ⟨W0, hW0⟩ : ∃ W0, (w.alloc (.cells #[.slice A H.length c] 24)).alloc (.cells #[.int .i64 0, .slice none 0 0] 74) = W0 := ⟨_, rfl⟩
  have hB := below_two hW0
  have k0 := Blk.two1 hW0
  have k1 := Blk.two2 hW0
  have hrh := rightC_hist hr
  have h64 : H.length ≤ 64 := by have := ((rightH_iff H).1 hrh).1; omega
  replace hr := hide hr
  replace hn := hide hn
  replace hl := hide hl
  replace h := hide h
  replace hrh := hide hrh
  go_enter Tryz.func32, Tryz.ntmps32
  go_wp2_with fail
  clear hW0
  refine wp_region_rel (RFullW H A c Al cl l (w.heap.size + 2)) (fun W => Below w.heap.size w W ∧ Blk W w.heap.size 24 #[.slice A H.length c] ∧ Blk W (w.heap.size + 1) 74 #[.int .i64 0, .slice none 0 0]) (RPastSt 7 (w.heap.size + 2)) rfullD (by kernel_rfl) (by kernel_rfl) (by kernel_rfl) rfullD_end (fun _ => []) (by kernel_rfl) rfull_cg rfull_keep ⟨hB.drew, k0, k1⟩ ?hstep ?hend
  case hstep =>
    intro i o ho vs W hS hd
    obtain ⟨hb, m0, m1⟩ := hS
    have hT := h.out.below hb
    have hC := hl.out.below hb
    have hsz : w.heap.size + 2 ≤ W.heap.size := m1.lt
    match i, ho with
    | 0, ho | 2, ho =>
      simp only [List.getElem?_cons_zero, List.getElem?_cons_succ, Option.some.injEq] at ho
      subst ho
      simp only [acV, List.getElem?_toArray, List.getElem?_cons_zero, List.getElem?_cons_succ, Act.put, List.setIfInBounds_toArray, List.set_cons_zero, List.set_cons_succ]
      have c0 := m0.cell 0
      simp only [List.getElem?_toArray, List.getElem?_cons_zero] at c0
      go_wp2
      exact ⟨rfl, .agg #[.slice A H.length c], rfl, rfl, ⟨hb, m0, m1⟩, Below.refl _ _⟩
    | 3, ho =>
      simp only [List.getElem?_cons_zero, List.getElem?_cons_succ, Option.some.injEq] at ho
      subst ho
      simp only [acV, List.getElem?_toArray, List.getElem?_cons_zero, List.getElem?_cons_succ, Act.put, List.setIfInBounds_toArray, List.set_cons_zero, List.set_cons_succ]
      go_wp2
      exact ⟨rfl, .slice Al l.length cl, rfl, rfl, ⟨hb, m0, m1⟩, Below.refl _ _⟩
    | 1, ho =>
      have d0 := hd 0 (by simp [rfullD])
      simp only [RFullW] at d0
      simp only [List.getElem?_cons_zero, List.getElem?_cons_succ, Option.some.injEq] at ho
      subst ho
      simp only [acV, List.getElem?_toArray, List.getElem?_cons_zero, List.getElem?_cons_succ, Act.put, List.setIfInBounds_toArray, List.set_cons_zero, List.set_cons_succ]
      rw [d0]
      go_wp2_with fail
      refine (rpast17_any A c H _ hT hrh.out hn.out).mono ?_
      intro e W2 hO
      obtain ⟨v, rfl, hG, hb2⟩ := GVR.of h64 hsz hO
      go_wp2
      exact ⟨rfl, _, rfl, hG, ⟨hb.trans (hb2.mono hb.size), m0.below hb2 m0.lt, m1.below hb2 m1.lt⟩, hb2⟩
    | 4, ho =>
      have d2 := hd 2 (by simp [rfullD])
      have d3 := hd 3 (by simp [rfullD])
      simp only [RFullW] at d2 d3
      simp only [List.getElem?_cons_zero, List.getElem?_cons_succ, Option.some.injEq] at ho
      subst ho
      simp only [acV, List.getElem?_toArray, List.getElem?_cons_zero, List.getElem?_cons_succ, Act.put, List.setIfInBounds_toArray, List.set_cons_zero, List.set_cons_succ]
      rw [d2, d3]
      go_wp2_with fail
      refine (rww18_any A c H Al cl l _ hT hC hr.out).mono ?_
      intro e W2 hO
      obtain ⟨v, rfl, hG, hb2⟩ := GVR.of h64 hsz hO
      go_wp2
      exact ⟨rfl, _, rfl, hG, ⟨hb.trans (hb2.mono hb.size), m0.below hb2 m0.lt, m1.below hb2 m1.lt⟩, hb2⟩
    | 5, ho =>
      have g1 := hd 1 (by simp [rfullD])
      have g3 := hd 4 (by simp [rfullD])
      simp only [RFullW] at g1 g3
      obtain ⟨A1, c1, d1, q1, -⟩ := g1.gr h64
      obtain ⟨A3, c3, d3, q3, -⟩ := g3.gr h64
      simp only [List.getElem?_cons_zero, List.getElem?_cons_succ, Option.some.injEq] at ho
      subst ho
      simp only [acV, List.getElem?_toArray, List.getElem?_cons_zero, List.getElem?_cons_succ, Act.put, List.setIfInBounds_toArray, List.set_cons_zero, List.set_cons_succ]
      rw [d1, d3]
      go_wp2_with fail
      refine (runion12_any H.length _ _ (pastE H) _ _ (wwE l) (Old W) _ q1 q3 (fun b hb => hb)).mono ?_
      intro e W2 hO
      obtain ⟨v, rfl, hG, hb2⟩ := GVR.of h64 hsz hO
      go_wp2
      exact ⟨rfl, _, rfl, hG, ⟨hb.trans (hb2.mono hb.size), m0.below hb2 m0.lt, m1.below hb2 m1.lt⟩, hb2⟩
    | 6, ho =>
      simp only [List.getElem?_cons_zero, List.getElem?_cons_succ, Option.some.injEq] at ho
      subst ho
      simp only [acV, List.getElem?_toArray, List.getElem?_cons_zero, List.getElem?_cons_succ, Act.put, List.setIfInBounds_toArray, List.set_cons_zero, List.set_cons_succ]
      go_wp2
      exact ⟨rfl, _, rfl, ⟨W.heap.size, by omega, rfl, _, _, Blk.new _ _ _⟩, ⟨hb.alloc hb.size _, m0.alloc _, m1.alloc _⟩, (Below.refl _ _).alloc (Nat.le_refl _) _⟩
    | 7, ho =>
      obtain ⟨g, hg, d8, x, y, q8⟩ := hd 6 (by simp [rfullD])
      obtain ⟨A6, c6, d6, q6⟩ := hd 5 (by simp [rfullD])
      simp only [List.getElem?_cons_zero, List.getElem?_cons_succ, Option.some.injEq] at ho
      subst ho
      simp only [acV, List.getElem?_toArray, List.getElem?_cons_zero, List.getElem?_cons_succ, Act.put, List.setIfInBounds_toArray, List.set_cons_zero, List.set_cons_succ]
      rw [d8, d6]
      have c0 := q8.cell 0
      have c1 := q8.cell 1
      have f0 := q8.frozen 0
      have f1 := q8.frozen 1
      simp only [List.getElem?_toArray, List.getElem?_cons_zero, List.getElem?_cons_succ] at c0 c1
      go_wp2
      have hq := (q8.set_ 0 (.int .i64 H.length)).set_ 1 (.slice A6 H.length c6)
      have n1 : w.heap.size ≠ g := by omega
      have n2 : w.heap.size + 1 ≠ g := by omega
      refine ⟨rfl, undef, rfl, ⟨g, _, _, (show updV vs 7 undef 6 = _ from d8), hg, (show updV vs 7 undef 5 = _ from d6), by simpa using hq⟩, ⟨(hb.setCell (p := ⟨g, 0, none⟩) (by simp; omega) _).setCell (p := ⟨g, 1, none⟩) (by simp; omega) _, (m0.far n1 _).far n1 _, (m1.far n2 _).far n2 _⟩, ?_⟩
      unfold RPastSt
      rw [if_pos rfl]
      refine ⟨⟨rfl, rfl, rfl, by simp⟩, fun k hk => ?_⟩
      by_cases e : k = g
      · subst e
        exact .inr ⟨hg, _, _, q8, hq, by simp⟩
      · exact .inl ((Below.heap_setCell _ ⟨g, 1, none⟩ _ k e).trans (Below.heap_setCell _ ⟨g, 0, none⟩ _ k e))
    | n + 8, ho => simp at ho
  case hend =>
    rintro vs W ⟨hb, m0, m1⟩ hd
    obtain ⟨g, x, y, d8, hg, d6, q9⟩ := hd 7 (by simp) (by simp)
    have hG5 := hd 5 (by simp) (by simp)
    simp only [RFullW] at hG5
    obtain ⟨A6, c6, d6', hgr, q6⟩ := hG5.gr h64
    rw [d6] at d6'
    injection d6' with d6'
    simp only [Array.mk.injEq, List.cons.injEq, and_true] at d6'
    obtain ⟨rfl, rfl⟩ := d6'
    clear hd hG5
    simp only [acV, List.getElem?_toArray, List.getElem?_cons_zero, List.getElem?_cons_succ, Act.put, List.setIfInBounds_toArray, List.set_cons_zero, List.set_cons_succ, List.length_cons, List.length_nil, Nat.reduceAdd]
    rw [d8, d6]
    have hT := hide (h.out.below hb)
    have hC := hide (hl.out.below hb)
    have c0 := m0.cell 0
    simp only [List.getElem?_toArray, List.getElem?_cons_zero, List.getElem?_cons_succ] at c0
    clear k0 k1 d6 d8
    go_wp2_with fail
    refine (rrw18_any A c H Al cl l _ hT.out hC.out hr.out hn.out).mono ?_
    intro e W2 hO
    obtain ⟨v, rfl, hGr, hb2⟩ := GVR.of h64 (Nat.le_refl _) hO
    obtain ⟨Ar, cr, rfl, hgr2, -⟩ := hGr.gr h64
    clear c0 hT hC hO hGr
    obtain ⟨W3, hW3⟩ : ∃ W3, W2.alloc (.cells #[.int .i64 H.length, .slice Ar H.length cr] 74) = W3 := ⟨_, rfl⟩
    have hB3 := below_allocEq (Below.refl W2.heap.size W2) hW3 (Nat.le_refl _)
    have k9 := Blk.newEq hW3
    have hBW := hb2.trans (hB3.mono hb2.size)
    have m1c := m1.below hBW m1.lt
    have q9c := q9.below hBW q9.lt
    have hGd := hide (hgr.keep (Agree.below hBW (fun b h => h)) (fun b (h : b < W.heap.size) => (Nat.lt_of_lt_of_le h hBW.size : b < W3.heap.size)))
    have hGd2 := hide (hgr.keep (Agree.below hBW (fun b h => h)) (fun b (h : b < W.heap.size) => h))
    have hGo := hide (hgr2.keep (Agree.below hB3 (fun b h => h)) (fun b (h : b < W2.heap.size) => (Nat.lt_of_lt_of_le h hB3.size : b < W3.heap.size)))
    have hbc := hb.trans (hBW.mono hb.size)
    have hsz := m1.lt
    have hgl := q9.lt
    have hw2 := hb2.size
    have hw3 := hB3.size
    clear hBW hB3 hb2 hb m0 m1 q9 q6 hgr hgr2
    by_cases h1 : level = 1
    · have q3 : (level == 1) = true := by simpa using h1
      have hfe : Hid (fullE H level l = orE (orE (pastE H) (wwE l)) (thenE H.length (orE (pastE H) (wwE l)) (rwE H l))) := hide (by rw [fullE_eq, if_pos h1])
      clear h1
      have a0 := q9c.cell 0
      have a1 := q9c.cell 1
      have b0 := k9.cell 0
      have b1 := k9.cell 1
      simp only [List.getElem?_toArray, List.getElem?_cons_zero, List.getElem?_cons_succ] at a0 a1 b0 b1
      have hcp := hide (rcomp12_any H.length A6 c6 (orE (pastE H) (wwE l)) Ar cr (rwE H l) (Old W3) W3 hGd.out hGo.out (fun b h => h))
      go_wp2_with fail
      clear a0 a1 b0 b1 hW3
      refine hcp.out.mono ?_
      rintro e W4 ⟨u, rfl, hR4, hb4⟩
      obtain ⟨Ac, cc, rfl, hG4⟩ := hR4.gr h64 (K := fun b => W3.heap.size ≤ b ∧ b < W4.heap.size) (fun g h1 h2 => ⟨h1, h2⟩)
      have k94 := k9.below hb4 k9.lt
      have c0 := k94.cell 0
      have c1 := k94.cell 1
      have f0 := k94.frozen 0
      have f1 := k94.frozen 1
      simp only [List.getElem?_toArray, List.getElem?_cons_zero, List.getElem?_cons_succ] at c0 c1
      have hk9l := k9.lt
      have ng : g ≠ W2.heap.size := by omega
      have nr : w.heap.size + 1 ≠ W2.heap.size := by omega
      have m1d := ((m1c.below hb4 m1c.lt).far (p := ⟨W2.heap.size, 0, none⟩) nr (.int .i64 H.length)).far (p := ⟨W2.heap.size, 1, none⟩) nr (.slice Ac H.length cc)
      have q9d := ((q9c.below hb4 q9c.lt).far (p := ⟨W2.heap.size, 0, none⟩) ng (.int .i64 H.length)).far (p := ⟨W2.heap.size, 1, none⟩) ng (.slice Ac H.length cc)
      have k9d := (k94.set_ 0 (.int .i64 H.length)).set_ 1 (.slice Ac H.length cc)
      simp only [List.setIfInBounds_toArray, List.set_cons_zero, List.set_cons_succ] at k9d
      have hbd := ((hbc.trans (hb4.mono hbc.size)).setCell (p := ⟨W2.heap.size, 0, none⟩) (by simp; omega) (.int .i64 H.length)).setCell (p := ⟨W2.heap.size, 1, none⟩) (by simp; omega) (.slice Ac H.length cc)
      have hGd3 := hide (hGd2.out.keep (K' := Old W4) (((Agree.below hb4 (fun b h => Nat.lt_of_lt_of_le h (Nat.le_trans hw2 hw3))).trans (Agree.setCell ⟨W2.heap.size, 0, none⟩ (fun h => by have h2 : W2.heap.size < W.heap.size := h; omega) (.int .i64 H.length))).trans (Agree.setCell ⟨W2.heap.size, 1, none⟩ (fun h => by have h2 : W2.heap.size < W.heap.size := h; omega) (.slice Ac H.length cc))) (fun b h => Nat.lt_of_lt_of_le h (Nat.le_trans (Nat.le_trans hw2 hw3) hb4.size)))
      have hGo3 := hide (hG4.keep (K' := Old W4) ((Agree.setCell ⟨W2.heap.size, 0, none⟩ (fun h => by have h2 := h.1; dsimp only at h2; omega) (.int .i64 H.length)).trans (Agree.setCell ⟨W2.heap.size, 1, none⟩ (fun h => by have h2 := h.1; dsimp only at h2; omega) (.slice Ac H.length cc))) (fun b h => h.2))
      clear m1c q9c k9 k94 hcp hb4 hGd hGo hGd2 hG4 hR4 hbc
      obtain ⟨Wd, hWd⟩ : ∃ Wd, (W4.setCell ⟨W2.heap.size, 0, none⟩ (.int .i64 H.length)).setCell ⟨W2.heap.size, 1, none⟩ (.slice Ac H.length cc) = Wd := ⟨_, rfl⟩
      have hsd : Wd.heap.size = W4.heap.size := by rw [← hWd]; simp
      rw [hWd] at m1d q9d k9d hbd hGd3 hGo3
      have m1c := m1d
      have q9c := q9d
      have k9c := k9d
      have hbc := hbd
      have hGd := hGd3
      have hGo := hGo3
      have hKK := hide (fun b (h : Old W4 b) => (by have h2 : b < W4.heap.size := h; omega : b < Wd.heap.size))
      clear m1d q9d k9d hbd hGd3 hGo3
      have a0 := q9c.cell 0
      have a1 := q9c.cell 1
      have b0 := k9c.cell 0
      have b1 := k9c.cell 1
      simp only [List.getElem?_toArray, List.getElem?_cons_zero, List.getElem?_cons_succ] at a0 a1 b0 b1
      have hcall := hide (runion12_any H.length A6 c6 (orE (pastE H) (wwE l)) Ac cc (thenE H.length (orE (pastE H) (wwE l)) (rwE H l)) (Old W4) Wd hGd.out hGo.out hKK.out)
      go_wp2_with fail
      clear a0 a1 b0 b1
      refine hcall.out.mono ?_
      rintro e W6 ⟨uz, rfl, hRz, hb6⟩
      obtain ⟨Az, cz, rfl, -⟩ := hRz.gr h64 (K := fun _ => True) (fun _ _ _ => trivial)
      have m16 := m1c.below hb6 m1c.lt
      have hb7 := hbc.trans (hb6.mono hbc.size)
      have j0 := m16.cell 0
      have j1 := m16.cell 1
      have jf := m16.frozen 0
      have jf1 := m16.frozen 1
      simp only [List.getElem?_toArray, List.getElem?_cons_zero, List.getElem?_cons_succ] at j0 j1
      have hml := m1c.lt
      clear hcall
      go_wp2
      exact bodyPost_ret (v := .agg #[.int .i64 H.length, .slice Az H.length cz]) (by simp [results, Tryz.results32, go_sem, j0, j1]) rfl ⟨_, rfl, by rw [hfe.out]; exact ((hRz.far (p := ⟨w.heap.size + 1, 0, none⟩) hml _).far (p := ⟨w.heap.size + 1, 1, none⟩) hml _).base (by omega), (hb7.setCell (p := ⟨w.heap.size + 1, 0, none⟩) (by simp) _).setCell (p := ⟨w.heap.size + 1, 1, none⟩) (by simp) _⟩
    · have q3 : (level == 1) = false := by simpa using h1
      have hfe : Hid (fullE H level l = orE (orE (pastE H) (wwE l)) (rwE H l)) := hide (by rw [fullE_eq, if_neg h1])
      have k9c := k9
      have hKK := hide (fun b (h : Old W3 b) => h)
      clear h1 k9
      have a0 := q9c.cell 0
      have a1 := q9c.cell 1
      have b0 := k9c.cell 0
      have b1 := k9c.cell 1
      simp only [List.getElem?_toArray, List.getElem?_cons_zero, List.getElem?_cons_succ] at a0 a1 b0 b1
      have hcall := hide (runion12_any H.length A6 c6 (orE (pastE H) (wwE l)) Ar cr (rwE H l) (Old W3) W3 hGd.out hGo.out hKK.out)
      go_wp2_with fail
      clear a0 a1 b0 b1
      refine hcall.out.mono ?_
      rintro e W6 ⟨uz, rfl, hRz, hb6⟩
      obtain ⟨Az, cz, rfl, -⟩ := hRz.gr h64 (K := fun _ => True) (fun _ _ _ => trivial)
      have m16 := m1c.below hb6 m1c.lt
      have hb7 := hbc.trans (hb6.mono hbc.size)
      have j0 := m16.cell 0
      have j1 := m16.cell 1
      have jf := m16.frozen 0
      have jf1 := m16.frozen 1
      simp only [List.getElem?_toArray, List.getElem?_cons_zero, List.getElem?_cons_succ] at j0 j1
      have hml := m1c.lt
      clear hcall
      go_wp2
      exact bodyPost_ret (v := .agg #[.int .i64 H.length, .slice Az H.length cz]) (by simp [results, Tryz.results32, go_sem, j0, j1]) rfl ⟨_, rfl, by rw [hfe.out]; exact ((hRz.far (p := ⟨w.heap.size + 1, 0, none⟩) hml _).far (p := ⟨w.heap.size + 1, 1, none⟩) hml _).base (by omega), (hb7.setCell (p := ⟨w.heap.size + 1, 0, none⟩) (by simp) _).setCell (p := ⟨w.heap.size + 1, 1, none⟩) (by simp) _⟩
end Go.Proofs.YtfodlklpfffaaaaGreatDoor

namespace Go.Proofs.YtfodlklpfffaaaaGreatDoor
open Go.RowKit Go.Inq
set_option maxHeartbeats 4000000
attribute [local go_sem ↓] Go.wp_at_zero Go.wp_at_succ

/-- Is a node led to by one that is not done, below j? -/
def ledTo (E : Edges) (l : List Int) (v j : Nat) : Bool := (List.range j).any fun x => E x v && !l.contains (x : Int)
theorem ledTo_succ (E : Edges) (l : List Int) (v j : Nat) : ledTo E l v (j + 1) = (ledTo E l v j || (E j v && !l.contains (j : Int))) := by
  unfold ledTo
  rw [List.range_succ, List.any_append]
  simp
def freeB (n : Nat) (E : Edges) (l : List Int) (v : Nat) : Bool := !l.contains (v : Int) && !ledTo E l v n
/-- The least free node, or -1. -/
def freeI (n : Nat) (E : Edges) (l : List Int) : Int := match (List.range n).find? (freeB n E l) with
  | some v => (v : Int)
  | none => -1
theorem freeI_some {n : Nat} {E : Edges} {l : List Int} {i : Nat} (hi : i < n) (h0 : ∀ v, v < i → freeB n E l v = false) (h : freeB n E l i = true) : freeI n E l = i := by
  unfold freeI
  have : (List.range n).find? (freeB n E l) = some i := by
    rw [List.find?_range_eq_some]
    exact ⟨h, by simpa using hi, fun v hv => by simp [h0 v hv]⟩
  rw [this]
theorem freeI_none {n : Nat} {E : Edges} {l : List Int} (h0 : ∀ v, v < n → freeB n E l v = false) : freeI n E l = -1 := by
  unfold freeI
  have : (List.range n).find? (freeB n E l) = none := by
    rw [List.find?_eq_none]
    intro v hv
    simp [h0 v (by simpa using hv)]
  rw [this]
set_option maxRecDepth 100000 in
theorem rfree16_any (n : Nat) (A : Option Addr) (c : Nat) (E : Edges) (Al : Option Addr) (cl : Nat) (l : List Int) (K : Nat → Prop) (w : World) (h : GrS w K n A c E) (hl : IntS w K (.slice Al l.length cl) l) (hK : ∀ b, K b → b < w.heap.size) (hll : l.length ≤ 1000000000) :
    Calls Tryz.prog 64 #[.agg #[.int .i64 n, .slice A n c], .slice Al l.length cl] w fun e w' => e = .returned (.int .i64 (freeI n E l)) ∧ Below w.heap.size w w' := by
  have hB : Below w.heap.size w (w.alloc (.cells #[.int .i64 n, .slice A n c] 74)) := (Below.refl _ _).alloc (Nat.le_refl _) _
  have kG := Blk.new w 74 #[.int .i64 n, .slice A n c]
  have hg := hide (h.keep (Agree.below hB hK) (fun b hb => hb))
  have hl0 := hide (hl.keep (Agree.below hB hK) (fun b hb => hb))
  have hsz := hB.size
  have hK0 : ∀ b, K b → b < (w.alloc (.cells #[.int .i64 n, .slice A n c] 74)).heap.size := fun b hb => Nat.lt_of_lt_of_le (hK b hb) hsz
  clear h hl
  have hn64 := hg.out.n64
  go_enter Tryz.func64, Tryz.ntmps64
  go_upto_region 1 with fail
  generalize w.alloc (.cells #[.int .i64 n, .slice A n c] 74) = W at *
  go_wp2_with fail
  go_loopw [5] (fun s5 wr => ∃ i : Nat, i ≤ n ∧ s5 = .int .i64 i ∧ Hid (∀ v, v < i → freeB n E l v = false) ∧ Below W.heap.size W wr) (fun s5 _ => n - (intOf s5).toNat)
  case atStart => exact ⟨0, Nat.zero_le _, by go_num, fun v hv => absurd hv (by omega), Below.refl _ _⟩
  case round =>
    obtain ⟨i, hi, rfl, hall, hbr⟩ := hrel
    obtain ⟨Wr, rfl⟩ : ∃ Wr, Wr = wr := ⟨_, rfl⟩
    have hi1 : (0 : Int) ≤ (i : Int) := Int.natCast_nonneg _
    have kr := kG.below hbr kG.lt
    have c0 := kr.cell 0
    simp only [List.getElem?_toArray, List.getElem?_cons_zero, List.getElem?_cons_succ] at c0
    have hlr := hide (hl0.out.keep (Agree.below hbr hK0) (fun b hb => hb))
    by_cases hlt : i < n
    · have hi2 : (i : Int) < (n : Int) := by omega
      have hst : Hid (freeB n E l i = false → ∀ v, v < i + 1 → freeB n E l v = false) := hide (fun g v hv => by
        by_cases e : v = i
        · subst e; exact g
        · exact hall v (by omega))
      have hyes : Hid (freeB n E l i = true → freeI n E l = i) := hide (fun g => freeI_some hlt hall g)
      have hfr : Hid (freeB n E l i = (!l.contains (i : Int) && !ledTo E l i n)) := hide rfl
      generalize freeB n E l i = fb at *
      have hin := rin16_any Al cl l (i : Int) K Wr hlr.out hll
      generalize l.contains (i : Int) = ct at *
      replace hall := hide hall
      go_wp2_with fail
      refine hin.mono ?_
      rintro e w1 ⟨rfl, rfl⟩
      clear hin
      cases ct with
      | true =>
        have hr := hide (hst.out (by rw [hfr.out]; rfl))
        clear hst hyes hfr
        go_wp2
        go_roundw
        case rel => exact ⟨i + 1, by omega, by go_num, hr.out, hbr⟩
        case measure => simp [intOf]; omega
      | false =>
        go_wp2_with fail
        go_loopw [7, 8] (fun s7 s8 wq => ∃ j : Nat, j ≤ n ∧ s8 = .int .i64 j ∧ s7 = .bool (ledTo E l i j) ∧ Below W.heap.size W wq) (fun _ s8 _ => n - (intOf s8).toNat)
        case atStart => exact ⟨0, Nat.zero_le _, by go_num, rfl, hbr⟩
        case round =>
          obtain ⟨j, hj, rfl, rfl, hbq⟩ := hrel
          obtain ⟨Wq, rfl⟩ : ∃ Wq, Wq = wr := ⟨_, rfl⟩
          have hj1 : (0 : Int) ≤ (j : Int) := Int.natCast_nonneg _
          clear c0
          have kq := kG.below hbq kG.lt
          have c0 := kq.cell 0
          have c1 := kq.cell 1
          simp only [List.getElem?_toArray, List.getElem?_cons_zero, List.getElem?_cons_succ] at c0 c1
          have hlq := hide (hl0.out.keep (Agree.below hbq hK0) (fun b hb => hb))
          have hgq := hide (hg.out.keep (Agree.below hbq hK0) (fun b hb => hb))
          by_cases hjl : j < n
          · have hj2 : (j : Int) < (n : Int) := by omega
            have hsu := hide (ledTo_succ E l i j)
            have hin := rin16_any Al cl l (j : Int) K Wq hlq.out hll
            have hha := hide (rhas12_any n A c E j i K Wq hgq.out (fun b hb => Nat.lt_of_lt_of_le (hK0 b hb) hbq.size) hjl hlt)
            generalize l.contains (j : Int) = cj at *
            generalize E j i = ej at *
            generalize ledTo E l i j = lj at *
            go_wp2_with fail
            refine hin.mono ?_
            rintro e w1 ⟨rfl, rfl⟩
            clear hin
            go_wp2_with fail
            refine hha.out.mono ?_
            rintro e w2 ⟨rfl, hb2⟩
            have hb3 := hbq.trans (hb2.mono hbq.size)
            clear hha c0 c1
            cases lj <;> cases ej <;> cases cj
            all_goals
              go_wp2
              go_roundw
              case rel => exact ⟨j + 1, by omega, by go_num, by rw [hsu.out]; rfl, hb3⟩
              case measure => simp [intOf]; omega
          · obtain rfl : j = n := by omega
            generalize ledTo E l i j = lj at *
            cases lj with
            | true =>
              have hr := hide (hst.out (by rw [hfr.out]; rfl))
              clear hst hyes hfr
              go_wp2
              go_roundw
              case rel => exact ⟨i + 1, by omega, by go_num, hr.out, hbq⟩
              case measure => simp [intOf]; omega
            | false =>
              have hr := hide (hyes.out (by rw [hfr.out]; rfl))
              clear hst hyes hfr
              go_wp2
              go_ret
              exact ⟨by rw [hr.out]; rfl, hB.trans (hbq.mono hsz)⟩
    · obtain rfl : i = n := by omega
      have hr := hide (freeI_none hall)
      replace hall := hide hall
      go_wp2
      go_ret
      exact ⟨by rw [hr.out]; rfl, hB.trans (hbr.mono hsz)⟩
end Go.Proofs.YtfodlklpfffaaaaGreatDoor

namespace Go.Inq

/-- May a node come next? -/
def freeT (n : Nat) (E : Edges) (l : List Nat) (v : Nat) : Bool := !l.contains v && (List.range n).all fun x => !E x v || l.contains x
theorem nextT_eq (n : Nat) (E : Edges) (l : List Nat) : nextT n E l = (List.range n).find? (freeT n E l) := rfl
/-- The least of the last d nodes that p says yes of. -/
def lowD (p : Nat → Bool) (n : Nat) : Nat → Int
  | 0 => -1
  | d + 1 => if p (n - (d + 1)) then ((n - (d + 1) : Nat) : Int) else lowD p n d
theorem lowD_drop (p : Nat → Bool) (n : Nat) : ∀ d, d ≤ n → lowD p n d = match ((List.range n).drop (n - d)).find? p with | some v => (v : Int) | none => -1
  | 0, _ => by rw [Nat.sub_zero, List.drop_of_length_le (by simp)]; rfl
  | d + 1, h => by
    have hd : (List.range n).drop (n - (d + 1)) = (n - (d + 1)) :: (List.range n).drop (n - d) := by
      rw [List.drop_eq_getElem_cons (by simp; omega)]
      simp only [List.getElem_range]
      rw [show n - (d + 1) + 1 = n - d by omega]
    rw [hd, List.find?_cons]
    unfold lowD
    rw [lowD_drop p n d (by omega)]
    cases p (n - (d + 1)) <;> simp
theorem lowD_all (n : Nat) (E : Edges) (l : List Nat) : lowD (freeT n E l) n n = match nextT n E l with | some v => (v : Int) | none => -1 := by
  rw [lowD_drop _ _ n (Nat.le_refl _), Nat.sub_self, List.drop_zero]; rfl
theorem lowD_some {n : Nat} {E : Edges} {l : List Nat} {v : Nat} (h : nextT n E l = some v) : lowD (freeT n E l) n n = v := by rw [lowD_all, h]
theorem lowD_none {n : Nat} {E : Edges} {l : List Nat} (h : nextT n E l = none) : lowD (freeT n E l) n n = -1 := by rw [lowD_all, h]
theorem nextT_lt {n : Nat} {E : Edges} {l : List Nat} {v : Nat} (h : nextT n E l = some v) : v < n := by
  have := List.mem_of_find?_eq_some h
  simpa using this
/-- The set of what stands there. -/
def seenB (n : Nat) (l : List Nat) : Nat := setB (fun v => l.contains v) n
theorem seenB_has {n : Nat} {l : List Nat} {v : Nat} (h : v < n) : hasB (seenB n l) (v : Int) = l.contains v := by
  unfold seenB
  rw [hasB_nat, testBit_setB]; simp [h]
theorem seenB_sub {n : Nat} {E : Edges} {l : List Nat} {v : Nat} (hn : n ≤ 64) : subB (setB (turnE E v) n) (seenB n l) = (List.range n).all fun x => !E x v || l.contains x := by
  have h1 : setB (turnE E v) n < 18446744073709551616 := Nat.lt_of_lt_of_le (setB_lt _ _) (pow_le_64 hn)
  have h2 : seenB n l < 18446744073709551616 := Nat.lt_of_lt_of_le (setB_lt _ _) (pow_le_64 hn)
  rw [Bool.eq_iff_iff, subB_iff h1 h2, List.all_eq_true]
  unfold seenB turnE
  constructor
  · intro h x hx
    have hxn : x < n := by simpa using hx
    have := h x
    rw [testBit_setB, testBit_setB] at this
    simp only [hxn, decide_true, Bool.true_and] at this
    cases hE : E x v
    · simp
    · simpa using this hE
  · intro h x hx
    rw [testBit_setB] at hx ⊢
    rw [Bool.and_eq_true] at hx ⊢
    have hxn : x < n := by simpa using hx.1
    have := h x (by simpa using hxn)
    rw [hx.2] at this
    exact ⟨hx.1, by simpa using this⟩
theorem seenB_with {n : Nat} {l : List Nat} {v : Nat} (h : v < n) (hn : n ≤ 64) : withB (seenB n l) (v : Int) = seenB n (l ++ [v]) := by
  unfold seenB
  rw [setB_with h hn]
  refine setB_congr fun i hi => ?_
  rw [Bool.eq_iff_iff]
  simp
theorem seenB_nil (n : Nat) : seenB n [] = 0 := by
  unfold seenB
  refine Nat.eq_of_testBit_eq fun i => ?_
  rw [testBit_setB]; simp
theorem seenB_lt {n : Nat} {l : List Nat} (hn : n ≤ 64) : seenB n l < 18446744073709551616 := Nat.lt_of_lt_of_le (setB_lt _ _) (pow_le_64 hn)
theorem orderTo_none {n : Nat} {E : Edges} {k : Nat} (h : orderTo n E k = none) : ∀ m, k ≤ m → orderTo n E m = none
  | 0, hm => by have e : k = 0 := Nat.le_zero.1 hm; rw [e] at h; exact h
  | m + 1, hm => by
    by_cases e : k = m + 1
    · subst e; exact h
    · unfold orderTo
      rw [orderTo_none h m (by omega)]
theorem orderTo_some {n : Nat} {E : Edges} {k v : Nat} {l : List Nat} (h : orderTo n E k = some l) (hv : nextT n E l = some v) : orderTo n E (k + 1) = some (l ++ [v]) := by
  unfold orderTo
  rw [h]
  simp only [hv]
theorem orderT_fail {n : Nat} {E : Edges} {k : Nat} {l : List Nat} (hk : k < n) (h : orderTo n E k = some l) (hv : nextT n E l = none) : orderT n E = none := by
  refine orderTo_none (k := k + 1) ?_ n (by omega)
  unfold orderTo
  rw [h]
  simp only [hv]
end Go.Inq

namespace Go.Proofs.YtfodlklpfffaaaaGreatDoor
open Go.RowKit Go.Inq
set_option maxHeartbeats 4000000
attribute [local go_sem ↓] Go.wp_at_zero Go.wp_at_succ

/-- What topo.Order tells. -/
def OrdOut (w : World) (o : Option (List Nat)) (e : Ending) (w' : World) : Prop :=
  (match o with
    | some l => ∃ v, e = .returned (.tuple #[v, .bool true]) ∧ OwnI w' w.heap.size v (intsN l)
    | none => e = .returned (.tuple #[.slice none 0 0, .bool false])) ∧ Below w.heap.size w w'
theorem OrdOut.yes {w w' : World} {l : List Nat} {v : Value} (h : OwnI w' w.heap.size v (intsN l)) (hb : Below w.heap.size w w') : OrdOut w (some l) (.returned (.tuple #[v, .bool true])) w' := ⟨⟨v, rfl, h⟩, hb⟩
theorem OrdOut.no {w w' : World} (hb : Below w.heap.size w w') : OrdOut w none (.returned (.tuple #[.slice none 0 0, .bool false])) w' := ⟨rfl, hb⟩
set_option maxRecDepth 100000 in
theorem order16_any (n : Nat) (A : Option Addr) (c : Nat) (E : Edges) (K : Nat → Prop) (w : World) (h : GrS w K n A c E) (hK : ∀ b, K b → b < w.heap.size) (hT : TabB w) :
    Calls Tryz.prog 26 #[.agg #[.int .i64 n, .slice A n c]] w (OrdOut w (orderT n E)) := by
  obtain ⟨ii, hii, hi1, hi2, hi3⟩ := info_parts infoI10
  obtain ⟨W0, hW0⟩ : ∃ W0, w.alloc (.cells #[.int .i64 n, .slice A n c] 63) = W0 := ⟨_, rfl⟩
  have hB := below_allocEq (Below.refl w.heap.size w) hW0 (Nat.le_refl _)
  have k0 := Blk.newEq hW0
  have hs0 := size_allocEq hW0
  have hg := hide (h.keep (Agree.below hB hK) (fun b hb => hb))
  have hKW : Hid (∀ b, K b → b < W0.heap.size) := hide fun b hb => by have := hK b hb; omega
  have hn := h.n64
  replace hK := hide hK
  have hT0 := hT.below hB
  clear h
  have c0 := k0.cell 0
  have c1 := k0.cell 1
  simp only [List.getElem?_toArray, List.getElem?_cons_zero, List.getElem?_cons_succ] at c0 c1
  replace hs0 := hide hs0
  go_enter Tryz.func26, Tryz.ntmps26
  go_wp2_with fail
  clear hW0 c0 c1
  refine (turn12_any n A c E K _ hg.out hKW.out hT0).mono ?_
  rintro e w1 ⟨g, hgs, rfl, kR, hb1⟩
  have hgl := kR.lt
  replace k0 := k0.below hb1 k0.lt
  have hb2 := hB.trans (hb1.mono hB.size)
  obtain ⟨W3, hW3⟩ : ∃ W3, w1.alloc (.cells #[.int .i64 n, .slice (some ⟨g, 0, none⟩) n n] 63) = W3 := ⟨_, rfl⟩
  have k3 := Blk.newEq hW3
  have hs3 := size_allocEq hW3
  replace k0 := k0.allocEq hW3
  replace kR := kR.allocEq hW3
  have hb5 := below_allocEq hb2 hW3 hb2.size
  have hwg : w.heap.size < g := by have := hs0.out; omega
  have hww : w.heap.size < w1.heap.size := by omega
  clear hb1 hB hKW hs0 hg hT0 hb2
  have hmk : ∀ W : World, (Instr.makeSlice 25 (.int .i64 0) (.int .i64 (n : Int))).run Tryz.prog W = .ok (.slice (some ⟨W.heap.size, 0, none⟩) 0 n) (W.alloc (.cells (madeCells #[.int .i64 0] n) 3)) := fun W => by
    have := run_make (P := Tryz.prog) W 25 3 ii (.int .i64 0) Tryz.underlying25 hii hi1 .i64 .i64 0 (n : Int) (Int.le_refl _) (by omega) (by rw [hi3]; omega) (by omega)
    rw [hi2] at this
    simp only [Int.toNat_zero, Int.toNat_natCast, Nat.mul_one] at this
    exact this
  have hmade := hide (World.ownsRow_made (base := w.heap.size) (e := 3) (size := 1) W3 (madeCells #[.int .i64 0] n) n (by omega) (by simp [maxLen]; omega) (by simp [size_madeCells]))
  obtain ⟨W4, hW4⟩ : ∃ W4, W3.alloc (.cells (madeCells #[.int .i64 0] n) 3) = W4 := ⟨_, rfl⟩
  rw [hW4] at hmade
  have c0 := k0.cell 0
  simp only [List.getElem?_toArray, List.getElem?_cons_zero, List.getElem?_cons_succ] at c0
  replace k0 := k0.allocEq hW4
  replace k3 := k3.allocEq hW4
  replace kR := kR.allocEq hW4
  have hb6 := below_allocEq hb5 hW4 (by omega)
  have c0n := k0.cell 0
  simp only [List.getElem?_toArray, List.getElem?_cons_zero, List.getElem?_cons_succ] at c0n
  have hz := hide (seenB_nil n)
  have h3n : w1.heap.size < W3.heap.size := by omega
  have hgK : g < W3.heap.size := by omega
  have hsz4 : W4.heap.size = W3.heap.size + 1 := size_allocEq hW4
  replace hs3 := hide hs3
  go_wp2_with fail
  clear hmk c0 c0n hb5
  go_loopw [6, 7, 22] (fun s6 s7 s22 wr => ∃ (k : Nat) (l : List Nat), k ≤ n ∧ s22 = .int .i64 k ∧ s7 = .int .u64 (seenB n l : Nat) ∧ Hid (orderTo n E k = some l) ∧ OwnI wr w.heap.size s6 (intsN l) ∧ Below w.heap.size w wr ∧ Blk wr w.heap.size 63 #[.int .i64 n, .slice A n c] ∧ Blk wr w1.heap.size 63 #[.int .i64 n, .slice (some ⟨g, 0, none⟩) n n] ∧ Blk wr g 101 (rowsB n (turnE E)) ∧ Hid (∀ b, s6.ownBlock = some b → W3.heap.size ≤ b) ∧ W4.heap.size ≤ wr.heap.size) (fun _ _ s22 _ => n - (intOf s22).toNat)
  case atStart => exact ⟨0, [], Nat.zero_le _, by go_num, by rw [hz.out]; rfl, hide rfl, hmade.out, hb6, k0, k3, kR, hide (fun b hb => by simp [Value.ownBlock] at hb; omega), Nat.le_refl _⟩
  case round =>
    clear hmade hb6 k0 k3 kR hW4 hW3
    obtain ⟨Wo, rfl⟩ : ∃ Wo, Wo = wr := ⟨_, rfl⟩
    obtain ⟨k, l, hk, rfl, rfl, hO, hown, hb, k0, k3, kR, hfar, hszr⟩ := hrel
    have hi1' : (0 : Int) ≤ (k : Int) := Int.natCast_nonneg _
    by_cases hlt : k < n
    · have hi2' : (k : Int) < (n : Int) := by omega
      have c0 := k0.cell 0
      have d1 := k3.cell 1
      simp only [List.getElem?_toArray, List.getElem?_cons_zero, List.getElem?_cons_succ] at c0 d1
      have hsb := hide (seenB_lt (l := l) hn)
      have hn1 : (1 : Int) ≤ (n : Int) := by omega
      go_wp2_with fail
      go_loop [8, 9] (fun s8 s9 => ∃ d : Nat, d ≤ n ∧ s9 = .int .i64 ((n : Int) - 1 - d) ∧ s8 = .int .i64 (lowD (freeT n E l) n d)) (fun _ s9 => ((intOf s9) + 1).toNat)
      case atStart => exact ⟨0, Nat.zero_le _, by simp, rfl⟩
      case round =>
        obtain ⟨d, hd, rfl, rfl⟩ := hrel
        by_cases hdn : d < n
        · obtain ⟨v, hv⟩ : ∃ v, v = n - (d + 1) := ⟨_, rfl⟩
          have hvi : ((n : Int) - 1 - d) = (v : Int) := by omega
          rw [hvi]
          have hvn : v < n := by omega
          have hv0 : (0 : Int) ≤ (v : Int) := Int.natCast_nonneg _
          have hv1 : (v : Int) < (n : Int) := by omega
          have r0 := kR.cell v
          rw [rowsB_at hvn] at r0
          have h64 := hide (setB_64 (p := turnE E v) hn)
          have hhas := hide (seenB_has (l := l) hvn)
          have hsub := hide (seenB_sub (E := E) (l := l) (v := v) hn)
          have hlow : Hid (lowD (freeT n E l) n (d + 1) = if freeT n E l v then (v : Int) else lowD (freeT n E l) n d) := hide (by show (if freeT n E l (n - (d + 1)) then _ else _) = _; rw [← hv])
          have hfr : Hid (freeT n E l v = (!l.contains v && (List.range n).all fun x => !E x v || l.contains x)) := hide rfl
          have hgeb : decide ((v : Int) ≥ 0) = true := by simp
          generalize lowD (freeT n E l) n d = low at *
          generalize hl' : lowD (freeT n E l) n (d + 1) = low' at *
          replace hl' := hide hl'
          generalize seenB n l = S at *
          generalize setB (turnE E v) n = R at *
          clear hvi
          have hnext : Hid (((v : Int) - 1) = (n : Int) - 1 - ((d + 1 : Nat) : Int)) := hide (by omega)
          have hms : Hid (((n : Int) - 1 - ((d + 1 : Nat) : Int) + 1).toNat < ((v : Int) + 1).toNat) := hide (by omega)
          clear hv
          go_wp2_with fail
          refine (has10_any S hsb.out v _).mono ?_
          rintro e w5 ⟨rfl, rfl⟩
          rw [hhas.out]
          cases hc1 : l.contains v with
          | true =>
            have hl2 : low' = low := by rw [hlow.out, hfr.out, hc1]; rfl
            subst hl2
            clear hc1
            go_wp2
            go_round
            case rel => exact ⟨d + 1, by omega, by rw [hnext.out], by rw [hl'.out]⟩
            case measure => simp only [intOf]; rw [hnext.out]; exact hms.out
          | false =>
            replace hfr := hfr.out
            rw [hc1] at hfr
            clear hc1
            go_wp2_with fail
            refine (sub10_any R S h64.out hsb.out _).mono ?_
            rintro e w5 ⟨rfl, rfl⟩
            rw [hsub.out]
            cases hc2 : (List.range n).all fun x => !E x v || l.contains x with
            | true =>
              have hl2 : low' = v := by rw [hlow.out, hfr, hc2]; rfl
              subst hl2
              clear hc2 hfr
              go_wp2
              go_round
              case rel => exact ⟨d + 1, by omega, by rw [hnext.out], by rw [hl'.out]⟩
              case measure => simp only [intOf]; rw [hnext.out]; exact hms.out
            | false =>
              have hl2 : low' = low := by rw [hlow.out, hfr, hc2]; rfl
              subst hl2
              clear hc2 hfr
              go_wp2
              go_round
              case rel => exact ⟨d + 1, by omega, by rw [hnext.out], by rw [hl'.out]⟩
              case measure => simp only [intOf]; rw [hnext.out]; exact hms.out
        · obtain rfl : d = n := by omega
          have hvi : ((d : Int) - 1 - (d : Int)) = -1 := by omega
          rw [hvi]
          clear hvi
          have hszb := hb.size
          cases hnt : nextT d E l with
          | none =>
            have hf := hide (orderT_fail hlt hO.out hnt)
            rw [lowD_none hnt]
            clear hnt
            go_wp2
            exact bodyPost_ret (v := .tuple #[.slice none 0 0, .bool false]) (by simp [results, Tryz.results26, go_sem]) rfl (by rw [hf.out]; exact OrdOut.no hb)
          | some v =>
            have hO2 := hide (orderTo_some hO.out hnt)
            have hvn := nextT_lt hnt
            rw [lowD_some hnt]
            have hwith := hide (seenB_with (l := l) hvn hn)
            have hll := orderTo_len hO.out
            have hlb : l.length + 1 ≤ 64 := by omega
            have hv0 : (0 : Int) ≤ (v : Int) := Int.natCast_nonneg _
            obtain ⟨Av, cv, rfl⟩ := hown.form
            replace hown := hide hown
            have hsn := hide (intsN_snoc l v)
            replace hll := hide hll
            have hlen := hide (intsN_len l)
            have hol := hide (fun b hb => (hown.out.lt b hb).2)
            clear hnt
            go_wp2_with (first | (go_at_call 57; refine (with10_any _ hsb.out v _).mono ?_; rintro e w5 ⟨rfl, rfl⟩) | (at_builtin; refine wpList_push (enc := Go.Inq.encI) rfl (.tmp 47) (.tmp 49) 25 rfl w.heap.size 3 ii _ 1 8 Tryz.underlying25 hii hi1 hi2 hi3 rfl (by decide) (.slice Av (intsN l).length cv) (intsN l) rfl hown.out (fun _ => rfl) (v : Int) _ rfl rfl encI_one (by rw [hlen.out]; simp [maxLen]; omega) (by rw [hlen.out]; omega) hszb w w.heap.size (Nat.le_refl _) hb ?_; intro v1 w6 hown1 hg1 hb1 hat1))
            have hk6 : ∀ (t : TypeId) (cs : Array Value) (B : Nat), B < W3.heap.size → Blk Wo B t cs → Blk w6 B t cs := fun t cs B hB hk => (hk.alloc _).grown hg1 (fun e => by have := hfar.out B e.symm; omega)
            have hsz6 := hg1.size
            simp only [World.size_alloc] at hsz6
            go_roundw
            case rel => exact ⟨k + 1, l ++ [v], by omega, by go_num, by rw [hwith.out], hO2, by unfold OwnI; rw [hsn.out]; exact hown1, hb1, hk6 _ _ _ (by omega) k0, hk6 _ _ _ h3n k3, hk6 _ _ _ hgK kR, hide fun b hb => by
              rcases hat1 with e | e
              · rw [e] at hb; exact hfar.out b hb
              · rw [e] at hb; injection hb with hb; omega, by omega⟩
            case measure => simp [intOf]; omega
    · obtain rfl : k = n := by omega
      have hO2 : Hid (orderT k E = some l) := hO
      go_wp2
      exact bodyPost_ret (v := .tuple #[_, .bool true]) (by simp [results, Tryz.results26, go_sem]; rfl) rfl (by rw [hO2.out]; exact OrdOut.yes hown hb)
end Go.Proofs.YtfodlklpfffaaaaGreatDoor

namespace Go.Proofs.YtfodlklpfffaaaaGreatDoor
open Go.RowKit Go.Inq
set_option maxHeartbeats 4000000
attribute [local go_sem ↓] Go.wp_at_zero Go.wp_at_succ

theorem intsN_contains (L : List Nat) (v : Nat) : (intsN L).contains (v : Int) = L.contains v := by
  unfold intsN
  rw [Bool.eq_iff_iff, List.contains_iff_mem, List.contains_iff_mem, List.mem_map]
  exact ⟨fun ⟨a, h, e⟩ => by rw [← Int.ofNat_inj.1 e]; exact h, fun h => ⟨v, h, rfl⟩⟩
theorem freeB_next {n : Nat} {E : Edges} {L : List Nat} (v : Nat) : freeB n E (intsN L) v = (!L.contains v && (List.range n).all fun x => !E x v || L.contains x) := by
  unfold freeB ledTo
  rw [intsN_contains, List.not_any_eq_all_not]
  congr 2
  funext x
  rw [intsN_contains, Bool.not_and, Bool.not_not]
theorem freeI_next (n : Nat) (E : Edges) (L : List Nat) : freeI n E (intsN L) = match nextT n E L with | some v => (v : Int) | none => -1 := by
  unfold freeI nextT
  have : freeB n E (intsN L) = fun v => !L.contains v && (List.range n).all fun x => !E x v || L.contains x := funext fun v => freeB_next v
  rw [this]
  all_goals (cases List.find? (fun v => !L.contains v && (List.range n).all fun x => !E x v || L.contains x) (List.range n) <;> rfl)
set_option maxRecDepth 100000 in
theorem rorder16_any (n : Nat) (A : Option Addr) (c : Nat) (E : Edges) (K : Nat → Prop) (w : World) (h : GrS w K n A c E) (hK : ∀ b, K b → b < w.heap.size) :
    Calls Tryz.prog 31 #[.agg #[.int .i64 n, .slice A n c]] w (OrdOut w (orderT n E)) := by
  obtain ⟨ii, hii, hi1, hi2, hi3⟩ := info_parts infoI10
  have hn64 := h.n64
  have hB : Below w.heap.size w (w.alloc (.cells #[.int .i64 n, .slice A n c] 74)) := (Below.refl _ _).alloc (Nat.le_refl _) _
  have kG := Blk.new w 74 #[.int .i64 n, .slice A n c]
  have hsz := hB.size
  have hg := hide (h.keep (Agree.below hB hK) (fun b hb => hb))
  have hK0 : ∀ b, K b → b < (w.alloc (.cells #[.int .i64 n, .slice A n c] 74)).heap.size := fun b hb => Nat.lt_of_lt_of_le (hK b hb) hsz
  clear h
  go_enter Tryz.func31, Tryz.ntmps31
  go_upto_region 1 with fail
  generalize w.alloc (.cells #[.int .i64 n, .slice A n c] 74) = W at *
  have c0 := kG.cell 0
  have c1 := kG.cell 1
  simp only [List.getElem?_toArray, List.getElem?_cons_zero, List.getElem?_cons_succ] at c0 c1
  go_wp2_with fail
  refine (rright12_any n A c E K W hg.out hK0).mono ?_
  rintro e w1 ⟨rfl, hb1⟩
  clear c0 c1
  have k1 := kG.below hb1 kG.lt
  have c0 := k1.cell 0
  simp only [List.getElem?_toArray, List.getElem?_cons_zero, List.getElem?_cons_succ] at c0
  have hs1 := hb1.size
  go_wp2_with fail
  go_loopw [5] (fun s5 wr => ∃ (k : Nat) (L : List Nat), k ≤ n ∧ Hid (orderTo n E k = some L) ∧ OwnI wr w1.heap.size s5 (intsN L) ∧ Below w1.heap.size w1 wr) (fun s5 _ => n - (match s5 with | .slice _ m _ => m | _ => 0))
  case atStart => exact ⟨0, [], Nat.zero_le _, hide rfl, OwnI.nil _ _, Below.refl _ _⟩
  case round =>
    obtain ⟨k, L, hk, hL, hown, hbr⟩ := hrel
    obtain ⟨Wr, rfl⟩ : ∃ Wr, Wr = wr := ⟨_, rfl⟩
    have hLk := orderTo_len hL.out
    have hlen : (intsN L).length = k := by unfold intsN; simpa using hLk
    obtain ⟨Ao, co, rfl⟩ := OwnI.form hown
    clear c0
    have kr := k1.below hbr k1.lt
    have c0 := kr.cell 0
    have c1 := kr.cell 1
    simp only [List.getElem?_toArray, List.getElem?_cons_zero, List.getElem?_cons_succ] at c0 c1
    have hbw := hb1.trans (hbr.mono hs1)
    have hgr := hide (hg.out.keep (Agree.below hbw hK0) (fun b hb => hb))
    have hKr : ∀ b, K b → b < Wr.heap.size := fun b hb => Nat.lt_of_lt_of_le (hK0 b hb) hbw.size
    have hfx := hide (freeI_next n E L)
    have hsl := hide (OwnI.sl (K := Old Wr) hown (fun g _ h => h))
    have hlo := hide hlen
    rw [hlen] at hown hsl
    replace hown := hide hown
    clear hlen
    by_cases hlt : k < n
    · have hlt2 : decide ((k : Int) < (n : Int)) = true := by simpa using hlt
      have hlt3 : decide (k < n) = true := by simpa using hlt
      rw [hlo.out]
      have hfc := hide (rfree16_any n A c E Ao co (intsN L) (fun b => K b ∨ b < Wr.heap.size) Wr (hgr.out.keep (Agree.refl _ _) (fun b h => .inl h)) (by rw [hlo.out]; exact hsl.out.keep (Agree.refl _ _) (fun b h => .inr h)) (fun b hb => by rcases hb with h | h; exact hKr b h; exact h) (by rw [hlo.out]; omega))
      rw [hlo.out, hfx.out] at hfc
      go_wp2_with fail
      refine hfc.out.mono ?_
      clear hfc
      rintro e w2 ⟨rfl, hb2⟩
      have hbr2 := hbr.trans (hb2.mono hbr.size)
      have hown2 := own_below hown.out hb2 (Nat.le_refl _)
      cases hnt : nextT n E L with
      | none =>
        have hf := hide (orderT_fail hlt hL.out hnt)
        have hbz := hB.trans ((hb1.trans (hbr2.mono hs1)).mono hsz)
        clear hnt hfx
        dsimp only
        go_wp2
        exact bodyPost_ret (v := .tuple #[.slice none 0 0, .bool false]) (by simp [results, Tryz.results31, go_sem]) rfl (by rw [hf.out]; exact OrdOut.no hbz)
      | some v =>
        have hL2 := hide (orderTo_some hL.out hnt)
        have hvn := nextT_lt hnt
        clear hnt hfx
        dsimp only
        have hv0 : decide ((v : Int) < 0) = false := by simp
        have hit : Hid (intsN L ++ [(v : Int)] = intsN (L ++ [v])) := hide (by unfold intsN; simp)
        have hown3 : Hid (w2.ownsRow w1.heap.size 3 1 (.slice Ao (intsN L).length co) (intsN L).length ((intsN L).map Go.Inq.encI).flatten) := hide (by
          have := hown2
          unfold OwnI at this
          rw [hlo.out] at this ⊢
          exact this)
        have hlk : Hid ((L ++ [v]).length = k + 1) := hide (orderTo_len hL2.out)
        have hDl : (intsN L).length ≤ 64 := by rw [hlo.out]; omega
        rw [← hlo.out]
        generalize hD : intsN L = D at *
        have hkD : D.length + 1 ≤ maxLen := by unfold maxLen; omega
        have hkb : (D.length + 1) * 8 ≤ 140737488355328 := by omega
        have hsw : w1.heap.size ≤ w2.heap.size := hbr2.size
        replace hD := hide hD
        go_wp2_with (at_builtin; go_loud (refine wpList_push (enc := Go.Inq.encI) rfl (.tmp 21) (.tmp 23) 25 rfl w1.heap.size 3 ii _ 1 8 Tryz.underlying25 hii hi1 hi2 hi3 rfl (by decide) (.slice Ao D.length co) D rfl hown3.out (fun _ => rfl) (v : Int) _ rfl rfl Go.Inq.encI_one hkD hkb hsw w1 w1.heap.size (Nat.le_refl _) hbr2 ?_); intro v1 w6 hown1 hg1 hbz hat1)
        go_roundw
        case rel => exact ⟨k + 1, L ++ [v], by omega, hL2, by rw [← hit.out]; exact hown1, hbz⟩
        case measure =>
          obtain ⟨A6, c6, e6⟩ := own_slice hown1
          rw [e6]
          have := hlo.out
          simp
          omega
    · obtain rfl : k = n := by omega
      have hf : Hid (orderT k E = some L) := hide hL.out
      have hbz := hB.trans ((hb1.trans (hbr.mono hs1)).mono hsz)
      have hos : Hid (OwnI Wr w.heap.size (.slice Ao k co) (intsN L)) := hide (own_base' hown.out (Nat.le_trans hsz hs1))
      have hlt2 : decide ((k : Int) < (k : Int)) = false := by simp
      rw [hlo.out]
      go_wp2
      exact bodyPost_ret (v := .tuple #[.slice Ao k co, .bool true]) (by simp [results, Tryz.results31, go_sem]) rfl (by rw [hf.out]; exact OrdOut.yes hos.out hbz)
end Go.Proofs.YtfodlklpfffaaaaGreatDoor

namespace Go.Proofs.YtfodlklpfffaaaaGreatDoor
open Go.RowKit Go.Inq

/-- Blocks of numbers from base on. -/
def IntK (base : Nat) (w : World) : Nat → Prop := fun b => base ≤ b ∧ ∃ cs, Blk w b 3 cs
theorem IntK.lt {base : Nat} {w : World} {b : Nat} (h : IntK base w b) : b < w.heap.size := by
  obtain ⟨_, cs, h⟩ := h
  exact h.lt
theorem IntK.step {base : Nat} {w w' : World} (ha : Agree (IntK base w) w w') {b : Nat} (h : IntK base w b) : IntK base w' b := by
  obtain ⟨h1, cs, h2⟩ := h
  exact ⟨h1, cs, (ha b ⟨h1, cs, h2⟩).trans h2⟩
theorem IntK.trans {base : Nat} {w w1 w2 : World} (ha : Agree (IntK base w) w w1) (hb : Agree (IntK base w1) w1 w2) : Agree (IntK base w) w w2 := fun b h => (hb b (IntK.step ha h)).trans (ha b h)
theorem IntK.below {base B : Nat} {w w' : World} (hb : Below B w w') (hB : w.heap.size ≤ B) : Agree (IntK base w) w w' := Agree.below hb fun _ h => Nat.lt_of_lt_of_le h.lt hB
theorem IntK.alloc {base : Nat} {w : World} (o : Obj) : Agree (IntK base w) w (w.alloc o) := Agree.alloc (fun _ h => h.lt) o
theorem IntK.set_ {base : Nat} {w : World} {g i : Nat} {t : TypeId} {cs : Array Value} (hk : Blk w g t cs) (ht : t ≠ 3) (u : Value) : Agree (IntK base w) w (w.setCell ⟨g, i, none⟩ u) :=
  Agree.setCell ⟨g, i, none⟩ (fun h => by
    obtain ⟨_, cs', h2⟩ := h
    have := hk.symm.trans h2
    simp at this
    exact ht this.2) u
def encS (x : Option Addr × Nat × Nat) : List Value := [.slice x.1 x.2.1 x.2.2]
theorem encS_one : ∀ x : Option Addr × Nat × Nat, ∀ u ∈ encS x, u.oneCell' = true := by
  intro x u hu
  simp [encS] at hu
  subst hu
  rfl
/-- A row of rows of the call's own. -/
def LeftO (w : World) (base : Nat) (v : Value) (l : List (List Int)) : Prop :=
  ∃ ts : List (Option Addr × Nat × Nat), ts.length = l.length ∧ w.ownsRow base 25 1 v ts.length (ts.map encS).flatten ∧ ∀ (j : Nat) t x, ts[j]? = some t → l[j]? = some x → IntS w (IntK base w) (.slice t.1 t.2.1 t.2.2) x
section
variable {w w' : World} {base : Nat} {v : Value} {l : List (List Int)}
theorem LeftO.own (h : LeftO w base v l) : OwnR 1 RowR w (IntK base w) base 25 v l := by
  obtain ⟨ts, h1, h2, h3⟩ := h
  refine ⟨ts.map encS, by rw [← h1]; exact h2, by simp [h1], fun i cs x e1 e2 => ?_⟩
  rw [List.getElem?_map] at e1
  cases e3 : ts[i]? with
  | none => rw [e3] at e1; cases e1
  | some t =>
    rw [e3] at e1
    injection e1 with e1
    subst e1
    exact ⟨rfl, _, rfl, h3 i t x e3 e2⟩
theorem LeftO.nil (w : World) (base : Nat) : LeftO w base (.slice none 0 0) [] := ⟨[], rfl, World.ownsRow_nil _ _ _ _, fun j t x h => by simp at h⟩
theorem LeftO.form (h : LeftO w base v l) : ∃ A c, v = .slice A l.length c := OwnR.form h.own
theorem LeftO.lt (h : LeftO w base v l) : ∀ k, v.ownBlock = some k → base ≤ k ∧ k < w.heap.size := OwnR.lt h.own
theorem LeftO.blk (h : LeftO w base v l) {g : Nat} (hg : v.ownBlock = some g) : ∃ cs, Blk w g 25 cs := by
  obtain ⟨ts, _, h1, _⟩ := h
  rcases h1.2 with ⟨h2, _⟩ | ⟨g', cap, cur, h2, _, hh, _⟩
  · rw [h2] at hg; simp [Value.ownBlock] at hg
  · rw [h2] at hg
    simp [Value.ownBlock] at hg
    subst hg
    exact ⟨cur, hh⟩
theorem LeftO.keep (h : LeftO w base v l) (ha : Agree (IntK base w) w w') (hr : ∀ g, v.ownBlock = some g → w'.heap[g]? = w.heap[g]?) : LeftO w' base v l := by
  obtain ⟨ts, h1, h2, h3⟩ := h
  refine ⟨ts, h1, ⟨h2.1, ?_⟩, fun j t x e1 e2 => IntS.keep (h3 j t x e1 e2) ha (fun _ g => IntK.step ha g)⟩
  rcases h2.2 with h4 | ⟨g, cap, cur, hv, hg, hh, r⟩
  · exact .inl h4
  · exact .inr ⟨g, cap, cur, hv, hg, by rw [hr g (by rw [hv]; rfl)]; exact hh, r⟩
theorem LeftO.below {B : Nat} (h : LeftO w base v l) (hb : Below B w w') (hB : w.heap.size ≤ B) : LeftO w' base v l :=
  h.keep (IntK.below hb hB) fun g hg => hb.block g (Nat.lt_of_lt_of_le (h.lt g hg).2 hB)
theorem LeftO.alloc (h : LeftO w base v l) (o : Obj) : LeftO (w.alloc o) base v l := h.below ((Below.refl _ _).alloc (Nat.le_refl _) o) (Nat.le_refl _)
theorem LeftO.drew (h : LeftO w base v l) : LeftO w.drew base v l := h.keep (Agree.drew _ _) fun _ _ => rfl
theorem LeftO.set_ (h : LeftO w base v l) {g i : Nat} {t : TypeId} {cs : Array Value} (hk : Blk w g t cs) (h1 : t ≠ 3) (h2 : v.ownBlock ≠ some g) (u : Value) : LeftO (w.setCell ⟨g, i, none⟩ u) base v l :=
  h.keep (IntK.set_ hk h1 u) fun k hk2 => Below.heap_setCell w ⟨g, i, none⟩ u k (fun e => h2 (by rw [hk2]; exact congrArg some e))
theorem LeftO.rows (h : LeftO w base v l) : RowsS w (Old w) v l := by
  have : OwnR 1 RowR w (Old w) base 25 v l := OwnR.keep RowR.stab h.own (Agree.refl _ _) (fun _ g => g.lt) fun _ _ => rfl
  exact this.sl fun g hg => (h.lt g hg).2
end
theorem OwnI.blk {w : World} {base : Nat} {v : Value} {l : List Int} (h : OwnI w base v l) {g : Nat} (hg : v.ownBlock = some g) : IntK base w g := by
  rcases h.2 with ⟨h2, _⟩ | ⟨g', cap, cur, h2, h3, hh, _⟩
  · rw [h2] at hg; simp [Value.ownBlock] at hg
  · rw [h2] at hg
    simp [Value.ownBlock] at hg
    subst hg
    exact ⟨h3, cur, hh⟩
theorem OwnI.keepK {w w' : World} {base : Nat} {v : Value} {l : List Int} (h : OwnI w base v l) (ha : Agree (IntK base w) w w') : OwnI w' base v l := by
  have hb := fun {g : Nat} (e : v.ownBlock = some g) => h.blk e
  refine ⟨h.1, ?_⟩
  rcases h.2 with h4 | ⟨g, cap, cur, hv, hg, hh, r⟩
  · exact .inl h4
  · exact .inr ⟨g, cap, cur, hv, hg, by rw [ha g (hb (by rw [hv]; rfl))]; exact hh, r⟩
theorem OwnI.slK {w : World} {base : Nat} {v : Value} {l : List Int} (h : OwnI w base v l) : IntS w (IntK base w) v l := by
  have hR : OwnR 1 (Flat Go.Inq.encI) w (IntK base w) base 3 v l := OwnR.flat h (fun _ => rfl)
  exact hR.sl fun g hg => h.blk hg
/-- append(left, row): the row of rows has grown. -/
theorem wpList_pushL {P : Program} {W : World} {ops : Array Oper} {rest : List Oper} {o : Oper} {a : Act} {Q : Exit → Act → World → Prop}
    (hgd : o.guard = none) (s x : Operand) (t : TypeId) (ho : o.op = .call { callee := .builtin .append, args := #[s, x], argTypes := #[t, t] })
    (base : Nat) (i : TypeInfo) (z : Value) (ht : P.underlying t = some (.slice 25)) (hi : P.info? 25 = some i) (hz : i.zero = some z)
    (hsize : i.size = 1) (hby : i.bytes = 24) (hzs : z.cells.size = 1)
    (v : Value) (l : List (List Int)) (hs : a.eval s = v) (hown : LeftO W base v l) (vx : Value) (x0 : List Int) (hrow : IntS W (IntK base W) vx x0)
    (hx : a.eval x = .slice (some ⟨W.heap.size, 0, none⟩) 1 1) (h63 : l.length + 1 ≤ 1000000) (hbase : base ≤ W.heap.size) (w0 : World) (hb : Below base w0 W)
    (h : ∀ v' w', LeftO w' base v' (l ++ [x0]) → Agree (IntK base W) W w' → Below base w0 w' → (∀ g, v'.ownBlock = some g → v.ownBlock = some g ∨ W.heap.size ≤ g) → (∀ g t cs, Blk W g t cs → t ≠ 25 → Blk w' g t cs) → wpList P ops Q rest (a.put o.dst v') w') :
    wpList P ops Q (o :: rest) a (W.alloc (.cells #[vx] 25)) := by
  obtain ⟨A0, c0, rfl⟩ := hrow.form
  obtain ⟨ts, h1, h2, h3⟩ := hown
  have hlt := h2.lt
  have hA0 : Agree (IntK base W) W (W.alloc (.cells #[.slice A0 x0.length c0] 25)) := IntK.alloc _
  have hblk : ∀ b, IntK base W b → v.ownBlock ≠ some b := fun b hb e => by
    obtain ⟨cs, g2⟩ := (show LeftO W base v l from ⟨ts, h1, h2, h3⟩).blk e
    obtain ⟨_, cs', g3⟩ := hb
    have := g2.symm.trans g3
    simp at this
  refine wpList_push (enc := encS) hgd s x t ho base 25 i z 1 24 ht hi hz hsize hby hzs (by decide) v ts hs h2 (fun _ => rfl) (A0, x0.length, c0) _ rfl hx encS_one (by unfold maxLen; omega) (by omega) hbase w0 base (Nat.le_refl _) hb ?_
  intro v' w' g1 g2 g3 g4
  have hA1 : Agree (IntK base W) W w' := hA0.trans (Agree.grown g2 fun b hb => ⟨by have := hb.lt; simp; omega, fun e => hblk b hb e.symm⟩)
  refine h v' w' ⟨ts ++ [(A0, x0.length, c0)], by simp [h1], g1, fun j t x e1 e2 => ?_⟩ hA1 g3 ?_ (fun g t cs hk ht => (hk.alloc _).grown g2 fun e => ?_)
  · by_cases hj : j < ts.length
    · rw [List.getElem?_append_left hj] at e1
      rw [List.getElem?_append_left (by omega)] at e2
      exact IntS.keep (h3 j t x e1 e2) hA1 (fun _ g => IntK.step hA1 g)
    · rw [List.getElem?_append_right (by omega)] at e1 e2
      have hj0 : j - ts.length = 0 := by
        rcases Nat.eq_zero_or_pos (j - ts.length) with e | e
        · exact e
        · rw [List.getElem?_eq_none (by simp; omega)] at e1; cases e1
      rw [hj0] at e1
      rw [show j - l.length = 0 by omega] at e2
      simp at e1 e2
      subst e1 e2
      exact IntS.keep hrow hA1 (fun _ g => IntK.step hA1 g)
  · intro g hg
    rcases g4 with e | e
    · exact .inl (e ▸ hg)
    · right
      rw [e] at hg
      injection hg with hg
      subst hg
      omega
  · obtain ⟨cs', h4⟩ := (show LeftO W base v l from ⟨ts, h1, h2, h3⟩).blk e.symm
    have := hk.symm.trans h4
    simp at this
    exact ht this.2
theorem LeftO.ne {w : World} {base : Nat} {v : Value} {l : List (List Int)} (h : LeftO w base v l) {g : Nat} {t : TypeId} {cs : Array Value} (hk : Blk w g t cs) (ht : t ≠ 25) : v.ownBlock ≠ some g := fun e => by
  obtain ⟨cs', h4⟩ := h.blk e
  have := hk.symm.trans h4
  simp at this
  exact ht this.2
theorem LeftO.rowsB {w : World} {base : Nat} {v : Value} {l : List (List Int)} (h : LeftO w base v l) : RowsS w (fun b => base ≤ b ∧ b < w.heap.size) v l := by
  have : OwnR 1 RowR w (fun b => base ≤ b ∧ b < w.heap.size) base 25 v l := OwnR.keep RowR.stab h.own (Agree.refl _ _) (fun _ g => ⟨g.1, g.lt⟩) fun _ _ => rfl
  exact this.sl fun g hg => h.lt g hg
theorem OwnI.slB {w : World} {base : Nat} {v : Value} {l : List Int} (h : OwnI w base v l) : IntS w (fun b => base ≤ b ∧ b < w.heap.size) v l := h.sl fun g h1 h2 => ⟨h1, h2⟩
theorem encS_flat : ∀ ts : List (Option Addr × Nat × Nat), (ts.map encS).flatten = ts.map fun t => Value.slice t.1 t.2.1 t.2.2
  | [] => rfl
  | t :: ts => by rw [List.map_cons, List.flatten_cons, encS_flat ts]; rfl
/-- An element, and a store of another row there. -/
theorem LeftO.at_ {w : World} {base : Nat} {A : Option Addr} {n c : Nat} {l : List (List Int)} (h : LeftO w base (.slice A n c) l) {i : Nat} (hi : i < l.length) :
    ∃ g A' c' cs, A = some ⟨g, 0, none⟩ ∧ base ≤ g ∧ Blk w g 25 cs ∧ w.cell? ⟨g, i, none⟩ = some (.slice A' l[i].length c') ∧ IntS w (IntK base w) (.slice A' l[i].length c') l[i] ∧
      ∀ A2 c2 x, IntS w (IntK base w) (.slice A2 x.length c2) x → LeftO (w.setCell ⟨g, i, none⟩ (.slice A2 x.length c2)) base (.slice A n c) (l.set i x) := by
  obtain ⟨ts, h1, h2, h3⟩ := h
  rcases h2.2 with ⟨_, h4⟩ | ⟨g, cap, cur, hv, hg, hh, h6, h7, h8, h9⟩
  · omega
  · simp only [Value.slice.injEq] at hv
    obtain ⟨rfl, hn, rfl⟩ := hv
    have hk : Blk w g 25 cur := hh
    have hit : i < ts.length := by omega
    rw [encS_flat, Nat.mul_one] at h9
    have hci : cur[i]? = some (.slice ts[i].1 ts[i].2.1 ts[i].2.2) := by
      have h10 : (cur.toList.take ts.length)[i]? = some (.slice ts[i].1 ts[i].2.1 ts[i].2.2) := by
        rw [h9, List.getElem?_map, List.getElem?_eq_getElem hit]
        rfl
      rw [List.getElem?_take, if_pos hit] at h10
      simpa using h10
    have hI := h3 i ts[i] l[i] (List.getElem?_eq_getElem hit) (List.getElem?_eq_getElem hi)
    obtain ⟨A', c', e⟩ := hI.form
    rw [e] at hI
    rw [e] at hci
    refine ⟨g, A', c', cur, rfl, hg, hk, (hk.cell i).trans hci, hI, fun A2 c2 x hx => ?_⟩
    have hag : Agree (IntK base w) w (w.setCell ⟨g, i, none⟩ (.slice A2 x.length c2)) := IntK.set_ hk (by decide) _
    refine ⟨ts.set i (A2, x.length, c2), by simp [h1], ⟨by rw [encS_flat]; simp, .inr ⟨g, c, cur.setIfInBounds i (.slice A2 x.length c2), by simp only [Value.slice.injEq, List.length_set]; exact ⟨trivial, hn, trivial⟩, hg, hk.set_ i _, by rw [List.length_set]; exact h6, h7, by simpa using h8, ?_⟩⟩, fun j t y e1 e2 => ?_⟩
    · rw [encS_flat, Nat.mul_one, List.length_set, Array.toList_setIfInBounds, List.take_set, h9, List.map_set]
    · by_cases hj : j = i
      · subst hj
        rw [List.getElem?_set_self hit] at e1
        rw [List.getElem?_set_self hi] at e2
        injection e1 with e1
        injection e2 with e2
        subst e1 e2
        exact IntS.keep hx hag (fun _ g => IntK.step hag g)
      · rw [List.getElem?_set_ne (Ne.symm hj)] at e1 e2
        exact IntS.keep (h3 j t y e1 e2) hag (fun _ g => IntK.step hag g)
end Go.Proofs.YtfodlklpfffaaaaGreatDoor

namespace Go.Inq
open Go Go.RowKit

/-- Blocks from b on whose elements are of type t may be set; all else stays. -/
def VarT (t : TypeId) (n : Nat) (b : Nat) (W W' : World) : Prop :=
  (W'.os = W.os ∧ W'.tape = W.tape ∧ W'.output = W.output ∧ W.heap.size ≤ W'.heap.size) ∧ ∀ k, k < W.heap.size → W'.heap[k]? = W.heap[k]? ∨ (b ≤ k ∧ ∃ cs cs', W.heap[k]? = some (.cells cs t (0, 0)) ∧ W'.heap[k]? = some (.cells cs' t (0, 0)) ∧ cs'.size = n)
section
variable {t : TypeId} {n b : Nat} {W W' : World}
theorem VarT.of_below (h : Below W.heap.size W W') : VarT t n b W W' := ⟨⟨h.os, h.tape, h.output, h.size⟩, fun k hk => .inl (h.block k hk)⟩
theorem VarT.blk {g : Nat} {t' : TypeId} {cs : Array Value} (h : VarT t n b W W') (hk : Blk W g t' cs) (ht : t' ≠ t) : Blk W' g t' cs := by
  rcases h.2 g hk.lt with e | ⟨_, cs1, _, e, _⟩
  · exact e.trans hk
  · rw [show W.heap[g]? = _ from hk] at e
    injection e with e
    injection e with _ e
    exact absurd e ht
/-- One store into such a block. -/
theorem VarT.set_ {g : Nat} {cs : Array Value} (hk : Blk W g t cs) (hg : b ≤ g) (hb : Below W.heap.size W' W' ) {cs' : Array Value} (hk' : Blk W' g t cs') (hs : cs'.size = n) (h0 : W'.os = W.os ∧ W'.tape = W.tape ∧ W'.output = W.output ∧ W.heap.size ≤ W'.heap.size) (ho : ∀ k, k ≠ g → W'.heap[k]? = W.heap[k]?) : VarT t n b W W' :=
  ⟨h0, fun k _ => by
    by_cases e : k = g
    · subst e
      exact .inr ⟨hg, cs, cs', hk, hk', hs⟩
    · exact .inl (ho k e)⟩
end
/-- A variable of four cells. -/
def Var4 (t : TypeId) (b : Nat) (v : Value) (W : World) : Prop := ∃ g, b ≤ g ∧ v = .pointer (some ⟨g, 0, none⟩) ∧ ∃ x y z u, Blk W g t #[x, y, z, u]
theorem Var4.var {t : TypeId} {b b' : Nat} {v : Value} {W W' : World} (h : Var4 t b v W) (hs : VarT t 4 b' W W') : Var4 t b v W' := by
  obtain ⟨g, h1, h2, x, y, z, u, h3⟩ := h
  rcases hs.2 g h3.lt with e | ⟨_, cs, cs', _, e2, e3⟩
  · exact ⟨g, h1, h2, x, y, z, u, e.trans h3⟩
  · refine ⟨g, h1, h2, cs'[0]'(by omega), cs'[1]'(by omega), cs'[2]'(by omega), cs'[3]'(by omega), ?_⟩
    have : cs' = #[cs'[0]'(by omega), cs'[1]'(by omega), cs'[2]'(by omega), cs'[3]'(by omega)] := by
      refine Array.ext (by simp [e3]) fun i h1 h2 => ?_
      simp at h2
      match i, h2 with
      | 0, _ => rfl
      | 1, _ => rfl
      | 2, _ => rfl
      | 3, _ => rfl
    unfold Blk
    rw [← this]
    exact e2
end Go.Inq
