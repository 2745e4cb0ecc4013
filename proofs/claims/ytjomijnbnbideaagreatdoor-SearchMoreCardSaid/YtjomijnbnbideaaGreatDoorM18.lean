/-
  Walks: layer 22: whether a fact is forced: the other way round something would lead back.
-/
import Derived.Test.YtjomijnbnbideaaGreatDoorM17
import Derived.Test.YtjomijnbnbideaaGreatDoorM03
import Derived.Test.YtjomijnbnbideaaGreatDoorM04
import Derived.Test.YtjomijnbnbideaaGreatDoorM12
set_option linter.unusedVariables false
set_option linter.unusedSimpArgs false
namespace Go.Proofs.YtjomijnbnbideaaGreatDoor
open Go.RowKit Go.Inq
set_option maxHeartbeats 8000000
attribute [local go_sem ↓] Go.wp_at_zero Go.wp_at_succ

set_option maxRecDepth 100000 in
theorem forced22_any (A : Option Addr) (c : Nat) (H : List Txn) (level : Int) (Al : Option Addr) (cl : Nat) (L : List Fct) (f : Fct) (Ac : Option Addr) (cc : Nat) (w : World) (h : TxnS w (Old w) (.slice A H.length c) H) (hn : SmallH H) (hL : FctS w (Old w) (.slice Al L.length cl) L) (hl : L.length ≤ 1000000) (hy : IntS w (Old w) (.slice Ac f.cyc.length cc) f.cyc) (hyl : f.cyc.length ≤ 1000000) :
    Calls Tryz.prog 137 #[.agg #[.slice A H.length c, .int .i64 level, .slice Al L.length cl, .int .i64 f.c.key, .int .i64 f.c.a, .int .i64 f.c.b, .int .i64 f.kind, .int .i64 f.i, .int .i64 f.j, .slice Ac f.cyc.length cc]] w fun e w' => e = .returned (.bool (forcB H level L f)) ∧ Below w.heap.size w w' := by
  obtain ⟨ic, hic, hi1, hi2, hi3⟩ := info_parts infoC9
  obtain ⟨⟨key, a, b⟩, kind, i, j, cyc⟩ := f
  dsimp only at hy hyl ⊢
  obtain ⟨W0, hW0⟩ : ∃ W0, w.alloc (.cells #[.slice A H.length c, .int .i64 level, .slice Al L.length cl, .int .i64 key, .int .i64 a, .int .i64 b, .int .i64 kind, .int .i64 i, .int .i64 j, .slice Ac cyc.length cc] 138) = W0 := ⟨_, rfl⟩
  have hB := below_allocEq (Below.refl w.heap.size w) hW0 (Nat.le_refl _)
  have k0 := Blk.newEq hW0
  obtain ⟨r, hr⟩ : ∃ r, forcB H level L ⟨⟨key, a, b⟩, kind, i, j, cyc⟩ = r := ⟨_, rfl⟩
  have hre : Hid (r = (decide (i = 0) && decide (j = 0) && ringB H level (chosL L ++ [⟨key, b, a⟩]) cyc)) := hide hr.symm
  rw [hr]
  have hcs := hide (fun W (hb : Below w.heap.size w W) => choices22_any Al cl L W (hL.below hb) hl)
  have hMl : (chosL L).length ≤ 1000000 := by rw [chosL_len]; exact hl
  have hrg := hide (fun W (hb : Below w.heap.size w W) Al' cl' (hC : ChoS W (Old W) (.slice Al' (chosL L ++ [(⟨key, b, a⟩ : Cho)]).length cl') (chosL L ++ [⟨key, b, a⟩])) => ring19_any A c H level Al' cl' (chosL L ++ [⟨key, b, a⟩]) Ac cc cyc W (h.below hb) hn hC (by rw [List.length_append, List.length_singleton]; omega) (hy.below hb) (by omega))
  generalize ringB H level (chosL L ++ [⟨key, b, a⟩]) cyc = q at *
  generalize chosL L = M at *
  have c2 := Blk.n2 k0
  clear hr h hL hy c2
  go_enter Tryz.func137, Tryz.ntmps137
  go_upto_region 1 with fail
  clear hW0
  refine wp_region_tabs W0.heap.size [wV (.pointer (some ⟨w.heap.size, 2, none⟩)), wV (.slice Al L.length cl), wO W0.heap.size 49 3 M.length (M.map encC).flatten, wV (.pointer (some ⟨w.heap.size, 3, none⟩)), wV (.pointer (some ⟨w.heap.size, 3, none⟩)), wV (.pointer (some ⟨w.heap.size, 3, none⟩)), wV (.int .i64 key), wV (.pointer (some ⟨w.heap.size, 3, none⟩)), wV (.pointer (some ⟨w.heap.size, 3, none⟩)), wV (.pointer (some ⟨w.heap.size, 5, none⟩)), wV (.int .i64 b), wV (.pointer (some ⟨w.heap.size, 3, none⟩)), wV (.pointer (some ⟨w.heap.size, 3, none⟩)), wV (.pointer (some ⟨w.heap.size, 4, none⟩)), wV (.int .i64 a), wV (.agg #[.int .i64 key, .int .i64 b, .int .i64 a]), wS W0.heap.size 49 1 #[.int .i64 key, .int .i64 b, .int .i64 a], wO W0.heap.size 49 3 (M ++ [(⟨key, b, a⟩ : Cho)]).length ((M ++ [(⟨key, b, a⟩ : Cho)]).map encC).flatten, wO W0.heap.size 49 3 (M ++ [(⟨key, b, a⟩ : Cho)]).length ((M ++ [(⟨key, b, a⟩ : Cho)]).map encC).flatten] [[], [0], [1], [], [3], [4], [5], [], [7], [8], [9], [], [11], [12], [13], [6,10,14], [15], [2,16], [17]] [[], [], [], [], [], [], [], [], [], [], [], [], [], [], [], [], [], [49], []] [[], [], [49], [], [], [], [], [], [], [], [], [], [], [], [], [], [49], [49], [49]] [] [49] (Nat.le_refl _) (by kernel_rfl) (by kernel_rfl) (by kernel_rfl) (by kernel_rfl) (by kernel_rfl) (by kernel_rfl) rfl trivial (by kernel_rfl) (by kernel_rfl) ?hstep ?hend
  case hstep =>
    simp only [StepsT, WantsT, RsT, acV, wV, wO, wS, wB, wU, updV, gA, gZ, gS, List.getD_cons_zero, List.getD_cons_succ, List.getD_nil, Act.put, sA, sZ, sS, Nat.zero_add, Nat.reduceAdd, if_true, and_true]
    refine ⟨?_, ?_, ?o2, ?_, ?_, ?_, ?_, ?_, ?_, ?_, ?_, ?_, ?_, ?_, ?_, ?_, ?o16, ?o17, ?o18⟩
    all_goals intro vs W R hR hT hd
    all_goals have hsz := hT.size
    all_goals have hbW := hB.trans (hT.below.mono hB.size)
    all_goals have kq := hT.blk k0 (by decide)
    all_goals have c2 := kq.cell 2
    all_goals have c3 := kq.cell 3
    all_goals have c4 := kq.cell 4
    all_goals have c5 := kq.cell 5
    all_goals simp only [gA, gZ, gS] at c2 c3 c4 c5
    case o2 =>
      rw [hd]
      go_wp2_with fail
      refine (hcs.out W hbW).mono ?_
      rintro e W2 ⟨v, rfl, hv, hb2⟩
      go_wp2
      exact ⟨rfl, _, rfl, hR _ _ (own_baseT hv hsz) (TyW.calm hb2 hsz)⟩
    case o16 =>
      go_wp2
      exact ⟨rfl, _, rfl, hR _ _ ⟨W.heap.size, hsz, rfl, Blk.new _ _ _⟩ (TyW.calm ((Below.refl _ _).alloc (Nat.le_refl _) _) hsz)⟩
    case o17 =>
      obtain ⟨o2, g, hg, e16, kg⟩ := hd
      rw [e16]
      refine wpList_append_flat (enc := encC) rfl (.tmp 6) (.tmp 20) 61 rfl W0.heap.size 49 ic _ 3 24 Tryz.underlying61 hic hi1 hi2 hi3 rfl (by decide) (vs 2) (fun b => b = g) M rfl o2 (fun _ => rfl) (.slice (some ⟨g, 0, none⟩) 1 1) [(⟨key, b, a⟩ : Cho)] rfl (SlR.one kg rfl rfl rfl) encC_one (by simp [maxLen]; omega) (by simp; omega) hsz ?_
      intro v6 W6 hown6 hgrow6 hat6
      exact ⟨rfl, _, rfl, hR _ _ hown6 (TyW.grown o2 hgrow6 (by simp) (Nat.le_refl _) hsz)⟩
    case o18 =>
      go_wp2
      exact ⟨rfl, _, rfl, hR _ _ hd (TyW.refl _ _ _)⟩
    all_goals (go_wp2; exact ⟨rfl, _, rfl, hR _ _ (by first | rfl | trivial) (TyW.refl _ _ _)⟩)
  case hend =>
    intro vs W hT hd
    have o18 : OwnC W W0.heap.size (vs 18) (M ++ [(⟨key, b, a⟩ : Cho)]) := hd 18 (by simp) (by kernel_rfl)
    have hsz := hT.size
    have hbW := hB.trans (hT.below.mono hB.size)
    have kq := hT.blk k0 (by decide)
    simp only [acV, gA, gZ, gS, Act.put, sA, sZ, sS, List.length_cons, List.length_nil, Nat.reduceAdd]
    generalize M ++ [(⟨key, b, a⟩ : Cho)] = N at *
    obtain ⟨A18, c18, e18⟩ := o18.form
    have hC := hrg.out W hbW A18 c18 (e18 ▸ o18.sl (K := Old W) fun g _ h => h)
    rw [e18]
    have c0 := Blk.n0 kq
    have c1 := Blk.n1 kq
    have c7 := Blk.n7 kq
    have c8 := Blk.n8 kq
    have c9 := Blk.n9 kq
    replace hC := hide hC
    clear hd o18 e18 hrg hcs kq k0 hT
    by_cases h1 : i = 0
    · by_cases h2 : j = 0
      · have hrq : r = q := by rw [hre.out]; simp [h1, h2]
        have g1 : (i == 0) = true := by simp [h1]
        have g2 : (j == 0) = true := by simp [h2]
        subst hrq
        clear h1 h2 hre
        go_wp2_with fail
        refine hC.out.mono ?_
        rintro e w1 ⟨rfl, hb1⟩
        go_wp2
        go_ret
        exact ⟨rfl, hbW.trans (hb1.mono hbW.size)⟩
      · have hrq : r = false := by rw [hre.out]; simp [h2]
        have g1 : (i == 0) = true := by simp [h1]
        have g2 : (j == 0) = false := by simp [h2]
        subst hrq
        clear h1 h2 hre
        go_wp2
        go_ret
        exact ⟨rfl, hbW⟩
    · have hrq : r = false := by rw [hre.out]; simp [h1]
      have g1 : (i == 0) = false := by simp [h1]
      subst hrq
      clear h1 hre
      go_wp2
      go_ret
      exact ⟨rfl, hbW⟩
end Go.Proofs.YtjomijnbnbideaaGreatDoor
