/-
  Walks: layer 29: the cycle of the known graph with a choice more.
-/
import Derived.Test.YtjomijnbnbideaaGreatDoorE32
import Derived.Test.YtjomijnbnbideaaGreatDoorE14
import Derived.Test.YtjomijnbnbideaaGreatDoorE16
import Derived.Test.YtjomijnbnbideaaGreatDoorE13
import Derived.Test.YtjomijnbnbideaaGreatDoorE25
import Derived.Test.YtjomijnbnbideaaGreatDoorE27
set_option linter.unusedVariables false
set_option linter.unusedSimpArgs false
namespace Go.Proofs.YtjomijnbnbideaaGreatDoor
open Go.RowKit Go.Inq
set_option maxHeartbeats 8000000
attribute [local go_sem ↓] Go.wp_at_zero Go.wp_at_succ

/-- What Full tells; its graph; a variable that holds it. -/
def wGt (base n : Nat) (E : Edges) : Wrd := ⟨[145], fun v W => ∃ g, base ≤ g ∧ v = .tuple #[.agg #[.int .i64 n, .slice (some ⟨g, 0, none⟩) n n], .int .i64 0] ∧ Blk W g 145 (rowsB n E), fun _ _ _ _ _ h hT k => by
  obtain ⟨g, h1, h2, h3⟩ := k
  exact ⟨g, h1, h2, hT.blk h3 (h _ (by simp))⟩⟩
def wGa (base n : Nat) (E : Edges) : Wrd := ⟨[145], fun v W => ∃ g, base ≤ g ∧ v = .agg #[.int .i64 n, .slice (some ⟨g, 0, none⟩) n n] ∧ Blk W g 145 (rowsB n E), fun _ _ _ _ _ h hT k => by
  obtain ⟨g, h1, h2, h3⟩ := k
  exact ⟨g, h1, h2, hT.blk h3 (h _ (by simp))⟩⟩
def wGb (base n : Nat) (E : Edges) : Wrd := ⟨[56, 145], fun v W => ∃ gb g, base ≤ gb ∧ base ≤ g ∧ v = .pointer (some ⟨gb, 0, none⟩) ∧ Blk W gb 56 #[.int .i64 n, .slice (some ⟨g, 0, none⟩) n n] ∧ Blk W g 145 (rowsB n E), fun _ _ _ _ _ h hT k => by
  obtain ⟨gb, g, h1, h2, h3, h4, h5⟩ := k
  exact ⟨gb, g, h1, h2, h3, hT.blk h4 (h _ (by simp)), hT.blk h5 (h _ (by simp))⟩⟩
set_option maxRecDepth 100000 in
theorem chain29_any (A : Option Addr) (c : Nat) (H : List Txn) (level : Int) (Ak : Option Addr) (ck : Nat) (M : List Cho) (x : Cho) (g1 g2 g3 : Nat) (w : World) (h : TxnS w (Old w) (.slice A H.length c) H) (hn : SmallH H) (hM : ChoS w (Old w) (.slice Ak M.length ck) M) (hr : rightC H (M ++ [x]) = true) (hlev : level = 0 ∨ level = 1) (hTB : TabB w)
    (b1 : Blk w g1 24 #[.slice A H.length c]) (b2 : Blk w g2 3 #[.int .i64 level]) (b3 : Blk w g3 61 #[.slice Ak M.length ck]) :
    Calls Tryz.prog 158 #[.agg #[.int .i64 x.key, .int .i64 x.a, .int .i64 x.b], .pointer (some ⟨g1, 0, none⟩), .pointer (some ⟨g2, 0, none⟩), .pointer (some ⟨g3, 0, none⟩)] w (OutI w (findC H level (M ++ [x]))) := by
  obtain ⟨ic, hic, hi1, hi2, hi3⟩ := info_parts infoC9
  obtain ⟨xk, xa, xb⟩ := x
  dsimp only
  obtain ⟨W0, hW0⟩ : ∃ W0, w.alloc (.cells #[.int .i64 xk, .int .i64 xa, .int .i64 xb] 49) = W0 := ⟨_, rfl⟩
  have hB := below_allocEq (Below.refl w.heap.size w) hW0 (Nat.le_refl _)
  have k0 := Blk.newEq hW0
  have k1 := b1.below hB b1.lt
  have k2 := b2.below hB b2.lt
  have k3 := b3.below hB b3.lt
  have hri : rightH H = true := by unfold rightC at hr; simp only [Bool.and_eq_true] at hr; exact hr.1.1
  have h64 : H.length ≤ 64 := by have := ((rightH_iff H).1 hri).1; omega
  have hNl : M.length + 1 ≤ 20000 := by unfold rightC at hr; simp only [Bool.and_eq_true, decide_eq_true_eq] at hr; have := hr.1.2; rw [List.length_append, List.length_singleton] at this; exact this
  have hcap : M.length ≤ ck := by obtain ⟨_, _, e, h1⟩ := SlR.len hM; simp only [Value.slice.injEq] at e; omega
  have hMS : ∀ W, Below w.heap.size w W → ChoS W (fun b => b < w.heap.size) (.slice Ak M.length M.length) M := fun W hb => by
    obtain ⟨A', c', xs, e, h1, h2, h3, h4⟩ := ChoS.keep (K' := fun b => b < w.heap.size) hM (Agree.below hb fun b h => h) (fun b h => h)
    injection e with e1 e2 e3
    subst e1
    exact ⟨Ak, M.length, xs, rfl, Nat.le_refl _, h2, h3, h4⟩
  have hfu := hide (fun W (hb : Below w.heap.size w W) A' c' (hC : ChoS W (Old W) (.slice A' (M ++ [(⟨xk, xa, xb⟩ : Cho)]).length c') (M ++ [⟨xk, xa, xb⟩])) => full18_any A c H level A' c' (M ++ [⟨xk, xa, xb⟩]) W (h.below hb) hn hC hr hlev (hTB.below hb))
  have hfi := hide (fun g W (hb : Below w.heap.size w W) (kg : Blk W g 145 (rowsB H.length (fullE H level (M ++ [⟨xk, xa, xb⟩])))) => find15_any H.length (some ⟨g, 0, none⟩) H.length (fullE H level (M ++ [⟨xk, xa, xb⟩])) W (GrS.of_blk kg kg.lt h64) (hTB.below hb))
  have hFL : findC H level (M ++ [⟨xk, xa, xb⟩]) = intsN (findL H.length (fullE H level (M ++ [⟨xk, xa, xb⟩]))) := rfl
  rw [hFL]
  obtain ⟨N, hNM⟩ : ∃ N, M ++ [(⟨xk, xa, xb⟩ : Cho)] = N := ⟨_, rfl⟩
  rw [hNM] at hfu hfi ⊢
  generalize fullE H level N = E at *
  generalize intsN (findL H.length E) = FL at *
  clear hr hFL
  go_enter Tryz.func158, Tryz.ntmps158
  go_upto_region 1 with fail
  clear hW0
  refine wp_region_tabs W0.heap.size [wV (.agg #[.slice A H.length c]), wV (.int .i64 level), wV (.slice Ak M.length ck), wV (.slice Ak M.length M.length), wV (.agg #[.int .i64 xk, .int .i64 xa, .int .i64 xb]), wS W0.heap.size 49 1 #[.int .i64 xk, .int .i64 xa, .int .i64 xb], wO W0.heap.size 49 3 N.length (N.map encC).flatten, wGt W0.heap.size H.length E, wGt W0.heap.size H.length E, wGa W0.heap.size H.length E, wV (.int .i64 0), wB W0.heap.size 56 #[.int .i64 0, .slice none 0 0], wGb W0.heap.size H.length E, wV (.int .i64 0)] [[], [], [], [2], [], [4], [3,5], [0,1,6], [7], [8], [8], [], [9,11], [10]] [[], [], [], [], [], [], [], [], [], [], [], [], [56], []] [[], [], [], [], [], [49], [49], [145], [145], [145], [], [56], [56, 145], []] [0, 1, 2, 3, 4, 5, 6, 7, 8, 9, 10, 11, 11, 13] [56] (Nat.le_refl _) (by kernel_rfl) (by kernel_rfl) (by kernel_rfl) (by kernel_rfl) (by kernel_rfl) (by kernel_rfl) rfl trivial (by kernel_rfl) (by kernel_rfl) ?hstep ?hend
  case hstep =>
    simp only [StepsT, WantsT, RsT, acV, wV, wO, wS, wB, wU, wX, wK, wA, wGt, wGa, wGb, updV, List.getElem?_toArray, List.getElem?_cons_zero, List.getElem?_cons_succ, List.getD_cons_zero, List.getD_cons_succ, List.getD_nil, Act.put, List.setIfInBounds_toArray, List.set_cons_zero, List.set_cons_succ, Nat.zero_add, Nat.reduceAdd, if_true, and_true]
    refine ⟨?o0, ?o1, ?o2, ?o3, ?o4, ?o5, ?o6, ?o7, ?o8, ?o9, ?o10, ?o11, ?o12, ?_⟩
    all_goals intro vs W R hR hT hd
    all_goals have hsz := hT.size
    all_goals have hbW := hB.trans (hT.below.mono hB.size)
    case o0 =>
      have c0 := (k1.below hT.below k1.lt).cell 0
      simp only [List.getElem?_toArray, List.getElem?_cons_zero] at c0
      go_wp2
      exact ⟨rfl, _, rfl, hR _ _ rfl (TyW.refl _ _ _)⟩
    case o1 =>
      have c0 := (k2.below hT.below k2.lt).cell 0
      simp only [List.getElem?_toArray, List.getElem?_cons_zero] at c0
      go_wp2
      exact ⟨rfl, _, rfl, hR _ _ rfl (TyW.refl _ _ _)⟩
    case o2 =>
      have c0 := (k3.below hT.below k3.lt).cell 0
      simp only [List.getElem?_toArray, List.getElem?_cons_zero] at c0
      go_wp2
      exact ⟨rfl, _, rfl, hR _ _ rfl (TyW.refl _ _ _)⟩
    case o3 =>
      rw [hd]
      go_wp2_with fail
      refine (clipCh_any Ak M.length ck W hcap).mono ?_
      rintro e W2 ⟨rfl, rfl⟩
      go_wp2
      exact ⟨rfl, _, rfl, hR _ _ rfl (TyW.refl _ _ _)⟩
    case o4 =>
      have kq := k0.below hT.below k0.lt
      have c0 := kq.cell 0
      have c1 := kq.cell 1
      have c2 := kq.cell 2
      simp only [List.getElem?_toArray, List.getElem?_cons_zero, List.getElem?_cons_succ] at c0 c1 c2
      go_wp2
      exact ⟨rfl, _, rfl, hR _ _ rfl (TyW.refl _ _ _)⟩
    case o5 =>
      rw [hd]
      go_wp2
      exact ⟨rfl, _, rfl, hR _ _ ⟨W.heap.size, hsz, rfl, Blk.new _ _ _⟩ (TyW.calm ((Below.refl _ _).alloc (Nat.le_refl _) _) hsz)⟩
    case o6 =>
      obtain ⟨e3, g, hg, e5, kg⟩ := hd
      rw [e3, e5]
      refine wpList_append_full (enc := encC) rfl _ _ 61 rfl 49 ic _ 3 24 Tryz.underlying61 hic hi1 hi2 hi3 rfl (by decide) Ak (fun b => b < w.heap.size) M rfl (hMS W hbW) (fun _ => rfl) g _ ⟨xk, xa, xb⟩ kg rfl rfl encC_one (by unfold maxLen; omega) (by omega) ?_
      intro v6 W6 hown6 hb6
      rw [hNM] at hown6
      exact ⟨rfl, _, rfl, hR _ _ (own_baseT hown6 hsz) (TyW.calm hb6 hsz)⟩
    case o7 =>
      obtain ⟨e0, e1, o6⟩ := hd
      obtain ⟨A6, c6, e6⟩ := own_slice o6
      rw [e6] at o6
      rw [e0, e1, e6]
      go_wp2_with fail
      refine (hfu.out W hbW A6 c6 (OwnC.sl o6 fun g _ h => h)).mono ?_
      rintro e W2 ⟨g, hg, rfl, kg, hb2⟩
      go_wp2
      exact ⟨rfl, _, rfl, hR _ _ ⟨g, Nat.le_trans hsz hg, rfl, kg⟩ (TyW.calm hb2 hsz)⟩
    case o8 =>
      go_wp2
      exact ⟨rfl, _, rfl, hR _ _ hd (TyW.refl _ _ _)⟩
    case o9 =>
      obtain ⟨g, hg, e8, kg⟩ := hd
      rw [e8]
      go_wp2
      exact ⟨rfl, _, rfl, hR _ _ ⟨g, hg, rfl, kg⟩ (TyW.refl _ _ _)⟩
    case o10 =>
      obtain ⟨g, hg, e8, kg⟩ := hd
      rw [e8]
      go_wp2
      exact ⟨rfl, _, rfl, hR _ _ rfl (TyW.refl _ _ _)⟩
    case o11 =>
      go_wp2
      exact ⟨rfl, _, rfl, hR _ _ ⟨W.heap.size, hsz, rfl, Blk.new _ _ _⟩ (TyW.calm ((Below.refl _ _).alloc (Nat.le_refl _) _) hsz)⟩
    case o12 =>
      obtain ⟨⟨g, hg, e9, kg⟩, gb, hgb, e11, kb⟩ := hd
      have z0 := kb.cell 0
      have z1 := kb.cell 1
      have f0 := kb.frozen 0
      have f1 := kb.frozen 1
      simp only [List.getElem?_toArray, List.getElem?_cons_zero, List.getElem?_cons_succ] at z0 z1
      have hP := (TyW.put kb (σ := [56]) hgb (by simp) (i := 0) (.int .i64 H.length)).trans (TyW.put (kb.set_ 0 _) hgb (by simp) (i := 1) (.slice (some ⟨g, 0, none⟩) H.length H.length))
      have kP := (kb.set_ 0 (.int .i64 H.length)).set_ 1 (.slice (some ⟨g, 0, none⟩) H.length H.length)
      rw [e9, e11]
      go_wp2
      exact ⟨rfl, undef, rfl, hR undef _ ⟨gb, g, hgb, hg, e11, kP, hP.blk kg (by decide)⟩ hP⟩
    all_goals (go_wp2; exact ⟨rfl, _, rfl, hR _ _ (by first | rfl | trivial) (TyW.refl _ _ _)⟩)
  case hend =>
    intro vs W hT hd
    obtain ⟨gb, g, hgb, hg, e11, kb, kg⟩ : ∃ gb g, W0.heap.size ≤ gb ∧ W0.heap.size ≤ g ∧ vs 11 = .pointer (some ⟨gb, 0, none⟩) ∧ Blk W gb 56 #[.int .i64 H.length, .slice (some ⟨g, 0, none⟩) H.length H.length] ∧ Blk W g 145 (rowsB H.length E) := hd 12 (by simp) (by kernel_rfl)
    have hbW := hB.trans (hT.below.mono hB.size)
    simp only [acV, List.getElem?_toArray, List.getElem?_cons_zero, List.getElem?_cons_succ, Act.put, List.setIfInBounds_toArray, List.set_cons_zero, List.set_cons_succ, List.length_cons, List.length_nil, Nat.reduceAdd]
    rw [e11]
    have hfc := hide (hfi.out g W hbW kg)
    have z0 := kb.cell 0
    have z1 := kb.cell 1
    simp only [List.getElem?_toArray, List.getElem?_cons_zero, List.getElem?_cons_succ] at z0 z1
    clear hd hT hfi hfu hMS kb kg k0 k1 k2 k3 hNM
    go_wp2_with fail
    refine hfc.out.mono ?_
    rintro e w1 ⟨v, rfl, hv, hb1⟩
    have hs := hbW.size
    go_wp2
    go_ret
    exact ⟨_, rfl, own_baseT hv hs, hbW.trans (hb1.mono hs)⟩
end Go.Proofs.YtjomijnbnbideaaGreatDoor
