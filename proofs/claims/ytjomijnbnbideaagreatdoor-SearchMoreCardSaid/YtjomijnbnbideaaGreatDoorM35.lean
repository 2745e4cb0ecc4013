/-
  Walks: layer 31: the laws' example.
-/
import Derived.Test.YtjomijnbnbideaaGreatDoorProg
import Derived.Test.YtjomijnbnbideaaGreatDoorRows
import Derived.Test.YtjomijnbnbideaaGreatDoorCards
import Derived.Test.YtjomijnbnbideaaGreatDoorTie
import Derived.ProofKit
import Derived.OpenShut
import Derived.LaidMore
import Derived.Lay
import Derived.SevenTiedAt
import Derived.Stop.Joined
import Derived.HandedShaped
import Derived.SliceStrings
import Derived.Deep.Slices
import Derived.Below
import Derived.Carry
import Derived.Lib.LaidU8
import Derived.Deep.Fields
import Derived.ChangeSame
import Derived.Lib.SmallJoins
import Derived.Deep.Strs
import Derived.JoinedOf
import Derived.Test.YtjomijnbnbideaaGreatDoorM34
import Derived.Test.YtjomijnbnbideaaGreatDoorM30
import Derived.Test.YtjomijnbnbideaaGreatDoorM08
import Derived.Test.YtjomijnbnbideaaGreatDoorM01
import Derived.Test.YtjomijnbnbideaaGreatDoorM04
import Derived.Test.YtjomijnbnbideaaGreatDoorM02
import Derived.Test.YtjomijnbnbideaaGreatDoorM06
set_option linter.unusedVariables false
set_option linter.unusedSimpArgs false
namespace Go.Proofs.YtjomijnbnbideaaGreatDoor
open Go.RowKit Go.Inq
set_option maxHeartbeats 8000000
attribute [local go_sem ↓] Go.wp_at_zero Go.wp_at_succ

def exK : List Txn := [⟨0, [2], [⟨2, -1⟩]⟩, ⟨1, [2], [⟨2, -1⟩]⟩]
theorem exK_pairs : pairsL exK = [⟨2, 0, 1⟩] := by
  unfold pairsL
  rw [keysL_16 (by decide)]
  kernel_rfl
def exKa : List Mk := [⟨⟨2, 0, 1⟩, false, []⟩]
def exKl : List Nod := [⟨⟨0, 0, 0⟩, [0]⟩]
def exKb : List Mk := [⟨⟨2, 0, 1⟩, true, exKl⟩]
theorem ex31_a : stepP exK 1 [] [] = (exKa, ⟨0, [], [], []⟩) := by
  unfold stepP openO
  rw [exK_pairs]
  kernel_rfl
theorem ex31_b : stepP exK 1 [] exKa = (exKb, ⟨0, [], [], []⟩) := by
  unfold stepP openO
  rw [exK_pairs]
  kernel_rfl
theorem ex31_c : stepP exK 1 [] exKb = ([], ⟨2, [], [⟨⟨2, 0, 1⟩, []⟩, ⟨⟨0, 0, 0⟩, [0]⟩, ⟨⟨0, 0, 0⟩, [1]⟩], []⟩) := by
  unfold stepP openO
  rw [exK_pairs]
  kernel_rfl
theorem ex31_d : rightP exK 1 [] exKb = true := by kernel_rfl
theorem ex31_e : rightP exK 2 [] exKb = false := by kernel_rfl
theorem txnS_two31 {W : World} {K : Nat → Prop} {g : Nat} {t0 t1 : Txn} {vw0 vr0 vw1 vr1 : Value} (h : Blk W g 101 #[.int .i64 t0.sess, vw0, vr0, .int .i64 t1.sess, vw1, vr1]) (h0 : IntS W K vw0 t0.writes) (h1 : ItS W K vr0 t0.reads) (h2 : IntS W K vw1 t1.writes) (h3 : ItS W K vr1 t1.reads) (hK : K g) :
    TxnS W K (.slice (some ⟨g, 0, none⟩) 2 2) [t0, t1] :=
  slr_blk (l := [t0, t1]) [[.int .i64 t0.sess, vw0, vr0], [.int .i64 t1.sess, vw1, vr1]] h rfl (fun i cs x q1 q2 => by
    match i with
    | 0 => simp at q1 q2; subst q1 q2; exact ⟨rfl, _, _, rfl, h0, h1⟩
    | 1 => simp at q1 q2; subst q1 q2; exact ⟨rfl, _, _, rfl, h2, h3⟩
    | i + 2 => simp at q1) hK (by simp)
theorem fitM_a : FitM exKa := ⟨by decide, fun m hm => by simp [exKa] at hm; subst hm; intro n hn; simp at hn⟩
theorem fitM_b : FitM exKb := ⟨by decide, fun m hm => by simp [exKb] at hm; subst hm; intro n hn; simp [exKl] at hn; subst hn; simp⟩
theorem fitM_nil : FitM [] := ⟨by decide, fun m hm => by simp at hm⟩
theorem fitF_nil : FitF [] := ⟨by simp, fun m hm => by simp at hm⟩
theorem OwnI.any31 {w : World} {base : Nat} {v : Value} {l : List Int} (h : OwnI w base v l) : ∃ A n c, v = .slice A n c := by
  obtain ⟨A, c, e⟩ := OwnI.form h
  exact ⟨A, _, c, e⟩
theorem StepOut.v {w w' : World} {r : List Mk × Say} {e : Ending} (h : StepOut w r e w') : ∃ Ap cp Ao no co At ct Af nf cf, e = .returned (.tuple #[.slice Ap r.1.length cp, .agg #[.int .i64 r.2.said, .slice Ao no co, .slice At r.2.tree.length ct, .slice Af nf cf]]) ∧ MkO w' 0 (.slice Ap r.1.length cp) r.1 ∧ Below w.heap.size w w' := by
  obtain ⟨vp, vo, rfl, oM, ⟨so, st, sf, rfl, s1, s2, s3⟩, hb⟩ := h
  obtain ⟨Ao, no, co, rfl⟩ := OwnI.any31 s1
  obtain ⟨At, ct, rfl⟩ := OwnR.form s2
  obtain ⟨Af, cf, rfl⟩ := OwnR.form s3
  obtain ⟨Ap, cp, rfl⟩ := OwnR.form oM
  exact ⟨Ap, cp, Ao, no, co, At, ct, Af, _, cf, rfl, MkO.base oM (Nat.zero_le _), hb⟩
def OutB31 (W : World) (g : Nat) (sd : Int) (nt : Nat) : Prop := ∃ v1 v2 v3 v4, Blk W g 35 #[.int .i64 sd, v1, .slice v2 nt v3, v4]
theorem OutB31.below {W W' : World} {g : Nat} {sd : Int} {nt : Nat} (h : OutB31 W g sd nt) (hb : Below W.heap.size W W') : OutB31 W' g sd nt := by
  obtain ⟨v1, v2, v3, v4, h⟩ := h
  exact ⟨v1, v2, v3, v4, h.below hb h.lt⟩
set_option maxRecDepth 100000 in
theorem awake31_any (w : World) (hTB : TabB w) : Calls Tryz.prog 41 #[] w fun e w' => e = .returned (.bool true) ∧ Below w.heap.size w w' := by
  have hE1 := hide ex31_a
  have hE2 := hide ex31_b
  have hE3 := hide ex31_c
  have hE4 := hide ex31_d
  have hE5 := hide ex31_e
  obtain ⟨W1, hW1⟩ : ∃ W1, w.alloc (.cells #[.int .i64 2, .int .i64 (-1)] 112) = W1 := ⟨_, rfl⟩
  obtain ⟨W2, hW2⟩ : ∃ W2, W1.alloc (.cells #[.int .i64 2] 3) = W2 := ⟨_, rfl⟩
  obtain ⟨W3, hW3⟩ : ∃ W3, W2.alloc (.cells #[.int .i64 2] 3) = W3 := ⟨_, rfl⟩
  obtain ⟨W4, hW4⟩ : ∃ W4, W3.alloc (.cells #[.int .i64 0, .slice (some ⟨W1.heap.size, 0, none⟩) 1 1, .slice (some ⟨w.heap.size, 0, none⟩) 1 1, .int .i64 1, .slice (some ⟨W2.heap.size, 0, none⟩) 1 1, .slice (some ⟨w.heap.size, 0, none⟩) 1 1] 101) = W4 := ⟨_, rfl⟩
  obtain ⟨W5, hW5⟩ : ∃ W5, W4.alloc (.cells #[.slice (some ⟨W3.heap.size, 0, none⟩) 2 2] 24) = W5 := ⟨_, rfl⟩
  have s1 := size_allocEq hW1
  have s2 := size_allocEq hW2
  have s3 := size_allocEq hW3
  have s4 := size_allocEq hW4
  have k1 := ((((Blk.newEq hW1).allocEq hW2).allocEq hW3).allocEq hW4).allocEq hW5
  have k2 := (((Blk.newEq hW2).allocEq hW3).allocEq hW4).allocEq hW5
  have k3 := ((Blk.newEq hW3).allocEq hW4).allocEq hW5
  have k4 := (Blk.newEq hW4).allocEq hW5
  have k6 := Blk.newEq hW5
  have b6 := below_allocEq (below_allocEq (below_allocEq (below_allocEq (below_allocEq (Below.refl w.heap.size w) hW1 (Nat.le_refl _)) hW2 (by omega)) hW3 (by omega)) hW4 (by omega)) hW5 (by omega)
  have hT : TxnS W5 (Old W5) (.slice (some ⟨W3.heap.size, 0, none⟩) 2 2) exK :=
    txnS_two31 (t0 := ⟨0, [2], [⟨2, -1⟩]⟩) (t1 := ⟨1, [2], [⟨2, -1⟩]⟩) k4 (IntS.of_blk (l := [2]) k2 k2.lt) (SlR.one k1 rfl rfl k1.lt) (IntS.of_blk (l := [2]) k3 k3.lt) (SlR.one k1 rfl rfl k1.lt) k4.lt
  replace hT := hide hT
  clear k1 k2 k3 k4 s1 s2 s3 s4
  go_enter Tryz.func41, Tryz.ntmps41
  go_upto_region 3 with fail
  clear hW1 hW2 hW3 hW4 hW5
  have hc := step31_any (some ⟨W3.heap.size, 0, none⟩) 2 exK 1 none 0 [] none 0 [] W5 hT.out ⟨by decide, by decide⟩ (FctS.nil _ _ _ _) fitF_nil (MkS.nil _ _ _ _) fitM_nil (hTB.below b6)
  rw [hE1.out] at hc
  replace hc := hide hc
  have c0 := Blk.n0 k6
  clear hE1
  go_wp2_with fail
  refine Calls.mono (by exact hc.out) ?_
  clear hc c0
  rintro e Z ho
  obtain ⟨Apa, cpa, Ao, no, co, At, ct, Af, nf, cf, rfl, oMa, b4⟩ := ho.v
  clear ho
  dsimp only [exKa, exKb, List.length_cons, List.length_nil, Nat.zero_add, Nat.reduceAdd] at oMa ⊢
  replace oMa := hide oMa
  go_upto_region 4 with fail
  obtain ⟨X, hX⟩ : ∃ X, Z.alloc (.cells #[.int .i64 0, .slice Ao no co, .slice At 0 ct, .slice Af nf cf] 35) = X := ⟨_, rfl⟩
  rw [hX]
  have hbX := hide (b4.trans ((below_allocEq (Below.refl Z.heap.size Z) hX (Nat.le_refl _)).mono b4.size))
  replace oMa := hide (MkO.below oMa.out (below_allocEq (Below.refl Z.heap.size Z) hX (Nat.le_refl _)))
  have kOa : OutB31 X Z.heap.size 0 0 := ⟨_, _, _, _, Blk.newEq hX⟩
  replace kOa := hide kOa
  clear hX b4
  generalize Z.heap.size = z1 at *
  clear Z
  replace k6 := k6.below hbX.out k6.lt
  replace hT := hide (hT.out.below hbX.out)
  replace b6 := b6.trans (hbX.out.mono b6.size)
  clear hbX
  generalize W4.heap.size = gh at *
  generalize W3.heap.size = gt at *
  have hc := step31_any (some ⟨gt, 0, none⟩) 2 exK 1 none 0 [] Apa cpa exKa X hT.out ⟨by decide, by decide⟩ (FctS.nil _ _ _ _) fitF_nil (MkO.s oMa.out) fitM_a (hTB.below b6)
  rw [hE2.out] at hc
  replace hc := hide hc
  have c0 := Blk.n0 k6
  clear hE2
  go_wp2_with fail
  refine Calls.mono (by exact hc.out) ?_
  clear hc c0
  rintro e Z ho
  obtain ⟨Apb, cpb, Ao, no, co, At, ct, Af, nf, cf, rfl, oMb, b4⟩ := ho.v
  clear ho
  dsimp only [exKa, exKb, List.length_cons, List.length_nil, Nat.zero_add, Nat.reduceAdd] at oMb ⊢
  replace oMb := hide oMb
  go_upto_region 5 with fail
  obtain ⟨Y, hX⟩ : ∃ Y, Z.alloc (.cells #[.int .i64 0, .slice Ao no co, .slice At 0 ct, .slice Af nf cf] 35) = Y := ⟨_, rfl⟩
  rw [hX]
  have hbX := hide (b4.trans ((below_allocEq (Below.refl Z.heap.size Z) hX (Nat.le_refl _)).mono b4.size))
  replace oMb := hide (MkO.below oMb.out (below_allocEq (Below.refl Z.heap.size Z) hX (Nat.le_refl _)))
  have kOb : OutB31 Y Z.heap.size 0 0 := ⟨_, _, _, _, Blk.newEq hX⟩
  replace kOb := hide kOb
  clear hX b4
  generalize Z.heap.size = z2 at *
  clear Z
  replace k6 := k6.below hbX.out k6.lt
  replace hT := hide (hT.out.below hbX.out)
  replace oMa := hide (oMa.out.below hbX.out)
  replace kOa := hide (kOa.out.below hbX.out)
  replace b6 := b6.trans (hbX.out.mono b6.size)
  clear hbX
  have hc := step31_any (some ⟨gt, 0, none⟩) 2 exK 1 none 0 [] Apb cpb exKb Y hT.out ⟨by decide, by decide⟩ (FctS.nil _ _ _ _) fitF_nil (MkO.s oMb.out) fitM_b (hTB.below b6)
  rw [hE3.out] at hc
  replace hc := hide hc
  have c0 := Blk.n0 k6
  clear hE3
  go_wp2_with fail
  refine Calls.mono (by exact hc.out) ?_
  clear hc c0
  rintro e Z ho
  obtain ⟨Apc, cpc, Ao, no, co, At, ct, Af, nf, cf, rfl, oMc, b4⟩ := ho.v
  clear ho
  dsimp only [exKa, exKb, List.length_cons, List.length_nil, Nat.zero_add, Nat.reduceAdd] at oMc ⊢
  replace oMc := hide oMc
  go_upto_region 6 with fail
  obtain ⟨V, hX⟩ : ∃ V, Z.alloc (.cells #[.int .i64 2, .slice Ao no co, .slice At 3 ct, .slice Af nf cf] 35) = V := ⟨_, rfl⟩
  rw [hX]
  have hbX := hide (b4.trans ((below_allocEq (Below.refl Z.heap.size Z) hX (Nat.le_refl _)).mono b4.size))
  replace oMc := hide (MkO.below oMc.out (below_allocEq (Below.refl Z.heap.size Z) hX (Nat.le_refl _)))
  have kOc : OutB31 V Z.heap.size 2 3 := ⟨_, _, _, _, Blk.newEq hX⟩
  replace kOc := hide kOc
  clear hX b4
  generalize Z.heap.size = z3 at *
  clear Z
  replace k6 := k6.below hbX.out k6.lt
  replace hT := hide (hT.out.below hbX.out)
  replace oMa := oMa.out.below hbX.out
  replace oMb := oMb.out.below hbX.out
  replace kOa := kOa.out.below hbX.out
  replace kOb := kOb.out.below hbX.out
  replace kOc := kOc.out
  replace b6 := b6.trans (hbX.out.mono b6.size)
  have hr1 := right31_any (some ⟨gt, 0, none⟩) 2 exK 1 none 0 [] Apb cpb exKb V hT.out ⟨by decide, by decide⟩ (FctS.nil _ _ _ _) fitF_nil oMb.s fitM_b
  have hr2 := hide (fun W (hb : Below V.heap.size V W) => right31_any (some ⟨gt, 0, none⟩) 2 exK 2 none 0 [] Apb cpb exKb W (hT.out.below hb) ⟨by decide, by decide⟩ (FctS.nil _ _ _ _) fitF_nil (oMb.s.below hb) fitM_b)
  rw [hE4.out] at hr1
  rw [hE5.out] at hr2
  replace hr1 := hide hr1
  obtain ⟨a1, a2, a3, a4, ka⟩ := kOa
  obtain ⟨b1, b2, b3, b4, kb⟩ := kOb
  obtain ⟨c1, c2, c3, c4, kc⟩ := kOc
  obtain ⟨bb, off, Ad, cd, e, -, d⟩ := MkS.at_ (l := exKa) oMa.s (i := 0) (by decide)
  cases e
  obtain ⟨bb2, off2, Ad2, cd2, e, -, d2⟩ := MkS.at_ (l := exKb) oMb.s (i := 0) (by decide)
  cases e
  have x3 := d.d3
  have y3 := d2.d3
  have y4 := d2.d4
  have u0 := ka.cell 0
  have u1 := kb.cell 0
  have u2 := kc.cell 0
  have u3 := kc.cell 2
  have c0 := k6.cell 0
  simp only [exKa, exKb, exKl, gA, gZ, gS, List.getElem_cons_zero, Nat.zero_mul, Nat.add_zero, Nat.zero_add, List.length_cons, List.length_nil] at x3 y3 y4 u0 u1 u2 u3 c0
  clear hbX hTB hT oMa oMb oMc ka kb kc d d2 hE4 hE5
  go_wp2_with fail
  refine Calls.mono (by exact hr1.out) ?_
  rintro e V1 ⟨rfl, hb1⟩
  replace k6 := k6.below hb1 k6.lt
  have hr3 := hide (hr2.out V1 hb1)
  replace b6 := b6.trans (hb1.mono b6.size)
  clear hr2 hr1 hb1 c0 x3 y3 y4 u0 u1 u2 u3
  have c0 := Blk.n0 k6
  go_wp2_with fail
  refine Calls.mono (by exact hr3.out) ?_
  rintro e V2 ⟨rfl, hb2⟩
  go_wp2
  go_ret
  exact ⟨rfl, b6.trans (hb2.mono b6.size)⟩
end Go.Proofs.YtjomijnbnbideaaGreatDoor

namespace Go.Proofs.YtjomijnbnbideaaGreatDoor
open Go.RowKit Go.Inq
set_option maxHeartbeats 2000000
attribute [local go_sem ↓] Go.wp_at_zero Go.wp_at_succ

def fewN (N : Nat) (l : List Txn) : Bool := decide (l.length ≤ N) && l.all fun t => decide (t.writes.length ≤ 20) && decide (t.reads.length ≤ 20)
theorem fewN_small {N : Nat} (hN : N ≤ 40) {l : List Txn} (h : fewN N l = true) : SmallH l := by
  unfold fewN at h
  rw [Bool.and_eq_true, List.all_eq_true] at h
  have h1 : l.length ≤ N := by simpa using h.1
  refine ⟨by omega, fun t ht => ?_⟩
  have := h.2 t ht
  simp at this
  omega
theorem fewN_bad {N : Nat} {l : List Txn} {i : Nat} (hi : i < l.length) (h : 20 < l[i].writes.length ∨ 20 < l[i].reads.length) : fewN N l = false := by
  rw [← Bool.not_eq_true]
  intro g
  unfold fewN at g
  rw [Bool.and_eq_true, List.all_eq_true] at g
  have := g.2 _ (List.getElem_mem hi)
  simp at this
  omega
theorem fewN_many {N : Nat} {l : List Txn} (h : N < l.length) : fewN N l = false := by
  unfold fewN; rw [show decide (l.length ≤ N) = false by simpa using h]; rfl
theorem fewN_good {N : Nat} {l : List Txn} (h : l.length ≤ N) (hall : ∀ i (hi : i < l.length), l[i].writes.length ≤ 20 ∧ l[i].reads.length ≤ 20) : fewN N l = true := by
  unfold fewN
  rw [Bool.and_eq_true, List.all_eq_true]
  refine ⟨by simpa using h, fun t ht => ?_⟩
  obtain ⟨i, hi, rfl⟩ := List.getElem_of_mem ht
  have := hall i hi
  simp
  omega
set_option maxRecDepth 100000 in
theorem few8n_any (N : Nat) (A : Option Addr) (c : Nat) (H : List Txn) (w : World) (h : TxnS w (Old w) (.slice A H.length c) H) (hn : H.length ≤ maxLen) (hns : ∀ t ∈ H, t.writes.length ≤ maxLen ∧ t.reads.length ≤ maxLen) :
    Calls Tryz.prog 21 #[.agg #[.slice A H.length c], .int .i64 (N : Int)] w fun e w' => e = .returned (.bool (fewN N H)) ∧ Below w.heap.size w w' := by
  unfold maxLen at hn hns
  have hA : Below w.heap.size w (w.alloc (.cells #[.slice A H.length c] 24)) := (Below.refl _ _).alloc (Nat.le_refl _) _
  have kh : Blk (w.alloc (.cells #[.slice A H.length c] 24)) w.heap.size 24 #[.slice A H.length c] := Blk.new _ _ _
  have h1 := TxnS.below h hA
  have y0 := Blk.n0 kh
  have hl1 : (0 : Int) ≤ (H.length : Int) := Int.natCast_nonneg _
  replace hns := hide hns
  by_cases hm : N < H.length
  · have hr := hide (fewN_many hm)
    have hmb : decide ((H.length : Int) > (N : Int)) = true := by simp; omega
    have hmb2 : decide (N < H.length) = true := by simp; omega
    clear hm
    go_enter Tryz.func21, Tryz.ntmps21
    go_wp2
    go_ret
    exact ⟨by rw [hr.out]; rfl, hA⟩
  · have hmb : decide ((H.length : Int) > (N : Int)) = false := by simp; omega
    have hmb2 : decide (N < H.length) = false := by simp; omega
    have hbad := hide (fun i => fewN_bad (N := N) (l := H) (i := i))
    have hgood := hide (fewN_good (N := N) (l := H) (by omega))
    go_enter Tryz.func21, Tryz.ntmps21
    go_wp2_with fail
    generalize w.alloc (.cells #[.slice A H.length c] 24) = W at *
    go_loop [5] (fun s5 => ∃ i : Nat, i ≤ H.length ∧ s5 = .int .i64 i ∧ Hid (∀ j (hj : j < H.length), j < i → H[j].writes.length ≤ 20 ∧ H[j].reads.length ≤ 20)) (fun s5 => H.length - (intOf s5).toNat)
    case atStart => exact ⟨0, Nat.zero_le _, by go_num, fun j hj h => absurd h (by omega)⟩
    case round =>
      obtain ⟨i, hi, rfl, hall⟩ := hrel
      have hi1 : (0 : Int) ≤ (i : Int) := Int.natCast_nonneg _
      by_cases hlt : i < H.length
      · have hi2 : (i : Int) < (H.length : Int) := by omega
        obtain ⟨b, off, Aw, cw, Ar, cr, rfl, hbK, d0, d1, d2, hws, hrs⟩ := TxnS.at_ h1 hlt
        have hb := hide (hbad.out i hlt)
        have hsm := hns.out _ (List.getElem_mem hlt)
        have hst : Hid (H[i].writes.length ≤ 20 ∧ H[i].reads.length ≤ 20 → ∀ j (hj : j < H.length), j < i + 1 → H[j].writes.length ≤ 20 ∧ H[j].reads.length ≤ 20) := fun g j hj hji => by
          by_cases e : j = i
          · subst e; exact g
          · exact hall.out j hj (by omega)
        clear hall hws hrs
        generalize H[i] = t at *
        obtain ⟨ts, ws, rs⟩ := t
        dsimp only at *
        by_cases g1 : 20 < ws.length
        · have g1b : decide ((ws.length : Int) > 20) = true := by simp; omega
          have hr := hide (hb.out (.inl g1))
          clear g1 hb hst
          go_wp2
          go_ret
          exact ⟨by rw [hr.out]; rfl, hA⟩
        · have g1b : decide ((ws.length : Int) > 20) = false := by simp; omega
          by_cases g2 : 20 < rs.length
          · have g2b : decide ((rs.length : Int) > 20) = true := by simp; omega
            have hr := hide (hb.out (.inr g2))
            clear g2 hb hst
            go_wp2
            go_ret
            exact ⟨by rw [hr.out]; rfl, hA⟩
          · have g2b : decide ((rs.length : Int) > 20) = false := by simp; omega
            have hr := hide (hst.out ⟨by omega, by omega⟩)
            clear hb hst
            go_wp2
            go_round
            case rel => exact ⟨i + 1, by omega, by go_num, hr⟩
            case measure => simp [intOf]; omega
      · have hr := hide (hgood.out fun j hj => hall.out j hj (by omega))
        go_wp2
        go_ret
        exact ⟨by rw [hr.out]; rfl, hA⟩
end Go.Proofs.YtjomijnbnbideaaGreatDoor

namespace Go.Proofs.YtjomijnbnbideaaGreatDoor
open Go.RowKit Go.Inq
set_option maxHeartbeats 1000000
attribute [local go_sem ↓] Go.wp_at_zero Go.wp_at_succ

def few31B (H : List Txn) (L : List Fct) (path : List Mk) (n : Nat) : Bool := fewN n H && decide (L.length ≤ 20) && decide (path.length ≤ 20) && (L.all fun f => decide (f.cyc.length ≤ 40)) && path.all fun m => decide (m.done.length ≤ 80) && m.done.all fun x => decide (x.cyc.length ≤ 40)
structure Few31 (H : List Txn) (L : List Fct) (path : List Mk) (n : Nat) : Prop where
  hist : fewN n H = true
  facts : L.length ≤ 20
  len : path.length ≤ 20
  fcyc : ∀ f ∈ L, f.cyc.length ≤ 40
  done : ∀ m ∈ path, m.done.length ≤ 80
  ncyc : ∀ m ∈ path, ∀ x ∈ m.done, x.cyc.length ≤ 40
theorem few31_iff {H : List Txn} {L : List Fct} {path : List Mk} {n : Nat} : few31B H L path n = true ↔ Few31 H L path n := by
  unfold few31B
  simp only [Bool.and_eq_true, List.all_eq_true, decide_eq_true_eq]
  exact ⟨fun h => ⟨h.1.1.1.1, h.1.1.1.2, h.1.1.2, h.1.2, fun m hm => (h.2 m hm).1, fun m hm => (h.2 m hm).2⟩, fun h => ⟨⟨⟨⟨h.hist, h.facts⟩, h.len⟩, h.fcyc⟩, fun m hm => ⟨h.done m hm, h.ncyc m hm⟩⟩⟩
theorem few31_no {H : List Txn} {L : List Fct} {path : List Mk} {n : Nat} (h : ¬ Few31 H L path n) : few31B H L path n = false := by
  rw [← Bool.not_eq_true, few31_iff]; exact h
set_option maxRecDepth 100000 in
theorem few31_any (A : Option Addr) (c : Nat) (H : List Txn) (level : Int) (Al : Option Addr) (cl : Nat) (L : List Fct) (Ap : Option Addr) (cp : Nat) (path : List Mk) (n : Nat) (w : World) (h : TxnS w (Old w) (.slice A H.length c) H) (hn : H.length ≤ maxLen) (hns : ∀ t ∈ H, t.writes.length ≤ maxLen ∧ t.reads.length ≤ maxLen) (hL : FctS w (Old w) (.slice Al L.length cl) L) (hL1 : L.length ≤ maxLen)
    (hP : MkS w (Old w) (.slice Ap path.length cp) path) (hP1 : path.length ≤ maxLen) :
    Calls Tryz.prog 42 #[.agg #[.slice A H.length c, .int .i64 level, .slice Al L.length cl, .slice Ap path.length cp], .int .i64 (n : Int)] w fun e w' => e = .returned (.bool (few31B H L path n)) ∧ Below w.heap.size w w' := by
  obtain ⟨W0, hW0⟩ : ∃ W0, w.alloc (.cells #[.slice A H.length c, .int .i64 level, .slice Al L.length cl, .slice Ap path.length cp] 82) = W0 := ⟨_, rfl⟩
  have hB := below_allocEq (Below.refl w.heap.size w) hW0 (Nat.le_refl _)
  have k0 := Blk.newEq hW0
  have hfe := hide (few8n_any n A c H W0 (h.below hB) hn hns)
  have hLs := hide (fun W (hb : Below w.heap.size w W) => hL.below hb)
  have hPs := hide (fun W (hb : Below w.heap.size w W) => hP.below hb)
  unfold maxLen at hL1 hP1
  have hno := hide (few31_no (H := H) (L := L) (path := path) (n := n))
  have hyes := hide (few31_iff (H := H) (L := L) (path := path) (n := n)).2
  obtain ⟨r, hr⟩ : ∃ r, few31B H L path n = r := ⟨_, rfl⟩
  rw [hr] at hno hyes
  rw [hr]
  obtain ⟨q, hq⟩ : ∃ q, fewN n H = q := ⟨_, rfl⟩
  rw [hq] at hfe
  replace hq := hide hq
  have c0 := Blk.n0 k0
  clear h hr hL hP hns hn
  go_enter Tryz.func42, Tryz.ntmps42
  go_wp2_with fail
  clear hW0
  refine hfe.out.mono ?_
  rintro e w1 ⟨rfl, hb1⟩
  have hB1 := hB.trans (hb1.mono hB.size)
  replace k0 := k0.below hb1 k0.lt
  clear hfe hb1 hB c0
  have c2 := Blk.n2 k0
  have c3 := Blk.n3 k0
  have hL2 := hLs.out w1 hB1
  have hP2 := hPs.out w1 hB1
  clear hLs hPs k0
  cases q with
  | false =>
    obtain rfl := hno.out fun g => by have := g.hist; rw [hq.out] at this; cases this
    clear hno hyes hq hL2 hP2
    go_wp2
    go_ret
    exact ⟨rfl, hB1⟩
  | true =>
    by_cases hl : L.length ≤ 20
    · have g1 : decide ((L.length : Int) > 20) = false := decide_eq_false (by omega)
      have g2 : decide (20 < L.length) = false := decide_eq_false (by omega)
      have g3 : decide (20 < (L.length : Int)) = false := decide_eq_false (by omega)
      by_cases hp : path.length ≤ 20
      · have g4 : decide ((path.length : Int) > 20) = false := decide_eq_false (by omega)
        have g5 : decide (20 < path.length) = false := decide_eq_false (by omega)
        have g6 : decide (20 < (path.length : Int)) = false := decide_eq_false (by omega)
        go_wp2_with fail
        go_loopw [6] (fun s6 wr => wr = w1 ∧ ∃ k : Nat, k ≤ L.length ∧ s6 = .int .i64 (k : Int) ∧ Hid (∀ j (hj : j < L.length), j < k → L[j].cyc.length ≤ 40)) (fun s6 _ => L.length - (intOf s6).toNat)
        case atStart => exact ⟨rfl, 0, Nat.zero_le _, by go_num, hide (fun j hj h => absurd h (Nat.not_lt_zero _))⟩
        case round =>
          obtain ⟨hw, k, hk, rfl, hall⟩ := hrel
          obtain rfl : w1 = wr := hw.symm
          have hk1 : (0 : Int) ≤ (k : Int) := Int.natCast_nonneg _
          by_cases hlt : k < L.length
          · have hk2 : (k : Int) < (L.length : Int) := by omega
            obtain ⟨b, off, Ay, cy, rfl, -, d⟩ := hL2.at_ hlt
            have d6 := d.d6
            obtain ⟨X, hX⟩ : ∃ X, L[k].cyc.length = X := ⟨_, rfl⟩
            rw [hX] at d6
            replace hX := hide hX
            clear d hP2 hL2
            by_cases hx : X ≤ 40
            · have g7 : decide ((X : Int) > 40) = false := decide_eq_false (by omega)
              have g8 : decide (40 < X) = false := decide_eq_false (by omega)
              have hall2 : Hid (∀ j (hj : j < L.length), j < k + 1 → L[j].cyc.length ≤ 40) := hide fun j hj hjk => by
                by_cases e : j = k
                · subst e; rw [hX.out]; exact hx
                · exact hall.out j hj (by omega)
              clear hall hno hyes
              go_wp2
              go_roundw
              case rel => exact ⟨by trivial, k + 1, by omega, by go_num, hall2⟩
              case measure => simp [intOf]; omega
            · have g7 : decide ((X : Int) > 40) = true := decide_eq_true (by omega)
              have g8 : decide (40 < X) = true := decide_eq_true (by omega)
              obtain rfl := hno.out fun g => by have := g.fcyc L[k] (List.getElem_mem hlt); rw [hX.out] at this; omega
              clear hall hno hyes hx
              go_wp2
              go_ret
              exact ⟨rfl, hB1⟩
          · obtain rfl : k = L.length := by omega
            go_wp2_with fail
            go_loopw [7, 8] (fun s7 _ wr => wr = w1 ∧ ∃ k : Nat, k ≤ path.length ∧ s7 = .int .i64 (k : Int) ∧ Hid (∀ j (hj : j < path.length), j < k → path[j].done.length ≤ 80 ∧ ∀ x ∈ path[j].done, x.cyc.length ≤ 40)) (fun s7 _ _ => path.length - (intOf s7).toNat)
            case atStart => exact ⟨rfl, 0, Nat.zero_le _, by go_num, hide (fun j hj h => absurd h (Nat.not_lt_zero _))⟩
            case round =>
              obtain ⟨hw, k, hk2, rfl, hpa⟩ := hrel
              obtain rfl : w1 = wr := hw.symm
              have hk1 : (0 : Int) ≤ (k : Int) := Int.natCast_nonneg _
              by_cases hlt : k < path.length
              · have hk3 : (k : Int) < (path.length : Int) := by omega
                obtain ⟨b, off, Ad, cd, rfl, -, d⟩ := hP2.at_ hlt
                have d4 := d.d4
                have hD := d.done
                obtain ⟨X, hX⟩ : ∃ X, path[k] = X := ⟨_, rfl⟩
                rw [hX] at d4 hD
                replace hX := hide hX
                have hin : Hid (X ∈ path) := hide (by rw [← hX.out]; exact List.getElem_mem hlt)
                obtain ⟨Xc, Xr, Xd⟩ := X
                dsimp only at d4 hD
                clear d hP2 hL2
                by_cases hx : Xd.length ≤ 80
                · have g7 : decide ((Xd.length : Int) > 80) = false := decide_eq_false (by omega)
                  have g8 : decide (80 < Xd.length) = false := decide_eq_false (by omega)
                  replace hD := hide hD
                  go_wp2_with fail
                  go_loopw [8] (fun s8 wr => wr = w1 ∧ ∃ j : Nat, j ≤ Xd.length ∧ s8 = .int .i64 (j : Int) ∧ Hid (∀ i (hi : i < Xd.length), i < j → Xd[i].cyc.length ≤ 40)) (fun s8 _ => Xd.length - (intOf s8).toNat)
                  case atStart => exact ⟨rfl, 0, Nat.zero_le _, by go_num, hide (fun j hj h => absurd h (Nat.not_lt_zero _))⟩
                  case round =>
                    obtain ⟨hw, j, hj, rfl, hno2⟩ := hrel
                    obtain rfl : w1 = wr := hw.symm
                    have hj1 : (0 : Int) ≤ (j : Int) := Int.natCast_nonneg _
                    by_cases hjl : j < Xd.length
                    · have hj3 : (j : Int) < (Xd.length : Int) := by omega
                      obtain ⟨b2, off2, Ay, cy, rfl, -, dd⟩ := NodS.at_ hD.out hjl
                      have e3 := dd.d3
                      obtain ⟨Y, hY⟩ : ∃ Y, Xd[j].cyc.length = Y := ⟨_, rfl⟩
                      rw [hY] at e3
                      replace hY := hide hY
                      clear dd hD
                      by_cases hy : Y ≤ 40
                      · have g9 : decide ((Y : Int) > 40) = false := decide_eq_false (by omega)
                        have g10 : decide (40 < Y) = false := decide_eq_false (by omega)
                        have hall2 : Hid (∀ i (hi : i < Xd.length), i < j + 1 → Xd[i].cyc.length ≤ 40) := hide fun i hi hij => by
                          by_cases e : i = j
                          · subst e; rw [hY.out]; exact hy
                          · exact hno2.out i hi (by omega)
                        clear hno2 hno hyes hall hpa
                        go_wp2
                        go_roundw
                        case rel => exact ⟨by trivial, j + 1, by omega, by go_num, hall2⟩
                        case measure => simp [intOf]; omega
                      · have g9 : decide ((Y : Int) > 40) = true := decide_eq_true (by omega)
                        have g10 : decide (40 < Y) = true := decide_eq_true (by omega)
                        obtain rfl := hno.out fun g => by have := g.ncyc _ hin.out Xd[j] (List.getElem_mem hjl); rw [hY.out] at this; omega
                        clear hno2 hno hyes hall hpa hy
                        go_wp2
                        go_ret
                        exact ⟨rfl, hB1⟩
                    · obtain rfl : j = Xd.length := by omega
                      have hall2 : Hid (∀ j (hj : j < path.length), j < k + 1 → path[j].done.length ≤ 80 ∧ ∀ x ∈ path[j].done, x.cyc.length ≤ 40) := hide fun i hi hik => by
                        by_cases e : i = k
                        · subst e
                          rw [hX.out]
                          refine ⟨hx, fun x hx2 => ?_⟩
                          obtain ⟨i2, hi2, rfl⟩ := List.getElem_of_mem hx2
                          exact hno2.out i2 hi2 hi2
                        · exact hpa.out i hi (by omega)
                      clear hno hyes hall hpa hno2 hD
                      go_wp2
                      go_roundw
                      case rel => exact ⟨by trivial, k + 1, by omega, by go_num, hall2⟩
                      case measure => simp [intOf]; omega
                · have g7 : decide ((Xd.length : Int) > 80) = true := decide_eq_true (by omega)
                  have g8 : decide (80 < Xd.length) = true := decide_eq_true (by omega)
                  obtain rfl := hno.out fun g => hx (g.done _ hin.out)
                  clear hno hyes hall hpa hx hD
                  go_wp2
                  go_ret
                  exact ⟨rfl, hB1⟩
              · obtain rfl : k = path.length := by omega
                obtain rfl := hyes.out ⟨hq.out, hl, hp, fun f hf => by
                  obtain ⟨i, hi, rfl⟩ := List.getElem_of_mem hf
                  exact hall.out i hi hi, fun m hm => by
                  obtain ⟨i, hi, rfl⟩ := List.getElem_of_mem hm
                  exact (hpa.out i hi hi).1, fun m hm => by
                  obtain ⟨i, hi, rfl⟩ := List.getElem_of_mem hm
                  exact (hpa.out i hi hi).2⟩
                clear hno hyes hall hpa hL2 hP2
                go_wp2
                go_ret
                exact ⟨rfl, hB1⟩
      · have g4 : decide ((path.length : Int) > 20) = true := decide_eq_true (by omega)
        have g5 : decide (20 < path.length) = true := decide_eq_true (by omega)
        obtain rfl := hno.out fun g => hp g.len
        clear hno hyes hq hL2 hP2 hp
        go_wp2
        go_ret
        exact ⟨rfl, hB1⟩
    · have g1 : decide ((L.length : Int) > 20) = true := decide_eq_true (by omega)
      have g2 : decide (20 < L.length) = true := decide_eq_true (by omega)
      obtain rfl := hno.out fun g => hl g.facts
      clear hno hyes hq hL2 hP2 hl
      go_wp2
      go_ret
      exact ⟨rfl, hB1⟩
end Go.Proofs.YtjomijnbnbideaaGreatDoor

namespace Go.Proofs.YtjomijnbnbideaaGreatDoor
open Go.ChangeShapes Go.WideShapes Go.ChangeAt Go.RowKit Go.Inq

theorem own : ownKnob Tryz.prog.godebug = none := by kernel_rfl
theorem laidOut : laidOutB Tryz.prog = true := by kernel_rfl
theorem returnsInHanded_shaped_and {H : Type} {enc : TypeId × Value → H} {a : Assume} {C : Checked} {os : Os} {f : FuncId} {fn : Func} {s : ChangeSpec} {conds : List PathCond} {apart fresh handsOn again : Bool} {X : World → Array Value → Prop}
    (hX : ∀ (w w' : World) (args : Array Value), w.heap = w'.heap → X w args → X w' args)
    (own : ownKnob C.prog.godebug = none) (started : os.Started) (noInit : C.prog.inits.idxOf? f = none) (hfn : C.prog.funcs[f]? = some fn)
    (witness : ∃ (w : World) (tape : Tape) (i : Input), w.os = os ∧ (w.forCall tape i).Shaped C.prog ∧ i.vars = [] ∧ Input.okWide C.prog (w.forCall tape i) .any w.heap.size f i ∧
      ((s.pre enc C.prog fn conds apart (w.forCall tape i).memory i.args ∧ X (w.forCall tape i).memory i.args) ∧ sizedMet enc C.prog fn (OpenSpec.ofChange s) apart (w.forCall tape i).memory i.args) ∧ a.holds C.prog (lone (Frame.enter C.prog f i.args .normal) [] (w.forCall tape i)))
    (contract : ∀ (W : World) (base : Nat) (args : Array Value) (ds gs : List (DataW H)) (before : List MemPlace),
      (∀ (j : Nat) t v, fn.params[j]? = some t → args[j]? = some v → Value.okWide C.prog W .any base t v) →
      DataW.Whole enc C.prog fn.params.toList s.vars apart W args.toList ds gs before →
      X W args → W.ShapedOpen C.prog →
      Calls C.prog f args W fun e W' => ∃ v, e = .returned v ∧ s.post enc C.prog fn apart fresh handsOn again W args v W') :
    ReturnsInHanded a C os f .any (fun w args => (s.pre enc C.prog fn conds apart w args ∧ X w args) ∧ sizedMet enc C.prog fn (OpenSpec.ofChange s) apart w args) (s.post enc C.prog fn apart fresh handsOn again) := by
  refine returnsInHanded_of_calls own started noInit witness ?_
  intro w tape i _ hsh _ hok hpre hholds
  obtain ⟨_, _, _, fn', hfn', _, _, _, _, hval⟩ := hok
  have e : fn' = fn := Option.some.inj (hfn'.symm.trans hfn)
  subst e
  obtain ⟨⟨⟨ds, gs, before, hw, hc⟩, hx⟩, hz⟩ := hpre
  have hw' := DataW.Whole.of_heap (w' := w.forCall tape i) (by rfl) hw
  refine (contract (w.forCall tape i) w.heap.size i.args ds gs before hval hw' (hX _ _ _ (by rfl) hx) hsh).mono fun e W' ⟨v, he, hp⟩ => ?_
  subst he
  exact ChangeSpec.post_blind hp

def keptTypes (P : Program) (ts : List TypeId) : Bool := ts.all fun t => P.readableRec t && decide (t < P.types.size)
theorem Below.trodAllP {P : Program} (hl : laidOutB P = true) {H : Type} {enc : TypeId × Value → H} {W W' : World} (hb : Below W.heap.size W W') : ∀ (ts : List TypeId) (vs : List Value) (ds : List (DataW H)) (ps : List MemPlace), keptTypes P ts = true →
    DataW.TrodAll enc P W 0 (fun _ => true) true ts vs ds ps → (∀ x ∈ ps, x.block < W.heap.size) → DataW.TrodAll enc P W' 0 (fun b => decide (b < W.heap.size)) true ts vs ds ps := by
  intro ts
  induction ts with
  | nil =>
    intro vs ds ps _ h _
    cases vs with
    | cons => exact h.elim
    | nil =>
      cases ds with
      | cons => exact h.elim
      | nil => exact h
  | cons t ts ih =>
    intro vs ds ps hk h hlt
    cases vs with
    | nil => exact h.elim
    | cons v vs =>
      cases ds with
      | nil => exact h.elim
      | cons d ds =>
        obtain ⟨p, q, h1, h2, rfl⟩ := h
        unfold keptTypes at hk
        rw [List.all_cons, Bool.and_eq_true, Bool.and_eq_true] at hk
        exact ⟨p, q, Below.trod hl hk.1.1 (of_decide_eq_true hk.1.2) h1 hb (fun x hx => hlt x (List.mem_append.2 (.inl hx))), ih _ _ _ hk.2 h2 (fun x hx => hlt x (List.mem_append.2 (.inr hx))), rfl⟩
theorem Below.trodAll {H : Type} {enc : TypeId × Value → H} {W W' : World} (hb : Below W.heap.size W W') {ts : List TypeId} {vs : List Value} {ds : List (DataW H)} {ps : List MemPlace} (hk : keptTypes Tryz.prog ts = true)
    (h : DataW.TrodAll enc Tryz.prog W 0 (fun _ => true) true ts vs ds ps) (hlt : ∀ x ∈ ps, x.block < W.heap.size) : DataW.TrodAll enc Tryz.prog W' 0 (fun b => decide (b < W.heap.size)) true ts vs ds ps :=
  Below.trodAllP laidOut hb ts vs ds ps hk h hlt

theorem TabB.of {l : List (String × DataW Unit)} {W : World} (h : laidMetH Tryz.prog l W) (hp : laidMetH Tryz.prog l W = laidMet Tryz.prog l W) (hm : ("math/bits.deBruijn64tab", Rows.laid_math_bits_deBruijn64tab) ∈ l) : TabB W := by
  rw [hp] at h
  obtain ⟨g, t, cs, fuel, p, hg, ht, hv, hd⟩ := Lib.laidMet.reads h hm
  obtain rfl := Option.some.inj ((show Tryz.prog.globalNamed "math/bits.deBruijn64tab" = some 0 by kernel_rfl).symm.trans hg)
  obtain rfl := Option.some.inj ((show (Tryz.prog.globals[0]?).map (·.type) = some 261 by kernel_rfl).symm.trans ht)
  have hc := Lib.cells_of_tab (k := .u8) (zs := Lib.deBruijn64tab.map fun (x : Nat) => (x : Int)) Tryz.underlying261 Tryz.underlying5 (by kernel_rfl) (by kernel_rfl) hd
  intro j hj
  rw [World.var?_cell hg hv j]
  have h1 : cs.toList[j]? = some (.int .u8 (Lib.deBruijn64tab.getD j 0)) := by
    rw [hc, List.getElem?_map, List.getElem?_map, List.getElem?_eq_getElem hj]
    simp [List.getD_eq_getElem?_getD, List.getElem?_eq_getElem hj]
  simpa using h1
end Go.Proofs.YtjomijnbnbideaaGreatDoor

namespace Go.Proofs.YtjomijnbnbideaaGreatDoor
open Go.Joins Go.ChangeShapes Go.WideShapes Go.ChangeAt Go.RowKit Go.Deep Go.Inq
section
variable {H : Type} {enc : TypeId × Value → H} {w : World} {base : Nat} {spare : Nat → Bool} {held : Bool}

theorem open_rows {α : Type} {size : Nat} {R : World → (Nat → Prop) → List Value → α → Prop} {te ts : TypeId} (P : α → Prop) (x0 : α) (hT : Tryz.prog.underlying ts = some (.slice te)) (hC : Tryz.prog.cellsOf te = size) (hs0 : 0 < size)
    (hop : ∀ n cs x, DataW.trod enc Tryz.prog w base spare held n te cs = some x → ∃ t, R w (Old w) cs t ∧ P t)
    {n : Nat} {v : Value} {x : DataW H × List MemPlace} (h : DataW.trod enc Tryz.prog w base spare held n ts [v] = some x) :
    ∃ (A : Option Addr) (c : Nat) (l : List α), v = .slice A l.length c ∧ SlR size R w (Old w) (.slice A l.length c) l ∧ l.length ≤ maxLen ∧ ∀ t ∈ l, P t := by
  rcases open_slice hT h with ⟨h1, _⟩ | ⟨a, len, cap, m, n', D, Pl, h1, _, hl, hm, hmm, hx, hi⟩
  · injection h1 with h1
    exact ⟨none, 0, [], h1, SlR.nil _ _ _ _ _ _, Nat.zero_le _, fun t ht => by simp at ht⟩
  · injection h1 with h1
    subst h1
    rw [hC] at hi
    have hlm : len ≤ m := by rw [hmm]; split <;> omega
    have hex : ∀ i, ∃ p : α × List Value, i < len → p.2.length = size ∧ R w (Old w) p.2 p.1 ∧ P p.1 ∧ ∀ j u, p.2[j]? = some u → w.cell? (a.add (i * size + j)) = some u := fun i => by
      by_cases hil : i < len
      · obtain ⟨cs, hc, ht⟩ := hi i (by omega)
        obtain ⟨t, hR, hP⟩ := hop _ _ _ ht
        obtain ⟨_, hcl, hat⟩ := World.cells?_some hc
        refine ⟨(t, cs), fun _ => ⟨by simpa using hcl, hR, hP, fun j u hj => ?_⟩⟩
        have hj4 : j < size := by
          rcases Nat.lt_or_ge j size with h | h
          · exact h
          · rw [List.getElem?_eq_none (by dsimp only; omega)] at hj; cases hj
        rw [← Go.Deep.add_add, hat j hj4]
        exact hj
      · exact ⟨(x0, []), fun h => absurd h hil⟩
    obtain ⟨f, hf⟩ := Classical.axiomOfChoice hex
    have hlen : ((List.range len).map fun i => (f i).1).length = len := by simp
    refine ⟨some a, cap, (List.range len).map fun i => (f i).1, by rw [hlen], ⟨some a, cap, (List.range len).map fun i => (f i).2, rfl, by omega, by simp, fun i cs x h1 h2 => ?_, fun h0 => ?_⟩, by omega, fun t ht => ?_⟩
    · simp only [List.getElem?_map] at h1 h2
      cases hr : (List.range len)[i]? with
      | none => rw [hr] at h1; cases h1
      | some k =>
        rw [hr] at h1 h2
        simp at h1 h2
        subst h1 h2
        have hk : k < len := by
          rw [List.getElem?_eq_some_iff] at hr
          obtain ⟨h3, h4⟩ := hr
          simp at h3 h4
          omega
        exact ⟨(hf k hk).1, (hf k hk).2.1⟩
    · rw [hlen] at h0
      obtain ⟨g1, _, _, g4⟩ := hf 0 h0
      have hc0 := g4 0 ((f 0).2[0]'(by omega)) (List.getElem?_eq_getElem (by omega))
      obtain ⟨_, _, _, _, hs⟩ := World.shape?_of_cell? hc0
      obtain ⟨b, o, sp⟩ := a
      have hsp : sp = none := by
        cases sp with
        | none => rfl
        | some q => simp [Addr.add] at hs
      subst hsp
      have hbl : b < w.heap.size := by have := block_lt_of_cell hc0; rwa [Addr.add_lit] at this
      refine ⟨b, o, rfl, hbl, fun i j cs u h1 h2 => ?_⟩
      simp only [List.getElem?_map] at h1
      cases hr : (List.range len)[i]? with
      | none => rw [hr] at h1; cases h1
      | some k =>
        rw [hr] at h1
        simp at h1
        subst h1
        have hk : k = i ∧ i < len := by
          rw [List.getElem?_eq_some_iff] at hr
          obtain ⟨h3, h4⟩ := hr
          simp at h3 h4
          exact ⟨h4.symm, h3⟩
        have := (hf i hk.2).2.2.2 j u (by rw [← hk.1]; exact h2)
        rw [Addr.add_lit, ← Nat.add_assoc] at this
        exact this
    · obtain ⟨k, hk, rfl⟩ := List.mem_map.1 ht
      exact (hf k (by simpa using hk)).2.2.1

theorem open_num {n : Nat} {cs : List Value} {x : DataW H × List MemPlace} (h : DataW.trod enc Tryz.prog w base spare held n 3 cs = some x) : ∃ k : Int, Go.Inq.Flat Go.Inq.encI w (Old w) cs k ∧ True := by
  obtain ⟨k, e, _⟩ := DataW.trod_int Tryz.underlying3 h
  exact ⟨k, e, trivial⟩
theorem open_nums {n : Nat} {v : Value} {x : DataW H × List MemPlace} (h : DataW.trod enc Tryz.prog w base spare held n 27 [v] = some x) :
    ∃ (A : Option Addr) (c : Nat) (l : List Int), v = .slice A l.length c ∧ IntS w (Old w) (.slice A l.length c) l ∧ l.length ≤ maxLen := by
  obtain ⟨A, c, l, h1, h2, h3, _⟩ := open_rows (R := Go.Inq.Flat Go.Inq.encI) (size := 1) (fun _ => True) 0 Tryz.underlying27 (by kernel_rfl) (by decide) (fun n cs x h => open_num h) h
  exact ⟨A, c, l, h1, h2, h3⟩
theorem open_take {n : Nat} {cs : List Value} {x : DataW H × List MemPlace} (hC : Tryz.prog.cellsOf 112 = 2) (h : DataW.trod enc Tryz.prog w base spare held n 112 cs = some x) : ∃ e : It, Go.Inq.Flat It.enc w (Old w) cs e ∧ True := by
  obtain ⟨y0, y1, n', _, hl, h0, h1⟩ := trod_struct2 Tryz.underlying112 h
  rw [hC] at hl
  have h31 : Tryz.prog.cellsOf 3 = 1 := by kernel_rfl
  simp only [h31] at h0 h1
  match cs, hl with
  | [a, b], _ =>
    obtain ⟨k0, e0, _⟩ := DataW.trod_int Tryz.underlying3 h0
    obtain ⟨k1, e1, _⟩ := DataW.trod_int Tryz.underlying3 h1
    simp at e0 e1
    exact ⟨⟨k0, k1⟩, by unfold Go.Inq.Flat; simp [It.enc, e0, e1], trivial⟩
theorem open_takes {n : Nat} {v : Value} {x : DataW H × List MemPlace} (h : DataW.trod enc Tryz.prog w base spare held n 99 [v] = some x) :
    ∃ (A : Option Addr) (c : Nat) (l : List It), v = .slice A l.length c ∧ ItS w (Old w) (.slice A l.length c) l ∧ l.length ≤ maxLen := by
  obtain ⟨A, c, l, h1, h2, h3, _⟩ := open_rows (R := Go.Inq.Flat It.enc) (size := 2) (fun _ => True) ⟨0, 0⟩ Tryz.underlying99 (by kernel_rfl) (by decide) (fun n cs x h => open_take (by kernel_rfl) h) h
  exact ⟨A, c, l, h1, h2, h3⟩
theorem open_txn {n : Nat} {cs : List Value} {x : DataW H × List MemPlace} (hC : Tryz.prog.cellsOf 101 = 3) (h : DataW.trod enc Tryz.prog w base spare held n 101 cs = some x) :
    ∃ t : Txn, TxnR w (Old w) cs t ∧ t.writes.length ≤ maxLen ∧ t.reads.length ≤ maxLen := by
  obtain ⟨y0, y1, y2, n', _, hl, h0, h1, h2⟩ := trod_struct3 Tryz.underlying101 h
  rw [hC] at hl
  have e1 : Tryz.prog.cellsOf 3 = 1 := by kernel_rfl
  have e2 : Tryz.prog.cellsOf 27 = 1 := by kernel_rfl
  have e3 : Tryz.prog.cellsOf 99 = 1 := by kernel_rfl
  simp only [e1, e2, e3] at h0 h1 h2
  match cs, hl with
  | [a, b, c], _ =>
    obtain ⟨k0, e0, _⟩ := DataW.trod_int Tryz.underlying3 h0
    simp at e0
    have h1' : DataW.trod enc Tryz.prog w base spare held n' 27 [b] = some y1 := by simpa using h1
    have h2' : DataW.trod enc Tryz.prog w base spare held n' 99 [c] = some y2 := by simpa using h2
    obtain ⟨A, c', l, hv, hev, hlen⟩ := open_nums h1'
    obtain ⟨A2, c2', l2, hv2, hev2, hlen2⟩ := open_takes h2'
    exact ⟨⟨k0, l, l2⟩, ⟨b, c, by rw [e0], by rw [hv]; exact hev, by rw [hv2]; exact hev2⟩, hlen, hlen2⟩
theorem open_txns {n : Nat} {v : Value} {x : DataW H × List MemPlace} (h : DataW.trod enc Tryz.prog w base spare held n 22 [v] = some x) :
    ∃ (A : Option Addr) (c : Nat) (l : List Txn), v = .slice A l.length c ∧ TxnS w (Old w) (.slice A l.length c) l ∧ l.length ≤ maxLen ∧ ∀ t ∈ l, t.writes.length ≤ maxLen ∧ t.reads.length ≤ maxLen :=
  open_rows (R := TxnR) (size := 3) (fun t => t.writes.length ≤ maxLen ∧ t.reads.length ≤ maxLen) ⟨0, [], []⟩ Tryz.underlying22 (by kernel_rfl) (by decide) (fun n cs x h => open_txn (by kernel_rfl) h) h
theorem open_hist {n : Nat} {cs : List Value} {x : DataW H × List MemPlace} (hC : Tryz.prog.cellsOf 24 = 1) (h : DataW.trod enc Tryz.prog w base spare held n 24 cs = some x) :
    ∃ (A : Option Addr) (c : Nat) (l : List Txn), cs = [.slice A l.length c] ∧ TxnS w (Old w) (.slice A l.length c) l ∧ l.length ≤ maxLen ∧ ∀ t ∈ l, t.writes.length ≤ maxLen ∧ t.reads.length ≤ maxLen := by
  obtain ⟨y0, n', _, hl, h0⟩ := trod_struct1 Tryz.underlying24 h
  rw [hC] at hl
  have e1 : Tryz.prog.cellsOf 22 = 1 := by kernel_rfl
  simp only [e1] at h0
  match cs, hl with
  | [a], _ =>
    have h0' : DataW.trod enc Tryz.prog w base spare held n' 22 [a] = some y0 := by simpa using h0
    obtain ⟨A, c, l, hv, h1, h2, h3⟩ := open_txns h0'
    exact ⟨A, c, l, by rw [hv], h1, h2, h3⟩
end
end Go.Proofs.YtjomijnbnbideaaGreatDoor

namespace Go.Proofs.YtjomijnbnbideaaGreatDoor
open Go.Joins Go.ChangeShapes Go.WideShapes Go.ChangeAt Go.RowKit Go.Deep Go.Inq
section
variable {H : Type} {enc : TypeId × Value → H} {w : World} {base : Nat} {spare : Nat → Bool} {held : Bool}
theorem trod_struct5 {P : Program} {t : TypeId} {f0 f1 f2 f3 f4 : Field} {fuel : Nat} {cs : List Value} {x : DataW H × List MemPlace} (ht : P.underlying t = some (.struct #[f0, f1, f2, f3, f4])) (h : DataW.trod enc P w base spare held fuel t cs = some x) :
    ∃ y0 y1 y2 y3 y4 n, cs.length = P.cellsOf t ∧ DataW.trod enc P w base spare held n f0.type ((cs.drop f0.offset).take (P.cellsOf f0.type)) = some y0 ∧
      DataW.trod enc P w base spare held n f1.type ((cs.drop f1.offset).take (P.cellsOf f1.type)) = some y1 ∧ DataW.trod enc P w base spare held n f2.type ((cs.drop f2.offset).take (P.cellsOf f2.type)) = some y2 ∧
      DataW.trod enc P w base spare held n f3.type ((cs.drop f3.offset).take (P.cellsOf f3.type)) = some y3 ∧ DataW.trod enc P w base spare held n f4.type ((cs.drop f4.offset).take (P.cellsOf f4.type)) = some y4 := by
  obtain ⟨xs, n, _, rfl, hl, hlen, hf⟩ := DataW.trod_struct ht h
  match xs, hlen with
  | [y0, y1, y2, y3, y4], _ => exact ⟨y0, y1, y2, y3, y4, n, hl, by simpa using hf 0 f0 rfl, by simpa using hf 1 f1 rfl, by simpa using hf 2 f2 rfl, by simpa using hf 3 f3 rfl, by simpa using hf 4 f4 rfl⟩
theorem open_cho {n : Nat} {a b c : Value} {x : DataW H × List MemPlace} (h : DataW.trod enc Tryz.prog w base spare held n 49 [a, b, c] = some x) : ∃ d : Cho, [a, b, c] = [.int .i64 d.key, .int .i64 d.a, .int .i64 d.b] := by
  obtain ⟨y0, y1, y2, n', _, hl, h0, h1, h2⟩ := trod_struct3 Tryz.underlying49 h
  have e1 : Tryz.prog.cellsOf 3 = 1 := by kernel_rfl
  simp only [e1] at h0 h1 h2
  obtain ⟨k0, g0, _⟩ := DataW.trod_int Tryz.underlying3 h0
  obtain ⟨k1, g1, _⟩ := DataW.trod_int Tryz.underlying3 h1
  obtain ⟨k2, g2, _⟩ := DataW.trod_int Tryz.underlying3 h2
  simp at g0 g1 g2
  exact ⟨⟨k0, k1, k2⟩, by rw [g0, g1, g2]⟩
theorem open_fact {n : Nat} {cs : List Value} {x : DataW H × List MemPlace} (hC : Tryz.prog.cellsOf 51 = 7) (h : DataW.trod enc Tryz.prog w base spare held n 51 cs = some x) : ∃ f : Fct, FctR w (Old w) cs f := by
  obtain ⟨y0, y1, y2, y3, y4, n', hl, h0, h1, h2, h3, h4⟩ := trod_struct5 Tryz.underlying51 h
  rw [hC] at hl
  have e1 : Tryz.prog.cellsOf 3 = 1 := by kernel_rfl
  have e2 : Tryz.prog.cellsOf 49 = 3 := by kernel_rfl
  have e3 : Tryz.prog.cellsOf 27 = 1 := by kernel_rfl
  simp only [e1, e2, e3] at h0 h1 h2 h3 h4
  match cs, hl with
  | [a, b, c, d, e, f, g], _ =>
    obtain ⟨ch, hch⟩ := open_cho (a := a) (b := b) (c := c) (by simpa using h0)
    simp only [List.cons.injEq, and_true] at hch
    obtain ⟨k1, g1, _⟩ := DataW.trod_int Tryz.underlying3 h1
    obtain ⟨k2, g2, _⟩ := DataW.trod_int Tryz.underlying3 h2
    obtain ⟨k3, g3, _⟩ := DataW.trod_int Tryz.underlying3 h3
    simp at g1 g2 g3
    have h4' : DataW.trod enc Tryz.prog w base spare held n' 27 [g] = some y4 := by simpa using h4
    obtain ⟨A, c', l, hv, hev, _⟩ := open_nums h4'
    exact ⟨⟨ch, k1, k2, k3, l⟩, A, c', by rw [hch.1, hch.2.1, hch.2.2, g1, g2, g3, hv], hev⟩
theorem open_facts {n : Nat} {v : Value} {x : DataW H × List MemPlace} (h : DataW.trod enc Tryz.prog w base spare held n 33 [v] = some x) :
    ∃ (A : Option Addr) (c : Nat) (l : List Fct), v = .slice A l.length c ∧ FctS w (Old w) (.slice A l.length c) l ∧ l.length ≤ maxLen := by
  obtain ⟨A, c, l, h1, h2, h3, _⟩ := open_rows (R := FctR) (size := 7) (fun _ => True) ⟨⟨0, 0, 0⟩, 0, 0, 0, []⟩ Tryz.underlying33 (by kernel_rfl) (by decide) (fun n cs x h => by obtain ⟨f, hf⟩ := open_fact (by kernel_rfl) h; exact ⟨f, hf, trivial⟩) h
  exact ⟨A, c, l, h1, h2, h3⟩
end
end Go.Proofs.YtjomijnbnbideaaGreatDoor

namespace Go.Proofs.YtjomijnbnbideaaGreatDoor
open Go.Joins Go.ChangeShapes Go.WideShapes Go.ChangeAt Go.RowKit Go.Deep Go.Inq
section
variable {H : Type} {enc : TypeId × Value → H} {w : World} {base : Nat} {spare : Nat → Bool} {held : Bool}
theorem open_node {n : Nat} {cs : List Value} {x : DataW H × List MemPlace} (hC : Tryz.prog.cellsOf 114 = 4) (h : DataW.trod enc Tryz.prog w base spare held n 114 cs = some x) : ∃ f : Nod, NodR w (Old w) cs f ∧ True := by
  obtain ⟨y0, y1, n', _, hl, h0, h1⟩ := trod_struct2 Tryz.underlying114 h
  rw [hC] at hl
  have e2 : Tryz.prog.cellsOf 49 = 3 := by kernel_rfl
  have e3 : Tryz.prog.cellsOf 27 = 1 := by kernel_rfl
  simp only [e2, e3] at h0 h1
  match cs, hl with
  | [a, b, c, d], _ =>
    obtain ⟨ch, hch⟩ := open_cho (a := a) (b := b) (c := c) (by simpa using h0)
    simp only [List.cons.injEq, and_true] at hch
    have h1' : DataW.trod enc Tryz.prog w base spare held n' 27 [d] = some y1 := by simpa using h1
    obtain ⟨A, c', l, hv, hev, _⟩ := open_nums h1'
    exact ⟨⟨ch, l⟩, ⟨A, c', by rw [hch.1, hch.2.1, hch.2.2, hv], hev⟩, trivial⟩
theorem open_nodes {n : Nat} {v : Value} {x : DataW H × List MemPlace} (h : DataW.trod enc Tryz.prog w base spare held n 32 [v] = some x) :
    ∃ (A : Option Addr) (c : Nat) (l : List Nod), v = .slice A l.length c ∧ NodS w (Old w) (.slice A l.length c) l ∧ l.length ≤ maxLen := by
  obtain ⟨A, c, l, h1, h2, h3, _⟩ := open_rows (R := NodR) (size := 4) (fun _ => True) ⟨⟨0, 0, 0⟩, []⟩ Tryz.underlying32 (by kernel_rfl) (by decide) (fun n cs x h => open_node (by kernel_rfl) h) h
  exact ⟨A, c, l, h1, h2, h3⟩
theorem open_mark {n : Nat} {cs : List Value} {x : DataW H × List MemPlace} (hC : Tryz.prog.cellsOf 157 = 5) (h : DataW.trod enc Tryz.prog w base spare held n 157 cs = some x) : ∃ f : Mk, MkR w (Old w) cs f ∧ True := by
  obtain ⟨y0, y1, y2, n', _, hl, h0, h1, h2⟩ := trod_struct3 Tryz.underlying157 h
  rw [hC] at hl
  have e1 : Tryz.prog.cellsOf 4 = 1 := by kernel_rfl
  have e2 : Tryz.prog.cellsOf 49 = 3 := by kernel_rfl
  have e3 : Tryz.prog.cellsOf 32 = 1 := by kernel_rfl
  simp only [e1, e2, e3] at h0 h1 h2
  match cs, hl with
  | [a, b, c, d, e], _ =>
    obtain ⟨ch, hch⟩ := open_cho (a := a) (b := b) (c := c) (by simpa using h0)
    simp only [List.cons.injEq, and_true] at hch
    obtain ⟨k1, g1, _⟩ := DataW.trod_bool Tryz.underlying4 h1
    simp at g1
    have h2' : DataW.trod enc Tryz.prog w base spare held n' 32 [e] = some y2 := by simpa using h2
    obtain ⟨A, c', l, hv, hev, _⟩ := open_nodes h2'
    exact ⟨⟨ch, k1, l⟩, ⟨A, c', by rw [hch.1, hch.2.1, hch.2.2, g1, hv], hev⟩, trivial⟩
theorem open_marks {n : Nat} {v : Value} {x : DataW H × List MemPlace} (h : DataW.trod enc Tryz.prog w base spare held n 80 [v] = some x) :
    ∃ (A : Option Addr) (c : Nat) (l : List Mk), v = .slice A l.length c ∧ MkS w (Old w) (.slice A l.length c) l ∧ l.length ≤ maxLen := by
  obtain ⟨A, c, l, h1, h2, h3, _⟩ := open_rows (R := MkR) (size := 5) (fun _ => True) ⟨⟨0, 0, 0⟩, false, []⟩ Tryz.underlying80 (by kernel_rfl) (by decide) (fun n cs x h => open_mark (by kernel_rfl) h) h
  exact ⟨A, c, l, h1, h2, h3⟩
theorem open_case31 {n : Nat} {cs : List Value} {x : DataW H × List MemPlace} (hC : Tryz.prog.cellsOf 82 = 4) (h : DataW.trod enc Tryz.prog w base spare held n 82 cs = some x) :
    ∃ (A : Option Addr) (c : Nat) (Hs : List Txn) (level : Int) (Al : Option Addr) (cl : Nat) (L : List Fct) (Ap : Option Addr) (cp : Nat) (path : List Mk), cs = [.slice A Hs.length c, .int .i64 level, .slice Al L.length cl, .slice Ap path.length cp] ∧
      TxnS w (Old w) (.slice A Hs.length c) Hs ∧ Hs.length ≤ maxLen ∧ (∀ t ∈ Hs, t.writes.length ≤ maxLen ∧ t.reads.length ≤ maxLen) ∧ FctS w (Old w) (.slice Al L.length cl) L ∧ L.length ≤ maxLen ∧ MkS w (Old w) (.slice Ap path.length cp) path ∧ path.length ≤ maxLen := by
  obtain ⟨y0, y1, y2, y3, n', _, hl, h0, h1, h2, h3⟩ := trod_struct4 Tryz.underlying82 h
  rw [hC] at hl
  have e1 : Tryz.prog.cellsOf 24 = 1 := by kernel_rfl
  have e2 : Tryz.prog.cellsOf 3 = 1 := by kernel_rfl
  have e3 : Tryz.prog.cellsOf 33 = 1 := by kernel_rfl
  have e4 : Tryz.prog.cellsOf 80 = 1 := by kernel_rfl
  simp only [e1, e2, e3, e4] at h0 h1 h2 h3
  match cs, hl with
  | [a, b, c, d], _ =>
    have h0' : DataW.trod enc Tryz.prog w base spare held n' 24 [a] = some y0 := by simpa using h0
    obtain ⟨a0, cap0, l0, he0, hl0, hn0, hm0⟩ := open_hist (by kernel_rfl) h0'
    obtain ⟨k1, g1, _⟩ := DataW.trod_int Tryz.underlying3 h1
    simp at g1 he0
    have h2' : DataW.trod enc Tryz.prog w base spare held n' 33 [c] = some y2 := by simpa using h2
    have h3' : DataW.trod enc Tryz.prog w base spare held n' 80 [d] = some y3 := by simpa using h3
    obtain ⟨A2, c2, l2, hv2, hf2, hn2⟩ := open_facts h2'
    obtain ⟨A3, c3, l3, hv3, hf3, hn3⟩ := open_marks h3'
    exact ⟨a0, cap0, l0, k1, A2, c2, l2, A3, c3, l3, by rw [he0, g1, hv2, hv3], hl0, hn0, hm0, hf2, hn2, hf3, hn3⟩
end
end Go.Proofs.YtjomijnbnbideaaGreatDoor

namespace Go.Proofs.YtjomijnbnbideaaGreatDoor

def joinE (P : Program) (fn : Func) (s : ChangeSpec) (c : OpenClaim) : Bool :=
  c.wf (OpenSpec.ofChange s) && laidOutB P && mapsRowed P && fn.params.all (P.readableRec ·) && namedTie P c.named s.vars
def joinF (P : Program) (fn : Func) (s : ChangeSpec) (c : OpenClaim) : Bool :=
  (c.stops == []) && (P.stops == []) && (c.knobs == []) && (P.stopKnobs == []) &&
  (c.maps == (fn.params.toList ++ s.plain.varTypes P).any (P.mapsRec ·)) && (c.ifaces == (fn.params.toList ++ s.plain.varTypes P).any (P.ifacesRec ·)) && (c.mapsOut == P.mapsAmong fn.resultTypes.toList) &&
  (c.loops == (fn.params.toList ++ s.plain.varTypes P).any (P.loopsFrom ·)) && (c.wideKeys == (fn.params.toList ++ s.plain.varTypes P ++ fn.resultTypes.toList).any (P.wideKeysFrom ·)) &&
  s.vars.all (P.varReadable ·) && fn.resultTypes.all (fun t => P.readableRec t && decide (t < P.types.size)) && (c.ifacesOut == fn.resultTypes.toList.any (P.ifacesRec ·)) && (c.loopsOut == fn.resultTypes.toList.any (P.loopsFrom ·))
def joinG (P : Program) (fn : Func) (s : ChangeSpec) (c : OpenClaim) : Bool :=
  (c.plainKeys == P.plainKeys) && c.shortTexts.isNone && P.stopsHeard && P.mayEnter && (c.lifted == P.liftsFinal) && (P.make == some c.make) && (c.kinds == (if c.domain.isEmpty then [] else fn.params.toList.map fun t => match P.underlying t with | some (.int k) => some k | _ => none)) && (c.pinned == c.pinnedBy) &&
  (c.veiled == (fn.params.toList ++ s.plain.varTypes P ++ fn.resultTypes.toList).any (P.veiledRec ·)) && c.veiledFits P fn.params.toList (fn.params.toList ++ s.plain.varTypes P ++ fn.resultTypes.toList)

theorem joined_parts {P : Program} {f : FuncId} {fn : Func} {s : ChangeSpec} {c : OpenClaim} (he : joinE P fn s c = true)
    (ha : (c.inPlace == P.inPlace f) = true) (hb : (c.unfollowed == P.unfollowed f) = true) (hc : (c.recurses == P.recurses f) = true) (hd : (c.named == P.varsNamed f) = true)
    (hf : joinF P fn s c = true) (hg : joinG P fn s c = true) : joinedFacts P f fn s c = true := by
  unfold joinE at he
  unfold joinF at hf
  unfold joinG at hg
  unfold joinedFacts
  rw [Bool.and_eq_true] at he hf hg
  simp only [Bool.and_eq_true, and_assoc] at he hf hg ⊢
  obtain ⟨e1, e2, e3, e4, e5⟩ := he
  obtain ⟨f1, f2, f3, f4, f5, f6, f7, f8, f9, f10, f11, f12, f13⟩ := hf
  obtain ⟨g1, g2, g3, g4, g5, g6, g7, g8, g9, g10⟩ := hg
  exact ⟨e1, e2, e3, e4, e5, f1, f2, f3, f4, ha, hb, hc, hd, f5, f6, f7, f8, f9, f10, f11, f12, f13, g1, g2, g3, g4, g5, g6, g7, g8, g9, g10⟩
end Go.Proofs.YtjomijnbnbideaaGreatDoor
