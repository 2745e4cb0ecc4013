/-
  Walks: layers 21, 22's references: whether all pairs can be chosen such that nothing leads back; whether a history is small.
-/
import Derived.Test.YtjomijnbnbideaaGreatDoorG22
import Derived.Test.YtjomijnbnbideaaGreatDoorG05
import Derived.Test.YtjomijnbnbideaaGreatDoorG45
import Derived.Test.YtjomijnbnbideaaGreatDoorG41
import Derived.Test.YtjomijnbnbideaaGreatDoorG36
set_option linter.unusedVariables false
set_option linter.unusedSimpArgs false
namespace Go.Proofs.YtjomijnbnbideaaGreatDoor
open Go.RowKit Go.Inq
set_option maxHeartbeats 8000000
attribute [local go_sem ↓] Go.wp_at_zero Go.wp_at_succ

theorem someB_end (H : List Txn) (level : Int) (P l : List Cho) (h : l.length = P.length) : someB H level (P.drop l.length) l = goodB H level l := by
  rw [h, List.drop_length]; rfl
theorem someB_step (H : List Txn) (level : Int) (P l : List Cho) (h : l.length < P.length) : someB H level (P.drop l.length) l = (someB H level (P.drop (l ++ [P[l.length]]).length) (l ++ [P[l.length]]) || someB H level (P.drop (l ++ [turnB P[l.length]]).length) (l ++ [turnB P[l.length]])) := by
  rw [List.drop_eq_getElem_cons h, List.length_append, List.length_append]
  rfl
set_option maxRecDepth 100000 in
theorem rsome21_any (A : Option Addr) (c : Nat) (H : List Txn) (hr : rightH H = true) (hn : SmallH H) (level : Int) (P : List Cho) (hP1 : P.length ≤ 20000) (hone : ∀ p ∈ P, oneB H p = true) : ∀ (d : Nat) (l : List Cho) (Al : Option Addr) (cl : Nat) (Ap : Option Addr) (cp : Nat) (w : World), TxnS w (Old w) (.slice A H.length c) H → ChoS w (Old w) (.slice Ap P.length cp) P → ChoS w (Old w) (.slice Al l.length cl) l → l.length + d = P.length → (∀ x ∈ l, oneB H x = true) →
    Calls Tryz.prog 62 #[.agg #[.slice A H.length c], .int .i64 level, .slice Ap P.length cp, .slice Al l.length cl] w fun e w' => e = .returned (.bool (someB H level (P.drop l.length) l)) ∧ Below w.heap.size w w' := by
  obtain ⟨ic, hic, hz1, hz2, hz3⟩ := info_parts infoC9
  have h32 : H.length ≤ 32 := ((rightH_iff H).1 hr).1
  intro d
  induction d with
  | zero => ?_
  | succ d ih => ?_
  all_goals
    intro l Al cl Ap cp w h hP hL hlen hl1
    obtain ⟨W0, hW0⟩ : ∃ W0, w.alloc (.cells #[.slice A H.length c] 24) = W0 := ⟨_, rfl⟩
    have hB := below_allocEq (Below.refl w.heap.size w) hW0 (Nat.le_refl _)
    have k0 := Blk.newEq hW0
    have hT := hide (h.below hB)
    have hI := hide (hL.below hB)
    have hPI := hide (hP.below hB)
    have c0 := Blk.n0 k0
  · have hll : l.length = P.length := by omega
    have hrc : rightC H l = true := by
      unfold rightC
      rw [hr, decide_eq_true (show l.length ≤ 20000 by omega), Bool.true_and, Bool.true_and, List.all_eq_true]
      exact hl1
    have hck := hide (rgood18_any A c H level Al cl l W0 hT.out hI.out hrc hn)
    rw [someB_end H level P l hll]
    generalize goodB H level l = r at *
    have hle : ((l.length : Int) == (P.length : Int)) = true := by simp; omega
    clear h hP hL hT hI hPI hlen hll hrc hl1
    go_enter Tryz.func62, Tryz.ntmps62
    go_wp2_with fail
    clear hW0 c0
    refine hck.out.mono ?_
    rintro e w1 ⟨rfl, hb1⟩
    go_wp2
    go_ret
    exact ⟨rfl, hB.trans (hb1.mono hB.size)⟩
  · have hlp : l.length < P.length := by omega
    have hlp2 : (l.length : Int) < (P.length : Int) := by omega
    have hst := hide (someB_step H level P l hlp)
    have hone1 : oneB H P[l.length] = true := hone _ (List.getElem_mem hlp)
    have ho1 : Hid (∀ x ∈ l ++ [P[l.length]], oneB H x = true) := hide (fun x hx => by
      rw [List.mem_append, List.mem_singleton] at hx
      rcases hx with hx | rfl
      · exact hl1 x hx
      · exact hone1)
    have ho2 : Hid (∀ x ∈ l ++ [turnB P[l.length]], oneB H x = true) := hide (fun x hx => by
      rw [List.mem_append, List.mem_singleton] at hx
      rcases hx with hx | rfl
      · exact hl1 x hx
      · exact turn_one hone1)
    have hl2 : Hid (∀ x : Cho, (l ++ [x]).length + d = P.length) := hide (fun x => by rw [List.length_append, List.length_singleton]; omega)
    have hset : Hid (∀ x y : Cho, (l ++ [x]).set l.length y = l ++ [y]) := hide (fun x y => by simp)
    have hln : Hid (∀ x : Cho, l.length < (l ++ [x]).length) := hide (fun x => by simp)
    have hlx : Hid (∀ x : Cho, ((l ++ [x]).length : Int) = (l.length : Int) + 1) := hide (fun x => by simp)
    have hxx : Hid (∀ x : Cho, (l ++ [x])[l.length]'(by simp) = x) := hide (fun x => by simp)
    obtain ⟨bp, op, rfl, -, x0, x1, x2⟩ := hPI.out.at_ hlp
    obtain ⟨key, xa, xb, hxe⟩ : ∃ key xa xb, P[l.length] = ⟨key, xa, xb⟩ := ⟨_, _, _, rfl⟩
    rw [hxe] at hst ho1 ho2 x0 x1 x2
    have htx : Hid (turnB ⟨key, xa, xb⟩ = ⟨key, xb, xa⟩) := hide rfl
    rw [htx.out] at hst ho2
    generalize someB H level (P.drop l.length) l = r at *
    have hle : ((l.length : Int) == (P.length : Int)) = false := by simp; omega
    have hll : l.length < 20000 := by omega
    dsimp only at x0 x1 x2
    replace hlen := hide hlen
    replace ih := hide ih
    replace hr := hide hr
    replace hxe := hide hxe
    replace hone1 := hide hone1
    clear h hP hL
    go_enter Tryz.func62, Tryz.ntmps62
    go_upto_region 5 with fail
    obtain ⟨W1, hW1⟩ : ∃ W1, W0.alloc (.cells #[.int .i64 key, .int .i64 xa, .int .i64 xb] 49) = W1 := ⟨_, rfl⟩
    rw [hW1]
    have hBa := below_allocEq hB hW1 hB.size
    have hB01 := below_allocEq (Below.refl W0.heap.size W0) hW1 (Nat.le_refl _)
    have kq := Blk.newEq hW1
    have k1 := k0.allocEq hW1
    have hs1 : W0.heap.size < W1.heap.size := kq.lt
    have hs0 : w.heap.size < W1.heap.size := k1.lt
    replace hT := hide (hT.out.below hB01)
    replace hI := hide (hI.out.below hB01)
    replace hPI := hide (hPI.out.below hB01)
    clear hW0 hW1 x0 x1 x2 c0 hle hB01 hB k0
    generalize W0.heap.size = g10 at *
    have hnil := hide (World.ownsRow_nil W1 W1.heap.size 49 3)
    have h63 : 0 + l.length ≤ maxLen := by unfold maxLen; omega
    have hbb : (0 + l.length) * 24 ≤ 140737488355328 := by omega
    have h63b : l.length + 1 ≤ maxLen := by unfold maxLen; omega
    have hbb2 : (l.length + 1) * 24 ≤ 140737488355328 := by omega
    go_upto_region 6 with fail
    go_cut [11] (fun s11 wz => OwnC wz W1.heap.size s11 l ∧ Below W1.heap.size W1 wz)
    case first =>
      go_wp2_with (at_builtin; go_loud (refine wpList_append_flat (enc := encC) rfl (.tmp 28) (.tmp 29) 61 rfl W1.heap.size 49 ic _ 3 24 Tryz.underlying61 hic hz1 hz2 hz3 rfl (by decide) (.slice none 0 0) (Old W1) ([] : List Cho) rfl hnil.out (fun _ => rfl) _ l rfl hI.out encC_one h63 hbb (Nat.le_refl _) ?_); intro v6 w6 hown6 hg6 hat6)
      go_meet
      exact ⟨hown6, below_grown (Below.refl _ _) hg6 (Nat.le_refl _) (fun k hk => by simp [Value.ownBlock] at hk)⟩
    case rest =>
      obtain ⟨hO6, hb6⟩ := hcut
      obtain ⟨X6, hX6⟩ : ∃ X6, X6 = wc := ⟨_, rfl⟩
      subst hX6
      obtain ⟨A6, c6, rfl⟩ := OwnC.form hO6
      have hs6 := hb6.size
      replace hO6 := hide hO6
      have kq6 := kq.below hb6 kq.lt
      have q0 := Blk.n0 kq6
      have q1 := Blk.n1 kq6
      have q2 := Blk.n2 kq6
      clear hnil
      go_upto_region 7 with fail
      go_cut [11] (fun s11 wz => OwnC wz W1.heap.size s11 (l ++ [⟨key, xa, xb⟩]) ∧ Below W1.heap.size W1 wz)
      case first =>
        go_wp2_with (at_builtin; go_loud (refine wpList_push (enc := encC) rfl (.tmp 31) (.tmp 33) 61 rfl W1.heap.size 49 ic _ 3 24 Tryz.underlying61 hic hz1 hz2 hz3 rfl (by decide) (.slice A6 l.length c6) l rfl hO6.out (fun _ => rfl) ⟨key, xa, xb⟩ _ rfl rfl encC_one h63b hbb2 hs6 W1 W1.heap.size (Nat.le_refl _) hb6 ?_); intro v7 w7 hown7 hg7 hbw7 hat7)
        go_meet
        exact ⟨hown7, hbw7⟩
      case rest =>
        clear hb6 hO6 hs6 kq6 q0 q1 q2
        obtain ⟨hO7, hb7⟩ := hcut
        obtain ⟨X7, hX7⟩ : ∃ X7, X7 = wc := ⟨_, rfl⟩
        subst hX7
        obtain ⟨A7, c7, rfl⟩ := OwnC.form hO7
        have hI7 := hide (OwnC.sl (K := Old X7) hO7 (fun g _ h => h))
        have k7 := k1.below hb7 k1.lt
        have c0 := Blk.n0 k7
        have hcall := hide (ih.out (l ++ [⟨key, xa, xb⟩]) A7 c7 (some ⟨bp, op, none⟩) cp X7 (hT.out.below hb7) (hPI.out.below hb7) hI7.out (hl2.out _) ho1.out)
        obtain ⟨q, hq⟩ : ∃ q, someB H level (P.drop (l ++ [(⟨key, xa, xb⟩ : Cho)]).length) (l ++ [⟨key, xa, xb⟩]) = q := ⟨_, rfl⟩
        rw [hq] at hcall hst
        replace hq := hide hq
        clear hI7
        replace hO7 := hide hO7
        have hlz : Hid ((l ++ [(⟨key, xa, xb⟩ : Cho)]).length = l.length + 1) := hide (by simp)
        rw [hlz.out] at hcall
        go_upto_region 8 with fail
        go_wp2_with fail
        clear c0
        refine hcall.out.mono ?_
        rintro e w8 ⟨rfl, hb8⟩
        have hb9 := hb7.trans (hb8.mono hb7.size)
        have hO8 := own_below hO7.out hb8 (Nat.le_refl _)
        clear hcall
        cases q with
        | true =>
          have hr2 : r = true := by rw [hst.out]; rfl
          subst hr2
          clear hst hO8 hO7
          go_wp2
          go_ret
          exact ⟨rfl, hBa.trans (hb9.mono hBa.size)⟩
        | false =>
          have hr2 := hide (show r = someB H level (P.drop (l ++ [(⟨key, xb, xa⟩ : Cho)]).length) (l ++ [⟨key, xb, xa⟩]) by rw [hst.out]; rfl)
          have hxq := hide (hxx.out ⟨key, xa, xb⟩)
          have kq8 := (kq.below hb9 kq.lt)
          have q0 := Blk.n0 kq8
          have q1 := Blk.n1 kq8
          have q2 := Blk.n2 kq8
          replace hO8 := hide hO8
          clear hO7
          go_wp2_with fail
          clear q0 q1 q2
          refine (rback18_any key xa xb w8).mono ?_
          rintro e w9 ⟨rfl, hb10⟩
          have hb11 := hb9.trans (hb10.mono hb9.size)
          obtain ⟨g, csq, rfl, hgb, hgl, kg, e0, e1, e2, hstore⟩ := OwnC.store (own_below hO8.out hb10 (Nat.le_refl _)) (hln.out _)
          rw [hxq.out] at e0 e1 e2
          have hsn := hide (hstore ⟨key, xb, xa⟩)
          rw [hset.out] at hsn
          rw [hlz.out] at hsn
          dsimp only at e0 e1 e2
          have f0 := kg.frozen (l.length * 3)
          have f1 := kg.frozen (l.length * 3 + 1)
          have f2 := kg.frozen (l.length * 3 + 2)
          have d0 := (kg.cell (l.length * 3)).trans e0
          have d1 := (kg.cell (l.length * 3 + 1)).trans e1
          have d2 := (kg.cell (l.length * 3 + 2)).trans e2
          have hlI : (l.length : Int) < (l.length : Int) + 1 := by omega
          clear hO8 hstore e0 e1 e2
          replace kg := hide kg
          go_upto_region 12 with fail
          obtain ⟨Y, hY⟩ : ∃ Y, setC w9 g l.length ⟨key, xb, xa⟩ = Y := ⟨_, rfl⟩
          rw [hY] at hsn
          have hbY : Below W1.heap.size W1 Y := by rw [← hY]; exact setC_below hb11 hgb
          have hgoY : Hid (((w9.setCell ⟨g, l.length * 3, none⟩ (.int .i64 key)).setCell ⟨g, l.length * 3 + 1, none⟩ (.int .i64 xb)).setCell ⟨g, l.length * 3 + 2, none⟩ (.int .i64 xa) = Y) := hide hY
          rw [hgoY.out]
          have kY := k1.below hbY k1.lt
          have c0 := Blk.n0 kY
          have hlz2 : Hid ((l ++ [(⟨key, xb, xa⟩ : Cho)]).length = l.length + 1) := hide (by simp)
          have hIY := hide (OwnC.sl (K := Old Y) hsn.out (fun g _ h => h))
          rw [← hlz2.out] at hIY
          have hcall := hide (ih.out (l ++ [⟨key, xb, xa⟩]) (some ⟨g, 0, none⟩) c7 (some ⟨bp, op, none⟩) cp Y (hT.out.below hbY) (hPI.out.below hbY) hIY.out (hl2.out _) ho2.out)
          rw [← hr2.out] at hcall
          rw [hlz2.out] at hcall
          clear hY hgoY hsn hIY kg d0 d1 d2 f0 f1 f2 hb9 hb10 hb11 hst hr2 hlz hlz2 hxq kq8
          go_wp2_with fail
          clear c0
          refine hcall.out.mono ?_
          rintro e w12 ⟨rfl, hb12⟩
          have hb13 := hbY.trans (hb12.mono hbY.size)
          go_wp2
          go_ret
          exact ⟨rfl, hBa.trans (hb13.mono hBa.size)⟩
end Go.Proofs.YtjomijnbnbideaaGreatDoor
