/-
  Walks: layer 19: whether there is an edge of some kind; whether some transactions are a cycle.
-/
import Derived.Test.YtjomijnbnbideaaGreatDoorE09
import Derived.Test.YtjomijnbnbideaaGreatDoorE05
import Derived.Test.YtjomijnbnbideaaGreatDoorE02
import Derived.Test.YtjomijnbnbideaaGreatDoorE07
set_option linter.unusedVariables false
set_option linter.unusedSimpArgs false
namespace Go.Proofs.YtjomijnbnbideaaGreatDoor
open Go.RowKit Go.Inq
set_option maxHeartbeats 8000000
attribute [local go_sem ↓] Go.wp_at_zero Go.wp_at_succ

set_option maxRecDepth 100000 in
theorem some19_any (A : Option Addr) (c : Nat) (H : List Txn) (x y : Int) (Ak : Option Addr) (ck : Nat) (vs : List (Value × Bool)) (w : World) (h : TxnS w (Old w) (.slice A H.length c) H) (hn : SmallH H) (hk : KndS w (Old w) (.slice Ak vs.length ck) vs) (hkn : vs.length ≤ 1000)
    (hp : twoB H x y = true → ∀ W (bh bx by' : Nat), Below w.heap.size w W → W.cell? ⟨bh, 0, none⟩ = some (.slice A H.length c) → W.cell? ⟨bx, 0, none⟩ = some (.int .i64 x) → W.cell? ⟨by', 0, none⟩ = some (.int .i64 y) → ∀ v ∈ vs, Calls Tryz.prog 242 #[v.1, .pointer (some ⟨bh, 0, none⟩), .pointer (some ⟨bx, 0, none⟩), .pointer (some ⟨by', 0, none⟩)] W fun e W' => e = .returned (.bool v.2) ∧ Below W.heap.size W W') :
    Calls Tryz.prog 222 #[.agg #[.slice A H.length c], .int .i64 x, .int .i64 y, .slice Ak vs.length ck] w fun e w' => e = .returned (.bool (twoB H x y && vs.any (·.2))) ∧ Below w.heap.size w w' := by
  obtain ⟨W0, hW0⟩ : ∃ W0, ((w.alloc (.cells #[.slice A H.length c] 24)).alloc (.cells #[.int .i64 x] 3)).alloc (.cells #[.int .i64 y] 3) = W0 := ⟨_, rfl⟩
  have hB := below_three hW0
  have k0 := Blk.three1 hW0
  have k1 := Blk.three2 hW0
  have k2 := Blk.three3 hW0
  have hrc := hide (right8_any A c H W0 (h.below hB) hn)
  have c0 := k0.cell 0
  simp only [List.getElem?_toArray, List.getElem?_cons_zero, List.getElem?_cons_succ] at c0
  have hko := hide (fun W (hb : Below w.heap.size w W) => hk.below hb)
  have htw : Hid (twoB H x y = (rightH H && decide (0 ≤ x) && decide (x < (H.length : Int)) && decide (0 ≤ y) && decide (y < (H.length : Int)))) := hide rfl
  obtain ⟨r, hr⟩ : ∃ r, twoB H x y = r := ⟨_, rfl⟩
  rw [hr] at htw hp
  rw [hr]
  obtain ⟨q, hq⟩ : ∃ q, rightH H = q := ⟨_, rfl⟩
  rw [hq] at htw hrc
  replace hp := hide hp
  replace hn := hide hn
  obtain ⟨z, hz⟩ : ∃ z, vs.any (·.2) = z := ⟨_, rfl⟩
  rw [hz]
  replace hz := hide hz
  clear h hk hr hq
  go_enter Tryz.func222, Tryz.ntmps222
  go_wp2_with fail
  refine hrc.out.mono ?_
  rintro e w1 ⟨rfl, hb1⟩
  replace k0 := k0.below hb1 k0.lt
  replace k1 := k1.below hb1 k1.lt
  replace k2 := k2.below hb1 k2.lt
  have hb2 := hB.trans (hb1.mono hB.size)
  clear hW0 hrc c0
  have c0 := k0.cell 0
  have c1 := k1.cell 0
  have c2 := k2.cell 0
  simp only [List.getElem?_toArray, List.getElem?_cons_zero, List.getElem?_cons_succ] at c0 c1 c2
  cases q with
  | false =>
    have hre : r = false := by rw [htw.out]; rfl
    subst hre
    clear htw hp
    go_wp2
    go_ret
    exact ⟨rfl, hb2⟩
  | true =>
    by_cases h1 : x < 0 ∨ y < 0
    · have hre : r = false := by
        rw [htw.out]
        rcases h1 with g | g
        · rw [decide_eq_false (show ¬ 0 ≤ x by omega)]; simp
        · rw [decide_eq_false (show ¬ 0 ≤ y by omega)]; simp
      subst hre
      have g1 : decide (min x y < 0) = true := by simp; omega
      clear htw hp h1
      go_wp2
      go_ret
      exact ⟨rfl, hb2⟩
    · have g1 : decide (min x y < 0) = false := by simp; omega
      by_cases h2 : (H.length : Int) ≤ x ∨ (H.length : Int) ≤ y
      · have hre : r = false := by
          rw [htw.out]
          rcases h2 with g | g
          · rw [decide_eq_false (show ¬ x < (H.length : Int) by omega)]; simp
          · rw [decide_eq_false (show ¬ y < (H.length : Int) by omega)]; simp
        subst hre
        have g2 : decide (max x y ≥ (H.length : Int)) = true := by simp; omega
        have g3 : decide ((H.length : Int) ≤ max x y) = true := by simp; omega
        clear htw hp h1 h2
        go_wp2
        go_ret
        exact ⟨rfl, hb2⟩
      · have hre : r = true := by
          rw [htw.out, decide_eq_true (show 0 ≤ x by omega), decide_eq_true (show 0 ≤ y by omega), decide_eq_true (show x < (H.length : Int) by omega), decide_eq_true (show y < (H.length : Int) by omega)]
          rfl
        subst hre
        have g2 : decide (max x y ≥ (H.length : Int)) = false := by simp; omega
        have g3 : decide ((H.length : Int) ≤ max x y) = false := by simp; omega
        have hc := hide (containsKd_any 242 (enters_of Tryz.func242 (by kernel_rfl) rfl) #[.pointer (some ⟨w.heap.size, 0, none⟩), .pointer (some ⟨w.heap.size + 1, 0, none⟩), .pointer (some ⟨w.heap.size + 1 + 1, 0, none⟩)] (·.2) Ak ck vs w1 (hko.out w1 hb2) (by omega) (fun W hbW v hv => hp.out (by simp) W _ _ _ (hb2.trans (hbW.mono hb2.size)) (by have := (k0.below hbW k0.lt).cell 0; simpa using this) (by have := (k1.below hbW k1.lt).cell 0; simpa using this) (by have := (k2.below hbW k2.lt).cell 0; simpa using this) v hv))
        rw [hz.out] at hc
        clear htw hp h1 h2 hko hz
        go_wp2_with fail
        refine hc.out.mono ?_
        rintro e w2 ⟨rfl, hb3⟩
        go_wp2
        go_ret
        exact ⟨rfl, hb2.trans (hb3.mono hb2.size)⟩
/-- A block of values of kinds. -/
theorem KndS.of_blk {w : World} {g : Nat} {t : TypeId} {vs : List (Value × Bool)} (h : Blk w g t (vs.map (·.1)).toArray) : KndS w (Old w) (.slice (some ⟨g, 0, none⟩) vs.length vs.length) vs := by
  refine ⟨some ⟨g, 0, none⟩, vs.length, vs.map fun x => [x.1], rfl, Nat.le_refl _, by simp, fun i cs x h1 h2 => ?_, fun _ => ⟨g, 0, rfl, h.lt, fun i j cs u h1 h2 => ?_⟩⟩
  · rw [List.getElem?_map, h2] at h1
    injection h1 with h1
    exact ⟨by rw [← h1]; rfl, h1.symm⟩
  · rw [List.getElem?_map] at h1
    cases hl : vs[i]? with
    | none => rw [hl] at h1; cases h1
    | some x =>
      rw [hl] at h1
      injection h1 with h1
      subst h1
      cases j with
      | zero =>
        injection h2 with h2
        rw [Nat.zero_add, Nat.mul_one, Nat.add_zero, h.cell, List.getElem?_toArray, List.getElem?_map, hl, ← h2]
        rfl
      | succ j => simp at h2
set_option maxRecDepth 100000 in
theorem direct19_any (A : Option Addr) (c : Nat) (H : List Txn) (Al : Option Addr) (cl : Nat) (l : List Cho) (x y : Int) (w : World) (h : TxnS w (Old w) (.slice A H.length c) H) (hn : SmallH H) (hl : ChoS w (Old w) (.slice Al l.length cl) l) (hln : l.length ≤ 1000000000) :
    Calls Tryz.prog 192 #[.agg #[.slice A H.length c], .slice Al l.length cl, .int .i64 x, .int .i64 y] w fun e w' => e = .returned (.bool (directB H l x y)) ∧ Below w.heap.size w w' := by
  obtain ⟨W0, hW0⟩ : ∃ W0, (w.alloc (.cells #[.slice A H.length c] 24)).alloc (.cells #[.iface 267 (.agg #[]), .iface 268 (.agg #[]), .iface 269 (.slice Al l.length cl)] 289) = W0 := ⟨_, rfl⟩
  have hB := below_two hW0
  have k1 := Blk.two2 hW0
  have hT := h.below hB
  have hL := hl.below hB
  have hc := hide (some19_any A c H x y (some ⟨w.heap.size + 1, 0, none⟩) 3 [(.iface 267 (.agg #[]), soE H x.toNat y.toNat), (.iface 268 (.agg #[]), redE H x.toNat y.toNat), (.iface 269 (.slice Al l.length cl), writE H l x.toNat y.toNat)] W0 hT hn (KndS.of_blk (vs := [(.iface 267 (.agg #[]), soE H x.toNat y.toNat), (.iface 268 (.agg #[]), redE H x.toNat y.toNat), (.iface 269 (.slice Al l.length cl), writE H l x.toNat y.toNat)]) k1) (by simp) (fun htw W bh bx by' hbW g1 g2 g3 v hv => by
    obtain ⟨_, a, b, rfl, rfl, ha, hb⟩ := twoB_iff.1 htw
    simp only [Int.toNat_natCast] at hv
    simp only [List.mem_cons, List.not_mem_nil, or_false] at hv
    rcases hv with rfl | rfl | rfl
    · exact someS_any A c H Al cl l a b bh bx by' W (hT.below hbW) hn (hL.below hbW) hln ha hb g1 g2 g3
    · exact someR_any A c H Al cl l a b bh bx by' W (hT.below hbW) hn (hL.below hbW) hln ha hb g1 g2 g3
    · exact someW_any A c H Al cl l a b bh bx by' W (hT.below hbW) hn (hL.below hbW) hln ha hb g1 g2 g3))
  have hre : directB H l x y = (twoB H x y && [((.iface 267 (.agg #[]) : Value), soE H x.toNat y.toNat), (.iface 268 (.agg #[]), redE H x.toNat y.toNat), (.iface 269 (.slice Al l.length cl), writE H l x.toNat y.toNat)].any (·.2)) := by
    unfold directB dirE
    simp [Bool.or_assoc]
  rw [hre]
  generalize (twoB H x y && [((.iface 267 (.agg #[]) : Value), soE H x.toNat y.toNat), (.iface 268 (.agg #[]), redE H x.toNat y.toNat), (.iface 269 (.slice Al l.length cl), writE H l x.toNat y.toNat)].any (·.2)) = q at *
  clear h hl hre hT hL
  go_enter Tryz.func192, Tryz.ntmps192
  go_wp2_with fail
  refine hc.out.mono ?_
  rintro e w1 ⟨rfl, hb1⟩
  go_wp2
  go_ret
  exact ⟨rfl, hB.trans (hb1.mono hB.size)⟩
set_option maxRecDepth 100000 in
theorem anti19_any (A : Option Addr) (c : Nat) (H : List Txn) (Al : Option Addr) (cl : Nat) (l : List Cho) (x y : Int) (w : World) (h : TxnS w (Old w) (.slice A H.length c) H) (hn : SmallH H) (hl : ChoS w (Old w) (.slice Al l.length cl) l) (hln : l.length ≤ 1000000000) :
    Calls Tryz.prog 243 #[.agg #[.slice A H.length c], .slice Al l.length cl, .int .i64 x, .int .i64 y] w fun e w' => e = .returned (.bool (antiB H l x y)) ∧ Below w.heap.size w w' := by
  obtain ⟨W0, hW0⟩ : ∃ W0, (w.alloc (.cells #[.slice A H.length c] 24)).alloc (.cells #[.iface 299 (.slice Al l.length cl)] 289) = W0 := ⟨_, rfl⟩
  have hB := below_two hW0
  have k1 := Blk.two2 hW0
  have hT := h.below hB
  have hL := hl.below hB
  have hc := hide (some19_any A c H x y (some ⟨w.heap.size + 1, 0, none⟩) 1 [(.iface 299 (.slice Al l.length cl), overE H l x.toNat y.toNat)] W0 hT hn (KndS.of_blk (vs := [(.iface 299 (.slice Al l.length cl), overE H l x.toNat y.toNat)]) k1) (by simp) (fun htw W bh bx by' hbW g1 g2 g3 v hv => by
    obtain ⟨_, a, b, rfl, rfl, ha, hb⟩ := twoB_iff.1 htw
    simp only [Int.toNat_natCast] at hv
    simp only [List.mem_cons, List.not_mem_nil, or_false] at hv
    subst hv
    exact someO_any A c H Al cl l a b bh bx by' W (hT.below hbW) hn (hL.below hbW) hln ha hb g1 g2 g3))
  have hre : antiB H l x y = (twoB H x y && [((.iface 299 (.slice Al l.length cl) : Value), overE H l x.toNat y.toNat)].any (·.2)) := by
    unfold antiB
    simp
  rw [hre]
  generalize (twoB H x y && [((.iface 299 (.slice Al l.length cl) : Value), overE H l x.toNat y.toNat)].any (·.2)) = q at *
  clear h hl hre hT hL
  go_enter Tryz.func243, Tryz.ntmps243
  go_wp2_with fail
  refine hc.out.mono ?_
  rintro e w1 ⟨rfl, hb1⟩
  go_wp2
  go_ret
  exact ⟨rfl, hB.trans (hb1.mono hB.size)⟩
end Go.Proofs.YtjomijnbnbideaaGreatDoor

namespace Go.Proofs.YtjomijnbnbideaaGreatDoor
open Go.RowKit Go.Inq
set_option maxHeartbeats 8000000
attribute [local go_sem ↓] Go.wp_at_zero Go.wp_at_succ

theorem isB_one {H : List Txn} {l : List Cho} {x y : Int} : isB H 1 l x y = (List.range H.length).any fun m => directB H l x (m : Int) && (decide ((m : Int) = y) || antiB H l (m : Int) y) := rfl
set_option maxRecDepth 100000 in
theorem is19_any (A : Option Addr) (c : Nat) (H : List Txn) (level : Int) (Al : Option Addr) (cl : Nat) (l : List Cho) (x y : Int) (w : World) (h : TxnS w (Old w) (.slice A H.length c) H) (hn : SmallH H) (hl : ChoS w (Old w) (.slice Al l.length cl) l) (hln : l.length ≤ 1000000000) :
    Calls Tryz.prog 223 #[.agg #[.slice A H.length c], .int .i64 level, .slice Al l.length cl, .int .i64 x, .int .i64 y] w fun e w' => e = .returned (.bool (isB H level l x y)) ∧ Below w.heap.size w w' := by
  obtain ⟨W0, hW0⟩ : ∃ W0, w.alloc (.cells #[.slice A H.length c] 24) = W0 := ⟨_, rfl⟩
  have hB := below_allocEq (Below.refl w.heap.size w) hW0 (Nat.le_refl _)
  have k0 := Blk.newEq hW0
  have hdi := hide (fun (a b : Int) W (hb : Below w.heap.size w W) => direct19_any A c H Al cl l a b W (h.below hb) hn (hl.below hb) hln)
  have han := hide (fun (a b : Int) W (hb : Below w.heap.size w W) => anti19_any A c H Al cl l a b W (h.below hb) hn (hl.below hb) hln)
  have hH := hn.1
  have c0 := k0.cell 0
  simp only [List.getElem?_toArray, List.getElem?_cons_zero, List.getElem?_cons_succ] at c0
  clear h hl
  by_cases h0 : level = 0
  · subst h0
    have hre : Hid (isB H 0 l x y = (directB H l x y || antiB H l x y)) := hide rfl
    rw [hre.out]
    have hd1 := hide (hdi.out x y W0 hB)
    have ha1 := hide (fun W (hb : Below W0.heap.size W0 W) => han.out x y W (hB.trans (hb.mono hB.size)))
    generalize directB H l x y = q1 at *
    generalize antiB H l x y = q2 at *
    clear hre hdi han
    go_enter Tryz.func223, Tryz.ntmps223
    go_wp2_with fail
    refine hd1.out.mono ?_
    rintro e w1 ⟨rfl, hb1⟩
    have hb2 := hB.trans (hb1.mono hB.size)
    have ha2 := hide (ha1.out w1 hb1)
    have k1 := k0.below hb1 k0.lt
    have c1 := k1.cell 0
    simp only [List.getElem?_toArray, List.getElem?_cons_zero, List.getElem?_cons_succ] at c1
    clear hW0 c0 hd1 ha1
    cases q1 with
    | true =>
      clear ha2
      go_wp2
      go_ret
      exact ⟨rfl, hb2⟩
    | false =>
      go_wp2_with fail
      refine ha2.out.mono ?_
      rintro e w2 ⟨rfl, hb3⟩
      go_wp2
      go_ret
      exact ⟨rfl, hb2.trans (hb3.mono hb2.size)⟩
  · have g0 : (level == 0) = false := by simpa using h0
    by_cases h1 : level = 1
    · subst h1
      have hre : Hid (isB H 1 l x y = (List.range H.length).any fun m => directB H l x (m : Int) && (decide ((m : Int) = y) || antiB H l (m : Int) y)) := hide rfl
      have hyes : Hid (∀ m, m < H.length → (directB H l x (m : Int) && (decide ((m : Int) = y) || antiB H l (m : Int) y)) = true → isB H 1 l x y = true) := hide (fun m hm g => by rw [hre.out, List.any_eq_true]; exact ⟨m, List.mem_range.2 hm, g⟩)
      have hno : Hid ((∀ m, m < H.length → (directB H l x (m : Int) && (decide ((m : Int) = y) || antiB H l (m : Int) y)) = false) → isB H 1 l x y = false) := hide (fun g => by rw [hre.out, List.any_eq_false]; intro m hm; rw [g m (List.mem_range.1 hm)]; decide)
      generalize isB H 1 l x y = r at *
      clear hre h0
      go_enter Tryz.func223, Tryz.ntmps223
      go_wp2_with fail
      clear hW0 c0
      go_loopw [32] (fun s32 wr => ∃ m : Nat, m ≤ H.length ∧ s32 = .int .i64 m ∧ Hid (∀ m', m' < m → (directB H l x (m' : Int) && (decide ((m' : Int) = y) || antiB H l (m' : Int) y)) = false) ∧ Below w.heap.size w wr ∧ Blk wr w.heap.size 24 #[.slice A H.length c]) (fun s32 _ => H.length - (intOf s32).toNat)
      case atStart => exact ⟨0, Nat.zero_le _, by go_num, hide (fun m hm => absurd hm (by omega)), hB, k0⟩
      case round =>
        clear k0 hB
        obtain ⟨m, hm, rfl, hall, hb, k0⟩ := hrel
        have hm0 : (0 : Int) ≤ (m : Int) := Int.natCast_nonneg _
        by_cases hlt : m < H.length
        · have hm1 : (m : Int) < (H.length : Int) := by omega
          have c0 := k0.cell 0
          simp only [List.getElem?_toArray, List.getElem?_cons_zero, List.getElem?_cons_succ] at c0
          have hd1 := hide (hdi.out x (m : Int) wr hb)
          have ha1 := hide (fun W (hb2 : Below wr.heap.size wr W) => han.out (m : Int) y W (hb.trans (hb2.mono hb.size)))
          have hy := hide (hyes.out m hlt)
          have hnx := hide (fun (g : (directB H l x (m : Int) && (decide ((m : Int) = y) || antiB H l (m : Int) y)) = false) => (fun m' (hm' : m' < m + 1) => (by
            by_cases e : m' = m
            · subst e; exact g
            · exact hall.out m' (by omega) : (directB H l x (m' : Int) && (decide ((m' : Int) = y) || antiB H l (m' : Int) y)) = false)))
          generalize directB H l x (m : Int) = q1 at *
          generalize antiB H l (m : Int) y = q2 at *
          go_wp2_with fail
          refine hd1.out.mono ?_
          rintro e w1 ⟨rfl, hb1⟩
          have hb2 := hb.trans (hb1.mono hb.size)
          have ha2 := hide (ha1.out w1 hb1)
          have k1 := k0.below hb1 k0.lt
          have c1 := k1.cell 0
          simp only [List.getElem?_toArray, List.getElem?_cons_zero, List.getElem?_cons_succ] at c1
          clear c0 hd1 ha1 k0
          cases q1 with
          | false =>
            have hn2 := hide (hnx.out rfl)
            clear ha2 hnx hy
            go_wp2
            go_roundw
            case rel => exact ⟨m + 1, by omega, by go_num, hn2, hb2, k1⟩
            case measure => simp [intOf]; omega
          | true =>
            by_cases hmy : (m : Int) = y
            · have hr := hy.out (by simp [hmy])
              have g1 : ((m : Int) == y) = true := by simpa using hmy
              subst hr
              clear ha2 hnx hy hmy hno hyes
              go_wp2
              go_ret
              exact ⟨rfl, hb2⟩
            · have g1 : ((m : Int) == y) = false := by simpa using hmy
              have hmd : decide ((m : Int) = y) = false := by simpa using hmy
              rw [hmd] at hy hnx
              clear hmd hmy
              go_wp2_with fail
              refine ha2.out.mono ?_
              rintro e w2 ⟨rfl, hb3⟩
              have hb4 := hb2.trans (hb3.mono hb2.size)
              have k2 := k1.below hb3 k1.lt
              clear ha2 c1
              cases q2 with
              | true =>
                have hr := hy.out rfl
                subst hr
                clear hnx hy hno hyes
                go_wp2
                go_ret
                exact ⟨rfl, hb4⟩
              | false =>
                have hn2 := hide (hnx.out rfl)
                clear hnx hy
                go_wp2
                go_roundw
                case rel => exact ⟨m + 1, by omega, by go_num, hn2, hb4, k2⟩
                case measure => simp [intOf]; omega
        · have hr := hno.out (fun m' hm' => hall.out m' (by omega))
          subst hr
          clear hyes hall
          go_wp2
          go_ret
          exact ⟨rfl, hb⟩
    · have g1 : (level == 1) = false := by simpa using h1
      have hre : isB H level l x y = false := by unfold isB; rw [if_neg h0, if_neg h1]
      rw [hre]
      clear hre h0 h1
      go_enter Tryz.func223, Tryz.ntmps223
      go_wp2
      go_ret
      exact ⟨rfl, hB⟩
end Go.Proofs.YtjomijnbnbideaaGreatDoor

namespace Go.Inq
open Go
section
variable {P : Program} {ops : Array Oper} {Q : Exit → Act → World → Prop}

/-- The slots that an operation looks at. -/
def readsT (ops : Array Oper) (o : Oper) : List Nat :=
  (o.op.operands.toList.filterMap fun | .tmp t => some t | _ => none) ++ (match o.guard with | some (j, _) => ((ops[j]?).bind (·.dst)).toList | none => [])

def floatB (ops : Array Oper) : Bool :=
  Region.noSelect ops && (List.range ops.size).all fun i => match ops[i]? with
    | none => true
    | some o => (o.after.all fun e => !Region.binds .any e || decide (e.on < i)) &&
      (List.range ops.size).all fun j => match ops[j]? with
        | none => true
        | some oj => match oj.dst with
          | none => true
          | some t => (i == j || o.dst != some t) && (!(readsT ops o).contains t || (decide (j < i) && waitsT .any ops ops.size i j) || (decide (i < j) && waitsT .any ops ops.size j i) || i == j)

theorem floatB_after (h : floatB ops = true) {i : Nat} {o : Oper} (ho : ops[i]? = some o) : ∀ e ∈ o.after, Region.binds .any e = true → e.on < i := by
  intro e he hb
  unfold floatB at h
  rw [Bool.and_eq_true, List.all_eq_true] at h
  have h1 := h.2 i (List.mem_range.2 (Array.getElem?_eq_some_iff.1 ho).1)
  rw [ho] at h1
  dsimp only at h1
  rw [Bool.and_eq_true] at h1
  have h2 := Array.all_eq_true_iff_forall_mem.1 h1.1 e he
  rw [hb] at h2
  simpa using h2
theorem floatB_pair (h : floatB ops = true) {i j : Nat} {o oj : Oper} (ho : ops[i]? = some o) (hj : ops[j]? = some oj) {t : Nat} (ht : oj.dst = some t) :
    (i = j ∨ o.dst ≠ some t) ∧ (t ∈ readsT ops o → (j < i ∧ waitsT .any ops ops.size i j = true) ∨ (i < j ∧ waitsT .any ops ops.size j i = true) ∨ i = j) := by
  unfold floatB at h
  rw [Bool.and_eq_true, List.all_eq_true] at h
  have h1 := h.2 i (List.mem_range.2 (Array.getElem?_eq_some_iff.1 ho).1)
  rw [ho] at h1
  dsimp only at h1
  rw [Bool.and_eq_true, List.all_eq_true] at h1
  have h2 := h1.2 j (List.mem_range.2 (Array.getElem?_eq_some_iff.1 hj).1)
  rw [hj] at h2
  dsimp only at h2
  rw [ht] at h2
  dsimp only at h2
  rw [Bool.and_eq_true] at h2
  refine ⟨?_, fun hm => ?_⟩
  · have := h2.1
    rw [Bool.or_eq_true, beq_iff_eq, bne_iff_ne] at this
    exact this
  · have h3 := h2.2
    have hc : (readsT ops o).contains t = true := by simpa using hm
    rw [hc] at h3
    simp only [Bool.not_true, Bool.false_or, Bool.or_eq_true, Bool.and_eq_true, decide_eq_true_eq, beq_iff_eq] at h3
    rcases h3 with (h3 | h3) | h3
    · exact .inl h3
    · exact .inr (.inl h3)
    · exact .inr (.inr h3)

/-- The slots behind the operations of L. -/
structure Flo (ops : Array Oper) (a0 : Act) (vs : Nat → Value) (L : Nat → Bool) (a : Act) : Prop where
  defers : a.defers = a0.defers
  size : a.tmps.size = a0.tmps.size
  hit : ∀ j o t, ops[j]? = some o → o.dst = some t → L j = true → t < a0.tmps.size → a.tmps[t]? = some (vs j)
  miss : ∀ t, (∀ j o, ops[j]? = some o → o.dst = some t → L j = false) → a.tmps[t]? = a0.tmps[t]?

variable {a0 a b : Act} {vs : Nat → Value} {L L' : Nat → Bool}
theorem Flo.start (h : ∀ j, L j = false) : Flo ops a0 vs L a0 := ⟨rfl, rfl, (fun j _ _ _ _ hl => absurd hl (by rw [h j]; simp)), fun _ _ => rfl⟩
theorem put_size (a : Act) (d : Option Tmp) (v : Value) : (a.put d v).tmps.size = a.tmps.size := by
  cases d <;> simp [Act.put]
theorem put_defers (a : Act) (d : Option Tmp) (v : Value) : (a.put d v).defers = a.defers := by
  cases d <;> simp [Act.put]
theorem put_ne {d : Option Tmp} {t : Nat} (h : d ≠ some t) (a : Act) (v : Value) : (a.put d v).tmps[t]? = a.tmps[t]? := by
  cases d with
  | none => rfl
  | some d =>
    have : d ≠ t := fun e => h (by rw [e])
    simp [Act.put, Array.getElem?_setIfInBounds_ne this]
theorem put_eq {t : Nat} (a : Act) (v : Value) (h : t < a.tmps.size) : (a.put (some t) v).tmps[t]? = some v := by
  simp [Act.put, h]
theorem Flo.put (hB : floatB ops = true) {i : Nat} {o : Oper} (ho : ops[i]? = some o) (h : Flo ops a0 vs L a) (hL : ∀ j, L' j = (L j || decide (j = i))) : Flo ops a0 vs L' (a.put o.dst (vs i)) := by
  refine ⟨by rw [put_defers, h.defers], by rw [put_size, h.size], fun j oj t hj ht hl hs => ?_, fun t ht => ?_⟩
  · by_cases hji : j = i
    · subst hji
      have : oj = o := Option.some.inj (hj.symm.trans ho)
      subst this
      rw [ht, put_eq _ _ (by rw [h.size]; exact hs)]
    · have h1 : L j = true := by rw [hL] at hl; simpa [hji] using hl
      have hne : o.dst ≠ some t := by
        rcases (floatB_pair hB ho hj ht).1 with e | e
        · exact absurd e.symm hji
        · exact e
      rw [put_ne hne]
      exact h.hit j oj t hj ht h1 hs
  · have hne : o.dst ≠ some t := fun e => by
      have := ht i o ho e
      rw [hL] at this
      simp at this
    rw [put_ne hne]
    refine h.miss t fun j oj hj hd => ?_
    have := ht j oj hj hd
    rw [hL] at this
    rw [Bool.or_eq_false_iff] at this
    exact this.1
theorem Flo.agree (h : Flo ops a0 vs L a) (h' : Flo ops a0 vs L' b) {t : Nat} (ht : ∀ j o, ops[j]? = some o → o.dst = some t → L j = L' j) : a.tmps[t]? = b.tmps[t]? := by
  by_cases hs : t < a0.tmps.size
  · by_cases hx : ∃ j o, ops[j]? = some o ∧ o.dst = some t ∧ L j = true
    · obtain ⟨j, o, hj, hd, hl⟩ := hx
      rw [h.hit j o t hj hd hl hs, h'.hit j o t hj hd (by rw [← ht j o hj hd]; exact hl) hs]
    · have hf : ∀ j o, ops[j]? = some o → o.dst = some t → L j = false := fun j o hj hd => by
        cases hl : L j with
        | false => rfl
        | true => exact absurd ⟨j, o, hj, hd, hl⟩ hx
      rw [h.miss t hf, h'.miss t fun j o hj hd => by rw [← ht j o hj hd]; exact hf j o hj hd]
  · rw [Array.getElem?_eq_none (by rw [h.size]; omega), Array.getElem?_eq_none (by rw [h'.size]; omega)]

theorem put_inj {d : Option Tmp} {u v : Value} (hs : a.tmps.size = b.tmps.size) (h : b.put d u = b.put d v) : a.put d u = a.put d v := by
  cases d with
  | none => rfl
  | some t =>
    rcases Nat.lt_or_ge t b.tmps.size with ht | ht
    · have h1 := put_eq b u ht
      rw [h, put_eq b v ht] at h1
      injection h1 with h1
      rw [h1]
    · have : ∀ x : Value, a.put (some t) x = a := fun x => by
        unfold Act.put
        dsimp only
        rw [Array.setIfInBounds_eq_of_size_le (show a.tmps.size ≤ t by rw [hs]; exact ht)]
      rw [this, this]

theorem wpOp_float {S : World → Prop} {i : Nat} {o : Oper} {w : World} {v : Value} {K : Act → World → Prop} (ho : ops[i]? = some o) (hsel : ∀ cs b, o.op ≠ .select cs b)
    (hr : ∀ t ∈ readsT ops o, a.tmps[t]? = b.tmps[t]?) (hs : a.tmps.size = b.tmps.size) (hK : ∀ w', S w' → K (a.put o.dst v) w')
    (h : wpList P ops (fun e a' w' => e = .normal ∧ a' = b.put o.dst v ∧ S w') [o] b w) : wpOp P ops Q i K a w := by
  have hw : Region.wanted o (yielded ops a.tmps) = Region.wanted o (yielded ops b.tmps) := by
    unfold Region.wanted
    cases hg : o.guard with
    | none => rfl
    | some g =>
      obtain ⟨j, x⟩ := g
      dsimp only
      have : yielded ops a.tmps j = yielded ops b.tmps j := by
        unfold yielded
        cases hd : (ops[j]?).bind (·.dst) with
        | none => rfl
        | some t =>
          have hm : t ∈ readsT ops o := by
            unfold readsT
            rw [hg]
            refine List.mem_append.2 (.inr ?_)
            show t ∈ ((ops[j]?).bind (·.dst)).toList
            rw [hd]
            simp
          simp only [Option.bind_some]
          rw [hr t hm]
      rw [this]
  have he : execOp a.eval o = execOp b.eval o := by
    refine execOp_congr o hsel fun x hx => ?_
    cases x with
    | tmp t =>
      have hm : t ∈ readsT ops o := by
        unfold readsT
        refine List.mem_append.2 (.inl ?_)
        rw [List.mem_filterMap]
        exact ⟨.tmp t, by simpa using hx, rfl⟩
      have := hr t hm
      simp only [Act.eval, Array.getD_eq_getD_getElem?, this]
    | _ => rfl
  unfold wpOp
  rw [ho]
  dsimp only
  unfold wpList at h
  rw [hw]
  by_cases hwd : Region.wanted o (yielded ops b.tmps) = true
  · rw [if_pos hwd] at h ⊢
    left
    rcases h with h | ⟨_, _, _, h, _⟩
    · unfold Oper.wp at *
      rw [he]
      generalize (execOp b.eval o).run P w = r at h
      have key : ∀ u w', wpList P ops (fun e a' w' => e = .normal ∧ a' = b.put o.dst v ∧ S w') [] (b.put o.dst u) w' → K (a.put o.dst u) w' := fun u w' h => by
        unfold wpList at h
        rw [put_inj hs h.2.1]
        exact hK w' h.2.2
      cases r with
      | halt x w' =>
        cases x <;> simp only [Oper.upon] at h ⊢
        exact absurd h.1 (by simp)
      | ok n w' =>
        cases n with
        | value u => exact key u w' h
        | skip => exact key undef w' h
        | defer d =>
          simp only [Oper.upon] at h
          unfold wpList at h
          have h1 := congrArg Act.defers h.2.1
          rw [put_defers, put_defers] at h1
          exact absurd (congrArg List.length h1) (by simp)
        | enter f args =>
          simp only [Oper.upon] at h ⊢
          refine Calls.mono h fun e w'' he => ?_
          cases e with
          | returned u => exact key u w'' he
          | panicked c => exact absurd he.1 (by simp)
          | outgrown =>
            obtain ⟨_, _, h1, _⟩ := he
            cases h1
        | row r args =>
          simp only [Oper.upon] at h ⊢
          exact Rows.mono h fun u w'' he => key u w'' he
        | _ => simp only [Oper.upon] at h
    · cases h
  · rw [if_neg hwd] at h ⊢
    unfold wpList at h
    rw [put_inj hs h.2.1]
    exact hK w h.2.2

/-- How many below n are not of f. -/
def lacks : Nat → (Nat → Bool) → Nat
  | 0, _ => 0
  | n + 1, f => lacks n f + if f n then 0 else 1
theorem lacks_all (f : Nat → Bool) : ∀ n, lacks n f = 0 → ∀ i, i < n → f i = true
  | 0, _, i, hi => absurd hi (by omega)
  | n + 1, h, i, hi => by
    unfold lacks at h
    by_cases hn : f n = true
    · by_cases hin : i = n
      · rw [hin]; exact hn
      · exact lacks_all f n (by omega) i (by omega)
    · rw [if_neg hn] at h; omega
theorem lacks_same {f g : Nat → Bool} : ∀ n, (∀ j, j < n → f j = g j) → lacks n f = lacks n g
  | 0, _ => rfl
  | n + 1, h => by unfold lacks; rw [lacks_same n (fun j hj => h j (by omega)), h n (by omega)]
theorem lacks_one {f g : Nat → Bool} {i : Nat} (hf : f i = false) (hg : ∀ j, g j = (f j || decide (j = i))) : ∀ n, i < n → lacks n f = lacks n g + 1
  | 0, h => absurd h (by omega)
  | n + 1, h => by
    unfold lacks
    by_cases hin : i = n
    · subst hin
      have h1 : lacks i f = lacks i g := lacks_same i fun j hj => by rw [hg j]; simp; intro; omega
      rw [h1, hf, hg i]
      simp
    · have h1 := lacks_one hf hg n (by omega)
      have h2 : g n = f n := by rw [hg n]; simp; intro; omega
      rw [h1, h2]
      omega
theorem lacks_none : ∀ n, lacks n (fun _ => false) = n
  | 0 => rfl
  | n + 1 => by unfold lacks; rw [lacks_none n]; rfl

theorem wpAny_float {S : World → Prop} (hB : floatB ops = true) {ac : Nat → Act} (hac : ∀ i, Flo ops a0 vs (fun j => decide (j < i)) (ac i))
    (hstep : ∀ i o, ops[i]? = some o → ∀ w, S w → wpList P ops (fun e a' w' => e = .normal ∧ a' = (ac i).put o.dst (vs i) ∧ S w') [o] (ac i) w)
    (hend : ∀ w, S w → Q .normal (ac ops.size) w) :
    ∀ (fuel : Nat) (listed : Array Bool) (a : Act) (w : World), Closed .any ops listed → listed.size = ops.size → lacks ops.size (fun j => listed.getD j false) = fuel → Flo ops a0 vs (fun j => listed.getD j false) a → S w → wpAny P .any ops Q fuel listed a w := by
  have hnone : ∀ (listed : Array Bool), listed.size = ops.size → Region.ready .any ops listed = [] → ∀ i, i < ops.size → listed.getD i false = true := by
    intro listed hsz hr i
    induction i using Nat.strongRecOn with
    | _ i ih =>
      intro hi
      cases hl : listed.getD i false with
      | true => rfl
      | false =>
        exfalso
        have ho : ops[i]? = some ops[i] := Array.getElem?_eq_getElem hi
        have hm : i ∈ Region.ready .any ops listed := by
          rw [mem_ready]
          refine ⟨?_, ops[i], ho, fun e he hb => ?_⟩
          · have hi2 : i < listed.size := by omega
            simp only [Array.getD_eq_getD_getElem?, Array.getElem?_eq_getElem hi2, Option.getD_some] at hl ⊢
            exact hl
          · have h1 := floatB_after hB ho e he hb
            exact ih e.on h1 (by omega)
        rw [hr] at hm
        cases hm
  have hfin : ∀ (listed : Array Bool) (a : Act) (w : World), (∀ i, i < ops.size → listed.getD i false = true) → Flo ops a0 vs (fun j => listed.getD j false) a → S w → Q .normal a w := by
    intro listed a w hall hf hS
    have : a = ac ops.size := by
      have h1 : a.tmps = (ac ops.size).tmps := by
        refine Array.ext_getElem? fun t => ?_
        refine hf.agree (hac ops.size) fun j o hj _ => ?_
        have hjs := (Array.getElem?_eq_some_iff.1 hj).1
        rw [hall j hjs]
        simp [hjs]
      have h2 : a.defers = (ac ops.size).defers := by rw [hf.defers, (hac ops.size).defers]
      cases a
      cases hx : ac ops.size
      rw [hx] at h1 h2
      simp only at h1 h2
      rw [h1, h2]
    rw [this]
    exact hend w hS
  intro fuel
  induction fuel with
  | zero =>
    intro listed a w hcl hsz hlk hf hS
    have hall := lacks_all _ _ hlk
    refine ⟨?_, hfin listed a w hall hf hS⟩
    rw [List.eq_nil_iff_forall_not_mem]
    intro i hi
    obtain ⟨h1, o, ho, _⟩ := mem_ready.1 hi
    have his := (Array.getElem?_eq_some_iff.1 ho).1
    have h2 := hall i his
    have hi2 : i < listed.size := by omega
    simp only [Array.getD_eq_getD_getElem?, Array.getElem?_eq_getElem hi2, Option.getD_some] at h1 h2
    rw [h1] at h2
    cases h2
  | succ fuel ih =>
    intro listed a w hcl hsz hlk hf hS
    refine ⟨fun hr => hfin listed a w (hnone listed hsz hr) hf hS, fun i hi => ?_⟩
    obtain ⟨h1, o, ho, hall⟩ := mem_ready.1 hi
    have his := (Array.getElem?_eq_some_iff.1 ho).1
    have hi2 : i < listed.size := by omega
    have hun : listed.getD i false = false := by
      simp only [Array.getD_eq_getD_getElem?, Array.getElem?_eq_getElem hi2, Option.getD_some] at h1 ⊢
      exact h1
    have hset : ∀ j, (listed.setIfInBounds i true).getD j false = (listed.getD j false || decide (j = i)) := fun j => by
      by_cases hji : j = i
      · subst hji
        simp [Array.getD_eq_getD_getElem?, hi2]
      · rw [getD_set_ne false (Ne.symm hji)]
        simp [hji]
    have hsel := fun cs b => Region.noSelect_spec (ops := ops) (by unfold floatB at hB; rw [Bool.and_eq_true] at hB; exact hB.1) i o cs b ho
    refine wpOp_float (S := S) (b := ac i) (v := vs i) ho hsel (fun t ht => ?_) (by rw [hf.size, (hac i).size]) (fun w' hS' => ?_) (hstep i o ho w hS)
    · refine hf.agree (hac i) fun j oj hj hd => ?_
      rcases (floatB_pair hB ho hj hd).2 ht with ⟨h2, h3⟩ | ⟨h2, h3⟩ | h2
      · rw [hcl.ready h3 hi]
        simp [h2]
      · have h4 : decide (j < i) = false := by simp; omega
        rw [h4]
        cases hlj : listed.getD j false with
        | false => rfl
        | true =>
          have := hcl.waits _ _ _ h3 hlj
          rw [hun] at this
          cases this
      · subst h2
        rw [hun]
        simp
    · refine ih (listed.setIfInBounds i true) _ w' (hcl.set_ hi) (by rw [Array.size_setIfInBounds]; exact hsz) ?_ (hf.put hB ho hset) hS'
      have := lacks_one (f := fun j => listed.getD j false) (g := fun j => (listed.setIfInBounds i true).getD j false) hun hset ops.size his
      omega

/-- The row, walked in its own order: each operation in any world of S. -/
def wpFloat (P : Program) (ops : Array Oper) (S : World → Prop) (K : Act → Prop) : List Oper → Act → Prop
  | [], a => K a
  | o :: os, a => ∃ v, (∀ w, S w → wpList P ops (fun e a' w' => e = .normal ∧ a' = a.put o.dst v ∧ S w') [o] a w) ∧ wpFloat P ops S K os (a.put o.dst v)

theorem float_open {S : World → Prop} {K : Act → Prop} : ∀ (os : List Oper) (a : Act), wpFloat P ops S K os a → ∃ (vs : Nat → Value) (ac : Nat → Act), ac 0 = a ∧
    (∀ i o, os[i]? = some o → (∀ w, S w → wpList P ops (fun e a' w' => e = .normal ∧ a' = (ac i).put o.dst (vs i) ∧ S w') [o] (ac i) w) ∧ ac (i + 1) = (ac i).put o.dst (vs i)) ∧ (∀ i, os.length ≤ i → ac i = ac os.length) ∧ K (ac os.length)
  | [], a, h => ⟨fun _ => undef, fun _ => a, rfl, fun i o h => by simp at h, fun _ _ => rfl, h⟩
  | o :: os, a, h => by
    obtain ⟨v, h1, h2⟩ := h
    obtain ⟨vs, ac, e0, hs, hl, hk⟩ := float_open os _ h2
    refine ⟨fun i => match i with | 0 => v | i + 1 => vs i, fun i => match i with | 0 => a | i + 1 => ac i, rfl, fun i o' ho => ?_, fun i hi => ?_, hk⟩
    · cases i with
      | zero =>
        simp only [List.getElem?_cons_zero, Option.some.injEq] at ho
        subst ho
        exact ⟨h1, e0⟩
      | succ i => exact hs i o' (by simpa using ho)
    · cases i with
      | zero => simp at hi
      | succ i => exact hl i (by simpa using hi)

/-- A REGION THAT DRAWS ITS ORDER, WHERE EVERY OPERATION FLOATS IN S. -/
theorem wp_region_float {id : Nat} {w : World} {l : List Oper} (S : World → Prop) (hm : P.follows .mixedOrders = true) (hB : floatB l.toArray = true) (hS : S w.drew)
    (h : wpFloat P l.toArray S (fun a' => ∀ w', S w' → Q .normal a' w') l a) : (Code.region id l.toArray true).wp P Q a w := by
  obtain ⟨vs, ac, e0, hs, hl, hk⟩ := float_open _ _ h
  have hsz : l.toArray.size = l.length := by simp
  have hget : ∀ i : Nat, l.toArray[i]? = l[i]? := fun i => List.getElem?_toArray ..
  have hac : ∀ i, Flo l.toArray a vs (fun j => decide (j < i)) (ac i) := by
    intro i
    induction i with
    | zero => rw [e0]; exact Flo.start fun j => by simp
    | succ i ih =>
      cases hx : l[i]? with
      | none =>
        have hle : l.length ≤ i := by
          rcases Nat.lt_or_ge i l.length with h1 | h1
          · rw [List.getElem?_eq_getElem h1] at hx; cases hx
          · exact h1
        rw [hl (i + 1) (by omega), ← hl i hle]
        refine ⟨ih.defers, ih.size, fun j o t hj hd hlt hs => ih.hit j o t hj hd ?_ hs, fun t ht => ih.miss t fun j o hj hd => ?_⟩
        · have := (Array.getElem?_eq_some_iff.1 hj).1
          simp at this ⊢
          omega
        · have := ht j o hj hd
          simp at this ⊢
          omega
      | some o =>
        rw [(hs i o hx).2]
        refine ih.put hB (by rw [hget]; exact hx) fun j => ?_
        rw [Bool.eq_iff_iff]
        simp
        omega
  refine wp_region_any hm ?_
  refine wpAny_float (S := S) hB hac (fun i o ho => (hs i o (by rw [← hget]; exact ho)).1) (fun w hw => by rw [hsz]; exact hk w hw) _ _ a _ (Closed.start _ _ _) (by simp) ?_ (Flo.start fun j => getD_replicate_false _ _) hS
  have : (fun j => (Array.replicate l.toArray.size false).getD j false) = fun _ => false := funext fun j => getD_replicate_false _ _
  rw [this, lacks_none]
end
end Go.Inq

namespace Go.Proofs.YtjomijnbnbideaaGreatDoor
open Go.RowKit Go.Inq
set_option maxHeartbeats 8000000
attribute [local go_sem ↓] Go.wp_at_zero Go.wp_at_succ

/-- What is asked at a place of a cycle. -/
def ringA (H : List Txn) (level : Int) (l : List Cho) (row : List Int) (i : Nat) : Bool := !(row.take i).contains (row.getD i 0) && isB H level l (row.getD i 0) (row.getD ((i + 1) % row.length) 0)
theorem ring_no {H : List Txn} {level : Int} {l : List Cho} {row : List Int} {i : Nat} (hi : i < row.length) (h : ringA H level l row i = false) : ringB H level l row = false := by
  unfold ringB
  rw [Bool.and_eq_false_iff]
  right
  rw [List.all_eq_false]
  exact ⟨i, List.mem_range.2 hi, by unfold ringA at h; rw [h]; decide⟩
theorem ring_yes {H : List Txn} {level : Int} {l : List Cho} {row : List Int} (h : ∀ i, i < row.length → ringA H level l row i = true) : ringB H level l row = decide (0 < row.length) := by
  unfold ringB
  rw [show ((List.range row.length).all fun i => !(row.take i).contains (row.getD i 0) && isB H level l (row.getD i 0) (row.getD ((i + 1) % row.length) 0)) = true from List.all_eq_true.2 fun i hi => h i (List.mem_range.1 hi), Bool.and_true]
set_option maxRecDepth 100000 in
theorem ring19_any (A : Option Addr) (c : Nat) (H : List Txn) (level : Int) (Al : Option Addr) (cl : Nat) (l : List Cho) (Ar : Option Addr) (cr : Nat) (row : List Int) (w : World) (h : TxnS w (Old w) (.slice A H.length c) H) (hn : SmallH H) (hl : ChoS w (Old w) (.slice Al l.length cl) l) (hln : l.length ≤ 1000000000) (hr : IntS w (Old w) (.slice Ar row.length cr) row) (hrl : row.length ≤ 1000000000) :
    Calls Tryz.prog 193 #[.agg #[.slice A H.length c], .int .i64 level, .slice Al l.length cl, .slice Ar row.length cr] w fun e w' => e = .returned (.bool (ringB H level l row)) ∧ Below w.heap.size w w' := by
  obtain ⟨W0, hW0⟩ : ∃ W0, w.alloc (.cells #[.slice A H.length c] 24) = W0 := ⟨_, rfl⟩
  have hB := below_allocEq (Below.refl w.heap.size w) hW0 (Nat.le_refl _)
  have k0 := Blk.newEq hW0
  have his := hide (fun (a b : Int) W (hb : Below w.heap.size w W) => is19_any A c H level Al cl l a b W (h.below hb) hn (hl.below hb) hln)
  have hrw := hide (fun W (hb : Below w.heap.size w W) => hr.below hb)
  have hno := hide (fun i (hi : i < row.length) => ring_no (H := H) (level := level) (l := l) hi)
  have hyes := hide (ring_yes (H := H) (level := level) (l := l) (row := row))
  generalize ringB H level l row = r at *
  clear h hl hr
  go_enter Tryz.func193, Tryz.ntmps193
  go_wp2_with fail
  clear hW0
  go_loopw [13] (fun s13 wr => ∃ i : Nat, i ≤ row.length ∧ s13 = .int .i64 i ∧ Hid (∀ j, j < i → ringA H level l row j = true) ∧ Below w.heap.size w wr ∧ Blk wr w.heap.size 24 #[.slice A H.length c]) (fun s13 _ => row.length - (intOf s13).toNat)
  case atStart => exact ⟨0, Nat.zero_le _, by go_num, hide (fun j hj => absurd hj (by omega)), hB, k0⟩
  case round =>
    clear k0 hB
    obtain ⟨Wo, rfl⟩ : ∃ Wo, Wo = wr := ⟨_, rfl⟩
    obtain ⟨i, hi, rfl, hall, hb, k0⟩ := hrel
    have hi0 : (0 : Int) ≤ (i : Int) := Int.natCast_nonneg _
    by_cases hlt : i < row.length
    · have hi1 : (i : Int) < (row.length : Int) := by omega
      have hi2 : (i : Int) ≤ (row.length : Int) := by omega
      have hI := hrw.out Wo hb
      have hlc : row.length ≤ cr := by
        obtain ⟨_, _, e, h⟩ := SlR.len hI
        simp only [Value.slice.injEq] at e
        omega
      have hic : (i : Int) ≤ (cr : Int) := by omega
      obtain ⟨br, orr, rfl, -, x0⟩ := hI.at_ hlt
      have hj : (i + 1) % row.length < row.length := Nat.mod_lt _ (by omega)
      have hnx := hide (fun (g : ringA H level l row i = true) => (fun j (hj : j < i + 1) => (by
        by_cases e : j = i
        · subst e; exact g
        · exact hall.out j (by omega) : ringA H level l row j = true)))
      have hn2 := hide (hno.out i hlt)
      have hrA : Hid (ringA H level l row i = (!(row.take i).contains row[i] && isB H level l row[i] row[(i + 1) % row.length])) := hide (by
        unfold ringA
        rw [List.getD_eq_getElem?_getD, List.getElem?_eq_getElem hlt, Option.getD_some, List.getD_eq_getElem?_getD, List.getElem?_eq_getElem hj, Option.getD_some])
      have hcc := hide (fun W (hb : Below Wo.heap.size Wo W) => contains_int (some ⟨br, orr, none⟩) cr (row.take i) row[i] (Old W) W (by rw [show (row.take i).length = i by rw [List.length_take]; omega]; exact (hI.below hb).take (by omega)) (by rw [List.length_take]; unfold maxLen; omega))
      have htl : Hid ((row.take i).length = i) := hide (by rw [List.length_take]; omega)
      have hxj : Hid (∀ W, Below Wo.heap.size Wo W → W.cell? ⟨br, orr + (i + 1) % row.length, none⟩ = some (.int .i64 row[(i + 1) % row.length])) := hide (fun W hbW => ((hI.below hbW).cells hj).2)
      have hii := hide (fun W (hbW : Below Wo.heap.size Wo W) => his.out row[i] row[(i + 1) % row.length] W (hb.trans (hbW.mono hb.size)))
      have hch : Hid (∀ W, Below Wo.heap.size Wo W → W.cell? ⟨w.heap.size, 0, none⟩ = some (.slice A H.length c)) := hide (fun W hbW => by have := (k0.below hbW k0.lt).cell 0; simpa using this)
      rw [htl.out] at hcc
      generalize isB H level l row[i] row[(i + 1) % row.length] = q2 at *
      generalize (row.take i).contains row[i] = q1 at *
      generalize row[(i + 1) % row.length] = xj at *
      generalize row[i] = xi at *
      have hm : Hid (((i : Int) + 1).tmod (row.length : Int) = (((i + 1) % row.length : Nat) : Int)) := hide (by rw [show (i : Int) + 1 = ((i + 1 : Nat) : Int) by omega]; rfl)
      generalize hmm : (i + 1) % row.length = mi at *
      replace hmm := hide hmm
      have hmi : (mi : Int) < (row.length : Int) := by omega
      have hmi0 : (0 : Int) ≤ (mi : Int) := Int.natCast_nonneg _
      have hz0 : ((row.length : Int) == 0) = false := by rw [beq_eq_false_iff_ne]; omega
      have hz1 : (row.length == 0) = false := by rw [beq_eq_false_iff_ne]; omega
      have hnil : Hid (row ≠ []) := hide (fun e => by rw [e] at hlt; simp at hlt)
      go_upto_region 4 with fail
      cases q1 with
      | true =>
        have hr2 := hn2.out (by rw [hrA.out]; rfl)
        subst hr2
        clear hn2 hrA hnx hyes hno
        refine wp_region_float (fun W => Below Wo.heap.size Wo W) (by kernel_rfl) (by kernel_rfl) (Below.refl _ _).drew ?_
        refine ⟨.slice (some ⟨br, orr, none⟩) row.length cr, fun W hW => (by go_wp2), ?_⟩
        refine ⟨.int .i64 (i : Int), fun W hW => (by go_wp2), ?_⟩
        refine ⟨.slice (some ⟨br, orr, none⟩) i cr, fun W hW => (by go_wp2), ?_⟩
        refine ⟨.int .i64 xi, fun W hW => (by go_wp2), ?_⟩
        refine ⟨.bool true, fun W hW => (by
          go_wp2_with fail
          refine (hcc.out W hW).mono ?_
          rintro e w' ⟨rfl, rfl⟩
          go_wp2), ?_⟩
        refine ⟨.bool true, fun W hW => (by go_wp2), ?_⟩
        refine ⟨undef, fun W hW => (by go_wp2), ?_⟩
        refine ⟨undef, fun W hW => (by go_wp2), ?_⟩
        refine ⟨undef, fun W hW => (by go_wp2), ?_⟩
        refine ⟨undef, fun W hW => (by go_wp2), ?_⟩
        refine ⟨undef, fun W hW => (by go_wp2), ?_⟩
        refine ⟨undef, fun W hW => (by go_wp2), ?_⟩
        refine ⟨undef, fun W hW => (by go_wp2), ?_⟩
        refine ⟨undef, fun W hW => (by go_wp2), ?_⟩
        refine ⟨undef, fun W hW => (by go_wp2), ?_⟩
        refine ⟨undef, fun W hW => (by go_wp2), ?_⟩
        refine ⟨undef, fun W hW => (by go_wp2), ?_⟩
        refine ⟨undef, fun W hW => (by go_wp2), ?_⟩
        refine ⟨undef, fun W hW => (by go_wp2), ?_⟩
        refine ⟨undef, fun W hW => (by go_wp2), ?_⟩
        refine ⟨.bool true, fun W hW => (by go_wp2), ?_⟩
        intro W5 hW5
        simp only [Act.put, List.setIfInBounds_toArray, List.set_cons_zero, List.set_cons_succ]
        have hb5 := hb.trans (hW5.mono hb.size)
        go_wp2
        go_ret
        exact ⟨rfl, hb5⟩
      | false =>
        refine wp_region_float (fun W => Below Wo.heap.size Wo W) (by kernel_rfl) (by kernel_rfl) (Below.refl _ _).drew ?_
        refine ⟨.slice (some ⟨br, orr, none⟩) row.length cr, fun W hW => (by go_wp2), ?_⟩
        refine ⟨.int .i64 (i : Int), fun W hW => (by go_wp2), ?_⟩
        refine ⟨.slice (some ⟨br, orr, none⟩) i cr, fun W hW => (by go_wp2), ?_⟩
        refine ⟨.int .i64 xi, fun W hW => (by go_wp2), ?_⟩
        refine ⟨.bool false, fun W hW => (by
          go_wp2_with fail
          refine (hcc.out W hW).mono ?_
          rintro e w' ⟨rfl, rfl⟩
          go_wp2), ?_⟩
        refine ⟨.bool false, fun W hW => (by go_wp2), ?_⟩
        refine ⟨.agg #[.slice A H.length c], fun W hW => (by have v0 := hch.out W hW; go_wp2), ?_⟩
        refine ⟨.int .i64 level, fun W hW => (by go_wp2), ?_⟩
        refine ⟨.slice Al l.length cl, fun W hW => (by go_wp2), ?_⟩
        refine ⟨.int .i64 xi, fun W hW => (by go_wp2), ?_⟩
        refine ⟨.slice (some ⟨br, orr, none⟩) row.length cr, fun W hW => (by go_wp2), ?_⟩
        refine ⟨.int .i64 (i : Int), fun W hW => (by go_wp2), ?_⟩
        refine ⟨.int .i64 ((i : Int) + 1), fun W hW => (by go_wp2), ?_⟩
        refine ⟨.slice (some ⟨br, orr, none⟩) row.length cr, fun W hW => (by go_wp2), ?_⟩
        refine ⟨.int .i64 (row.length : Int), fun W hW => (by go_wp2), ?_⟩
        refine ⟨.int .i64 (mi : Int), fun W hW => (by have hm2 := hm.out; go_wp2; try exact hnil.out (by assumption)), ?_⟩
        refine ⟨.pointer (some ⟨br, orr + mi, none⟩), fun W hW => (by go_wp2), ?_⟩
        refine ⟨.int .i64 xj, fun W hW => (by have v0 := hxj.out W hW; go_wp2), ?_⟩
        refine ⟨.bool q2, fun W hW => (by
          go_wp2_with fail
          refine (hii.out W hW).mono ?_
          rintro e w' ⟨rfl, hb'⟩
          replace hW := hW.trans (hb'.mono hW.size)
          go_wp2), ?_⟩
        refine ⟨.bool (!q2), fun W hW => (by go_wp2), ?_⟩
        refine ⟨.bool (!q2), fun W hW => (by go_wp2), ?_⟩
        intro W5 hW5
        simp only [Act.put, List.setIfInBounds_toArray, List.set_cons_zero, List.set_cons_succ]
        have hb5 := hb.trans (hW5.mono hb.size)
        have k5 := k0.below hW5 k0.lt
        cases q2 with
        | true =>
          have hn3 := hide (hnx.out (by rw [hrA.out]; rfl))
          clear hnx hn2 hrA
          go_wp2
          go_roundw
          case rel => exact ⟨i + 1, by omega, by go_num, hn3, hb5, k5⟩
          case measure => simp [intOf]; omega
        | false =>
          have hr2 := hn2.out (by rw [hrA.out]; rfl)
          subst hr2
          clear hn2 hrA hnx hyes hno
          go_wp2
          go_ret
          exact ⟨rfl, hb5⟩
    · obtain rfl : i = row.length := by omega
      have hr2 := hyes.out hall.out
      obtain ⟨q, hq⟩ : ∃ q, decide (0 < row.length) = q := ⟨_, rfl⟩
      have hq2 : decide ((row.length : Int) > 0) = q := by rw [← hq]; simp
      rw [hq] at hr2
      subst hr2
      clear hyes hno hall
      go_wp2
      go_ret
      exact ⟨rfl, hb⟩
end Go.Proofs.YtjomijnbnbideaaGreatDoor

namespace Go.Inq

/-- A fact: a choice that must be so, and why. -/
structure Fct where
  c : Cho
  kind : Int
  i : Int
  j : Int
  cyc : List Int
deriving DecidableEq
def joinB (L : List Fct) (f : Fct) : Bool :=
  decide (0 ≤ f.i) && decide (f.i < (L.length : Int)) && decide (0 ≤ f.j) && decide (f.j < (L.length : Int)) &&
    match L[f.i.toNat]?, L[f.j.toNat]? with
    | some x, some y => decide (x.c.b = y.c.a) && decide (x.c.key = y.c.key) && decide (f.c = ⟨x.c.key, x.c.a, y.c.b⟩)
    | _, _ => false
def seenF (H : List Txn) (f : Fct) : Bool :=
  decide (f.j = 0) && decide (f.i ≠ f.c.a) && decide (0 ≤ f.i) && decide (f.i < (H.length : Int)) &&
    ((txnAt H f.i.toNat).reads.any fun x => decide (x.a = f.c.key) && decide (x.b = f.c.b)) && directB H [] f.c.a f.i
def axB (H : List Txn) (f : Fct) : Bool := decide (f.i = 0) && decide (f.j = 0) && directB H [] f.c.a f.c.b
def forcB (H : List Txn) (level : Int) (L : List Fct) (f : Fct) : Bool := decide (f.i = 0) && decide (f.j = 0) && ringB H level (L.map (·.c) ++ [turnB f.c]) f.cyc
/-- Why a fact holds. -/
def whyB (H : List Txn) (level : Int) (L : List Fct) (f : Fct) : Bool :=
  if f.kind = 1 then axB H f else if f.kind = 2 then joinB L f else if f.kind = 3 then seenF H f else if f.kind = 4 then forcB H level L f else false
def mayB (H : List Txn) (level : Int) : Bool := rightH H && (decide (level = 0) || decide (level = 1))
/-- Does a fact follow from others? -/
def holdsB (H : List Txn) (level : Int) (L : List Fct) (f : Fct) : Bool :=
  mayB H level && oneB H f.c && (decide (f.kind = 4) || decide (f.cyc = [])) && whyB H level L f
end Go.Inq
