/-
  Walks: layer 19: whether there is an edge of some kind; whether some transactions are a cycle.
-/
import Derived.Test.YtjomijnbnbideaaGreatDoorM11
import Derived.Test.YtjomijnbnbideaaGreatDoorM08
import Derived.Test.YtjomijnbnbideaaGreatDoorM02
set_option linter.unusedVariables false
set_option linter.unusedSimpArgs false
namespace Go.Proofs.YtjomijnbnbideaaGreatDoor
open Go.RowKit Go.Inq
set_option maxHeartbeats 8000000
attribute [local go_sem ↓] Go.wp_at_zero Go.wp_at_succ

set_option maxRecDepth 100000 in
theorem some19_any (A : Option Addr) (c : Nat) (H : List Txn) (x y : Int) (Ak : Option Addr) (ck : Nat) (vs : List (Value × Bool)) (w : World) (h : TxnS w (Old w) (.slice A H.length c) H) (hn : SmallH H) (hk : KndS w (Old w) (.slice Ak vs.length ck) vs) (hkn : vs.length ≤ 1000)
    (hp : twoB H x y = true → ∀ W (bh bx by' : Nat), Below w.heap.size w W → W.cell? ⟨bh, 0, none⟩ = some (.slice A H.length c) → W.cell? ⟨bx, 0, none⟩ = some (.int .i64 x) → W.cell? ⟨by', 0, none⟩ = some (.int .i64 y) → ∀ v ∈ vs, Calls Tryz.prog 242 #[v.1, .pointer (some ⟨bh, 0, none⟩), .pointer (some ⟨bx, 0, none⟩), .pointer (some ⟨by', 0, none⟩)] W fun e W' => e = .returned (.bool v.2) ∧ Below W.heap.size W W') :
    Calls Tryz.prog 222 #[.agg #[.slice A H.length c], .int .i64 x, .int .i64 y, .slice Ak vs.length ck] w fun e w' => e = .returned (.bool (twoB H x y && vs.any (·.2))) ∧ Below w.heap.size w w' := by
  obtain ⟨W0, hW0⟩ : ∃ W0, ((w.alloc (.cells #[.slice A H.length c] 24)).alloc (.cells #[.int .i64 x] 3)).alloc (.cells #[.int .i64 y] 3) = W0 := ⟨_, rfl⟩
  have hB := below_three hW0
  have k0 := Blk.three1 hW0
  have k1 := Blk.three2 hW0
  have k2 := Blk.three3 hW0
  have hrc := hide (right8_any A c H W0 (h.below hB) hn)
  have c0 := Blk.n0 k0
  have hko := hide (fun W (hb : Below w.heap.size w W) => hk.below hb)
  have htw : Hid (twoB H x y = (rightH H && decide (0 ≤ x) && decide (x < (H.length : Int)) && decide (0 ≤ y) && decide (y < (H.length : Int)))) := hide rfl
  obtain ⟨r, hr⟩ : ∃ r, twoB H x y = r := ⟨_, rfl⟩
  rw [hr] at htw hp
  rw [hr]
  obtain ⟨q, hq⟩ : ∃ q, rightH H = q := ⟨_, rfl⟩
  rw [hq] at htw hrc
  replace hp := hide hp
  replace hn := hide hn
  obtain ⟨z, hz⟩ : ∃ z, vs.any (·.2) = z := ⟨_, rfl⟩
  rw [hz]
  replace hz := hide hz
  clear h hk hr hq
  go_enter Tryz.func222, Tryz.ntmps222
  go_wp2_with fail
  refine hrc.out.mono ?_
  rintro e w1 ⟨rfl, hb1⟩
  replace k0 := k0.below hb1 k0.lt
  replace k1 := k1.below hb1 k1.lt
  replace k2 := k2.below hb1 k2.lt
  have hb2 := hB.trans (hb1.mono hB.size)
  clear hW0 hrc c0
  have c0 := Blk.n0 k0
  have c1 := Blk.n0 k1
  have c2 := Blk.n0 k2
  cases q with
  | false =>
    have hre : r = false := by rw [htw.out]; rfl
    subst hre
    clear htw hp
    go_wp2
    go_ret
    exact ⟨rfl, hb2⟩
  | true =>
    by_cases h1 : x < 0 ∨ y < 0
    · have hre : r = false := by
        rw [htw.out]
        rcases h1 with g | g
        · rw [decide_eq_false (show ¬ 0 ≤ x by omega)]; simp
        · rw [decide_eq_false (show ¬ 0 ≤ y by omega)]; simp
      subst hre
      have g1 : decide (min x y < 0) = true := by simp; omega
      clear htw hp h1
      go_wp2
      go_ret
      exact ⟨rfl, hb2⟩
    · have g1 : decide (min x y < 0) = false := by simp; omega
      by_cases h2 : (H.length : Int) ≤ x ∨ (H.length : Int) ≤ y
      · have hre : r = false := by
          rw [htw.out]
          rcases h2 with g | g
          · rw [decide_eq_false (show ¬ x < (H.length : Int) by omega)]; simp
          · rw [decide_eq_false (show ¬ y < (H.length : Int) by omega)]; simp
        subst hre
        have g2 : decide (max x y ≥ (H.length : Int)) = true := by simp; omega
        have g3 : decide ((H.length : Int) ≤ max x y) = true := by simp; omega
        clear htw hp h1 h2
        go_wp2
        go_ret
        exact ⟨rfl, hb2⟩
      · have hre : r = true := by
          rw [htw.out, decide_eq_true (show 0 ≤ x by omega), decide_eq_true (show 0 ≤ y by omega), decide_eq_true (show x < (H.length : Int) by omega), decide_eq_true (show y < (H.length : Int) by omega)]
          rfl
        subst hre
        have g2 : decide (max x y ≥ (H.length : Int)) = false := by simp; omega
        have g3 : decide ((H.length : Int) ≤ max x y) = false := by simp; omega
        have hc := hide (containsKd_any 242 (enters_of Tryz.func242 (by kernel_rfl) rfl) #[.pointer (some ⟨w.heap.size, 0, none⟩), .pointer (some ⟨w.heap.size + 1, 0, none⟩), .pointer (some ⟨w.heap.size + 1 + 1, 0, none⟩)] (·.2) Ak ck vs w1 (hko.out w1 hb2) (by omega) (fun W hbW v hv => hp.out (by simp) W _ _ _ (hb2.trans (hbW.mono hb2.size)) (by have := (k0.below hbW k0.lt).cell 0; simpa using this) (by have := (k1.below hbW k1.lt).cell 0; simpa using this) (by have := (k2.below hbW k2.lt).cell 0; simpa using this) v hv))
        rw [hz.out] at hc
        clear htw hp h1 h2 hko hz
        go_wp2_with fail
        refine hc.out.mono ?_
        rintro e w2 ⟨rfl, hb3⟩
        go_wp2
        go_ret
        exact ⟨rfl, hb2.trans (hb3.mono hb2.size)⟩
theorem KndS.of_blk {w : World} {g : Nat} {t : TypeId} {vs : List (Value × Bool)} (h : Blk w g t (vs.map (·.1)).toArray) : KndS w (Old w) (.slice (some ⟨g, 0, none⟩) vs.length vs.length) vs := by
  refine ⟨some ⟨g, 0, none⟩, vs.length, vs.map fun x => [x.1], rfl, Nat.le_refl _, by simp, fun i cs x h1 h2 => ?_, fun _ => ⟨g, 0, rfl, h.lt, fun i j cs u h1 h2 => ?_⟩⟩
  · rw [List.getElem?_map, h2] at h1
    injection h1 with h1
    exact ⟨by rw [← h1]; rfl, h1.symm⟩
  · rw [List.getElem?_map] at h1
    cases hl : vs[i]? with
    | none => rw [hl] at h1; cases h1
    | some x =>
      rw [hl] at h1
      injection h1 with h1
      subst h1
      cases j with
      | zero =>
        injection h2 with h2
        rw [Nat.zero_add, Nat.mul_one, Nat.add_zero, h.cell, gA, List.getElem?_map, hl, ← h2]
        rfl
      | succ j => simp at h2
set_option maxRecDepth 100000 in
theorem direct19_any (A : Option Addr) (c : Nat) (H : List Txn) (Al : Option Addr) (cl : Nat) (l : List Cho) (x y : Int) (w : World) (h : TxnS w (Old w) (.slice A H.length c) H) (hn : SmallH H) (hl : ChoS w (Old w) (.slice Al l.length cl) l) (hln : l.length ≤ 1000000000) :
    Calls Tryz.prog 192 #[.agg #[.slice A H.length c], .slice Al l.length cl, .int .i64 x, .int .i64 y] w fun e w' => e = .returned (.bool (directB H l x y)) ∧ Below w.heap.size w w' := by
  obtain ⟨W0, hW0⟩ : ∃ W0, (w.alloc (.cells #[.slice A H.length c] 24)).alloc (.cells #[.iface 267 (.agg #[]), .iface 268 (.agg #[]), .iface 269 (.slice Al l.length cl)] 289) = W0 := ⟨_, rfl⟩
  have hB := below_two hW0
  have k1 := Blk.two2 hW0
  have hT := h.below hB
  have hL := hl.below hB
  have hc := hide (some19_any A c H x y (some ⟨w.heap.size + 1, 0, none⟩) 3 [(.iface 267 (.agg #[]), soE H x.toNat y.toNat), (.iface 268 (.agg #[]), redE H x.toNat y.toNat), (.iface 269 (.slice Al l.length cl), writE H l x.toNat y.toNat)] W0 hT hn (KndS.of_blk (vs := [(.iface 267 (.agg #[]), soE H x.toNat y.toNat), (.iface 268 (.agg #[]), redE H x.toNat y.toNat), (.iface 269 (.slice Al l.length cl), writE H l x.toNat y.toNat)]) k1) (by simp) (fun htw W bh bx by' hbW g1 g2 g3 v hv => by
    obtain ⟨_, a, b, rfl, rfl, ha, hb⟩ := twoB_iff.1 htw
    simp only [Int.toNat_natCast] at hv
    simp only [List.mem_cons, List.not_mem_nil, or_false] at hv
    rcases hv with rfl | rfl | rfl
    · exact someS_any A c H Al cl l a b bh bx by' W (hT.below hbW) hn (hL.below hbW) hln ha hb g1 g2 g3
    · exact someR_any A c H Al cl l a b bh bx by' W (hT.below hbW) hn (hL.below hbW) hln ha hb g1 g2 g3
    · exact someW_any A c H Al cl l a b bh bx by' W (hT.below hbW) hn (hL.below hbW) hln ha hb g1 g2 g3))
  have hre : directB H l x y = (twoB H x y && [((.iface 267 (.agg #[]) : Value), soE H x.toNat y.toNat), (.iface 268 (.agg #[]), redE H x.toNat y.toNat), (.iface 269 (.slice Al l.length cl), writE H l x.toNat y.toNat)].any (·.2)) := by
    unfold directB dirE
    simp [Bool.or_assoc]
  rw [hre]
  generalize (twoB H x y && [((.iface 267 (.agg #[]) : Value), soE H x.toNat y.toNat), (.iface 268 (.agg #[]), redE H x.toNat y.toNat), (.iface 269 (.slice Al l.length cl), writE H l x.toNat y.toNat)].any (·.2)) = q at *
  clear h hl hre hT hL
  go_enter Tryz.func192, Tryz.ntmps192
  go_wp2_with fail
  refine hc.out.mono ?_
  rintro e w1 ⟨rfl, hb1⟩
  go_wp2
  go_ret
  exact ⟨rfl, hB.trans (hb1.mono hB.size)⟩
set_option maxRecDepth 100000 in
theorem anti19_any (A : Option Addr) (c : Nat) (H : List Txn) (Al : Option Addr) (cl : Nat) (l : List Cho) (x y : Int) (w : World) (h : TxnS w (Old w) (.slice A H.length c) H) (hn : SmallH H) (hl : ChoS w (Old w) (.slice Al l.length cl) l) (hln : l.length ≤ 1000000000) :
    Calls Tryz.prog 243 #[.agg #[.slice A H.length c], .slice Al l.length cl, .int .i64 x, .int .i64 y] w fun e w' => e = .returned (.bool (antiB H l x y)) ∧ Below w.heap.size w w' := by
  obtain ⟨W0, hW0⟩ : ∃ W0, (w.alloc (.cells #[.slice A H.length c] 24)).alloc (.cells #[.iface 299 (.slice Al l.length cl)] 289) = W0 := ⟨_, rfl⟩
  have hB := below_two hW0
  have k1 := Blk.two2 hW0
  have hT := h.below hB
  have hL := hl.below hB
  have hc := hide (some19_any A c H x y (some ⟨w.heap.size + 1, 0, none⟩) 1 [(.iface 299 (.slice Al l.length cl), overE H l x.toNat y.toNat)] W0 hT hn (KndS.of_blk (vs := [(.iface 299 (.slice Al l.length cl), overE H l x.toNat y.toNat)]) k1) (by simp) (fun htw W bh bx by' hbW g1 g2 g3 v hv => by
    obtain ⟨_, a, b, rfl, rfl, ha, hb⟩ := twoB_iff.1 htw
    simp only [Int.toNat_natCast] at hv
    simp only [List.mem_cons, List.not_mem_nil, or_false] at hv
    subst hv
    exact someO_any A c H Al cl l a b bh bx by' W (hT.below hbW) hn (hL.below hbW) hln ha hb g1 g2 g3))
  have hre : antiB H l x y = (twoB H x y && [((.iface 299 (.slice Al l.length cl) : Value), overE H l x.toNat y.toNat)].any (·.2)) := by
    unfold antiB
    simp
  rw [hre]
  generalize (twoB H x y && [((.iface 299 (.slice Al l.length cl) : Value), overE H l x.toNat y.toNat)].any (·.2)) = q at *
  clear h hl hre hT hL
  go_enter Tryz.func243, Tryz.ntmps243
  go_wp2_with fail
  refine hc.out.mono ?_
  rintro e w1 ⟨rfl, hb1⟩
  go_wp2
  go_ret
  exact ⟨rfl, hB.trans (hb1.mono hB.size)⟩
end Go.Proofs.YtjomijnbnbideaaGreatDoor

namespace Go.Proofs.YtjomijnbnbideaaGreatDoor
open Go.RowKit Go.Inq
set_option maxHeartbeats 8000000
attribute [local go_sem ↓] Go.wp_at_zero Go.wp_at_succ

set_option maxRecDepth 100000 in
theorem is19_any (A : Option Addr) (c : Nat) (H : List Txn) (level : Int) (Al : Option Addr) (cl : Nat) (l : List Cho) (x y : Int) (w : World) (h : TxnS w (Old w) (.slice A H.length c) H) (hn : SmallH H) (hl : ChoS w (Old w) (.slice Al l.length cl) l) (hln : l.length ≤ 1000000000) :
    Calls Tryz.prog 223 #[.agg #[.slice A H.length c], .int .i64 level, .slice Al l.length cl, .int .i64 x, .int .i64 y] w fun e w' => e = .returned (.bool (isB H level l x y)) ∧ Below w.heap.size w w' := by
  obtain ⟨W0, hW0⟩ : ∃ W0, w.alloc (.cells #[.slice A H.length c] 24) = W0 := ⟨_, rfl⟩
  have hB := below_allocEq (Below.refl w.heap.size w) hW0 (Nat.le_refl _)
  have k0 := Blk.newEq hW0
  have hdi := hide (fun (a b : Int) W (hb : Below w.heap.size w W) => direct19_any A c H Al cl l a b W (h.below hb) hn (hl.below hb) hln)
  have han := hide (fun (a b : Int) W (hb : Below w.heap.size w W) => anti19_any A c H Al cl l a b W (h.below hb) hn (hl.below hb) hln)
  have hH := hn.1
  have c0 := Blk.n0 k0
  clear h hl
  by_cases h0 : level = 0
  · subst h0
    have hre : Hid (isB H 0 l x y = (directB H l x y || antiB H l x y)) := hide rfl
    rw [hre.out]
    have hd1 := hide (hdi.out x y W0 hB)
    have ha1 := hide (fun W (hb : Below W0.heap.size W0 W) => han.out x y W (hB.trans (hb.mono hB.size)))
    generalize directB H l x y = q1 at *
    generalize antiB H l x y = q2 at *
    clear hre hdi han
    go_enter Tryz.func223, Tryz.ntmps223
    go_wp2_with fail
    refine hd1.out.mono ?_
    rintro e w1 ⟨rfl, hb1⟩
    have hb2 := hB.trans (hb1.mono hB.size)
    have ha2 := hide (ha1.out w1 hb1)
    have k1 := k0.below hb1 k0.lt
    have c1 := Blk.n0 k1
    clear hW0 c0 hd1 ha1
    cases q1 with
    | true =>
      clear ha2
      go_wp2
      go_ret
      exact ⟨rfl, hb2⟩
    | false =>
      go_wp2_with fail
      refine ha2.out.mono ?_
      rintro e w2 ⟨rfl, hb3⟩
      go_wp2
      go_ret
      exact ⟨rfl, hb2.trans (hb3.mono hb2.size)⟩
  · have g0 : (level == 0) = false := by simpa using h0
    by_cases h1 : level = 1
    · subst h1
      have hre : Hid (isB H 1 l x y = (List.range H.length).any fun m => directB H l x (m : Int) && (decide ((m : Int) = y) || antiB H l (m : Int) y)) := hide rfl
      have hyes : Hid (∀ m, m < H.length → (directB H l x (m : Int) && (decide ((m : Int) = y) || antiB H l (m : Int) y)) = true → isB H 1 l x y = true) := hide (fun m hm g => by rw [hre.out, List.any_eq_true]; exact ⟨m, List.mem_range.2 hm, g⟩)
      have hno : Hid ((∀ m, m < H.length → (directB H l x (m : Int) && (decide ((m : Int) = y) || antiB H l (m : Int) y)) = false) → isB H 1 l x y = false) := hide (fun g => by rw [hre.out, List.any_eq_false]; intro m hm; rw [g m (List.mem_range.1 hm)]; decide)
      generalize isB H 1 l x y = r at *
      clear hre h0
      go_enter Tryz.func223, Tryz.ntmps223
      go_wp2_with fail
      clear hW0 c0
      go_loopw [32] (fun s32 wr => ∃ m : Nat, m ≤ H.length ∧ s32 = .int .i64 m ∧ Hid (∀ m', m' < m → (directB H l x (m' : Int) && (decide ((m' : Int) = y) || antiB H l (m' : Int) y)) = false) ∧ Below w.heap.size w wr ∧ Blk wr w.heap.size 24 #[.slice A H.length c]) (fun s32 _ => H.length - (intOf s32).toNat)
      case atStart => exact ⟨0, Nat.zero_le _, by go_num, hide (fun m hm => absurd hm (by omega)), hB, k0⟩
      case round =>
        clear k0 hB
        obtain ⟨m, hm, rfl, hall, hb, k0⟩ := hrel
        have hm0 : (0 : Int) ≤ (m : Int) := Int.natCast_nonneg _
        by_cases hlt : m < H.length
        · have hm1 : (m : Int) < (H.length : Int) := by omega
          have c0 := Blk.n0 k0
          have hd1 := hide (hdi.out x (m : Int) wr hb)
          have ha1 := hide (fun W (hb2 : Below wr.heap.size wr W) => han.out (m : Int) y W (hb.trans (hb2.mono hb.size)))
          have hy := hide (hyes.out m hlt)
          have hnx := hide (fun (g : (directB H l x (m : Int) && (decide ((m : Int) = y) || antiB H l (m : Int) y)) = false) => (fun m' (hm' : m' < m + 1) => (by
            by_cases e : m' = m
            · subst e; exact g
            · exact hall.out m' (by omega) : (directB H l x (m' : Int) && (decide ((m' : Int) = y) || antiB H l (m' : Int) y)) = false)))
          generalize directB H l x (m : Int) = q1 at *
          generalize antiB H l (m : Int) y = q2 at *
          go_wp2_with fail
          refine hd1.out.mono ?_
          rintro e w1 ⟨rfl, hb1⟩
          have hb2 := hb.trans (hb1.mono hb.size)
          have ha2 := hide (ha1.out w1 hb1)
          have k1 := k0.below hb1 k0.lt
          have c1 := Blk.n0 k1
          clear c0 hd1 ha1 k0
          cases q1 with
          | false =>
            have hn2 := hide (hnx.out rfl)
            clear ha2 hnx hy
            go_wp2
            go_roundw
            case rel => exact ⟨m + 1, by omega, by go_num, hn2, hb2, k1⟩
            case measure => simp [intOf]; omega
          | true =>
            by_cases hmy : (m : Int) = y
            · have hr := hy.out (by simp [hmy])
              have g1 : ((m : Int) == y) = true := by simpa using hmy
              subst hr
              clear ha2 hnx hy hmy hno hyes
              go_wp2
              go_ret
              exact ⟨rfl, hb2⟩
            · have g1 : ((m : Int) == y) = false := by simpa using hmy
              have hmd : decide ((m : Int) = y) = false := by simpa using hmy
              rw [hmd] at hy hnx
              clear hmd hmy
              go_wp2_with fail
              refine ha2.out.mono ?_
              rintro e w2 ⟨rfl, hb3⟩
              have hb4 := hb2.trans (hb3.mono hb2.size)
              have k2 := k1.below hb3 k1.lt
              clear ha2 c1
              cases q2 with
              | true =>
                have hr := hy.out rfl
                subst hr
                clear hnx hy hno hyes
                go_wp2
                go_ret
                exact ⟨rfl, hb4⟩
              | false =>
                have hn2 := hide (hnx.out rfl)
                clear hnx hy
                go_wp2
                go_roundw
                case rel => exact ⟨m + 1, by omega, by go_num, hn2, hb4, k2⟩
                case measure => simp [intOf]; omega
        · have hr := hno.out (fun m' hm' => hall.out m' (by omega))
          subst hr
          clear hyes hall
          go_wp2
          go_ret
          exact ⟨rfl, hb⟩
    · have g1 : (level == 1) = false := by simpa using h1
      have hre : isB H level l x y = false := by unfold isB; rw [if_neg h0, if_neg h1]
      rw [hre]
      clear hre h0 h1
      go_enter Tryz.func223, Tryz.ntmps223
      go_wp2
      go_ret
      exact ⟨rfl, hB⟩
end Go.Proofs.YtjomijnbnbideaaGreatDoor

namespace Go.Proofs.YtjomijnbnbideaaGreatDoor
open Go.RowKit Go.Inq
set_option maxHeartbeats 8000000
attribute [local go_sem ↓] Go.wp_at_zero Go.wp_at_succ

def ringA (H : List Txn) (level : Int) (l : List Cho) (row : List Int) (i : Nat) : Bool := !(row.take i).contains (row.getD i 0) && isB H level l (row.getD i 0) (row.getD ((i + 1) % row.length) 0)
theorem ring_no {H : List Txn} {level : Int} {l : List Cho} {row : List Int} {i : Nat} (hi : i < row.length) (h : ringA H level l row i = false) : ringB H level l row = false := by
  unfold ringB
  rw [Bool.and_eq_false_iff]
  right
  rw [List.all_eq_false]
  exact ⟨i, List.mem_range.2 hi, by unfold ringA at h; rw [h]; decide⟩
theorem ring_yes {H : List Txn} {level : Int} {l : List Cho} {row : List Int} (h : ∀ i, i < row.length → ringA H level l row i = true) : ringB H level l row = decide (0 < row.length) := by
  unfold ringB
  rw [show ((List.range row.length).all fun i => !(row.take i).contains (row.getD i 0) && isB H level l (row.getD i 0) (row.getD ((i + 1) % row.length) 0)) = true from List.all_eq_true.2 fun i hi => h i (List.mem_range.1 hi), Bool.and_true]
set_option maxRecDepth 100000 in
theorem ring19_any (A : Option Addr) (c : Nat) (H : List Txn) (level : Int) (Al : Option Addr) (cl : Nat) (l : List Cho) (Ar : Option Addr) (cr : Nat) (row : List Int) (w : World) (h : TxnS w (Old w) (.slice A H.length c) H) (hn : SmallH H) (hl : ChoS w (Old w) (.slice Al l.length cl) l) (hln : l.length ≤ 1000000000) (hr : IntS w (Old w) (.slice Ar row.length cr) row) (hrl : row.length ≤ 1000000000) :
    Calls Tryz.prog 193 #[.agg #[.slice A H.length c], .int .i64 level, .slice Al l.length cl, .slice Ar row.length cr] w fun e w' => e = .returned (.bool (ringB H level l row)) ∧ Below w.heap.size w w' := by
  obtain ⟨W0, hW0⟩ : ∃ W0, w.alloc (.cells #[.slice A H.length c] 24) = W0 := ⟨_, rfl⟩
  have hB := below_allocEq (Below.refl w.heap.size w) hW0 (Nat.le_refl _)
  have k0 := Blk.newEq hW0
  have his := hide (fun (a b : Int) W (hb : Below w.heap.size w W) => is19_any A c H level Al cl l a b W (h.below hb) hn (hl.below hb) hln)
  have hrw := hide (fun W (hb : Below w.heap.size w W) => hr.below hb)
  have hno := hide (fun i (hi : i < row.length) => ring_no (H := H) (level := level) (l := l) hi)
  have hyes := hide (ring_yes (H := H) (level := level) (l := l) (row := row))
  generalize ringB H level l row = r at *
  clear h hl hr
  go_enter Tryz.func193, Tryz.ntmps193
  go_wp2_with fail
  clear hW0
  go_loopw [13] (fun s13 wr => ∃ i : Nat, i ≤ row.length ∧ s13 = .int .i64 i ∧ Hid (∀ j, j < i → ringA H level l row j = true) ∧ Below w.heap.size w wr ∧ Blk wr w.heap.size 24 #[.slice A H.length c]) (fun s13 _ => row.length - (intOf s13).toNat)
  case atStart => exact ⟨0, Nat.zero_le _, by go_num, hide (fun j hj => absurd hj (by omega)), hB, k0⟩
  case round =>
    clear k0 hB
    obtain ⟨Wo, rfl⟩ : ∃ Wo, Wo = wr := ⟨_, rfl⟩
    obtain ⟨i, hi, rfl, hall, hb, k0⟩ := hrel
    have hi0 : (0 : Int) ≤ (i : Int) := Int.natCast_nonneg _
    by_cases hlt : i < row.length
    · have hi1 : (i : Int) < (row.length : Int) := by omega
      have hi2 : (i : Int) ≤ (row.length : Int) := by omega
      have hI := hrw.out Wo hb
      have hlc : row.length ≤ cr := by
        obtain ⟨_, _, e, h⟩ := SlR.len hI
        simp only [Value.slice.injEq] at e
        omega
      have hic : (i : Int) ≤ (cr : Int) := by omega
      obtain ⟨br, orr, rfl, -, x0⟩ := hI.at_ hlt
      have hj : (i + 1) % row.length < row.length := Nat.mod_lt _ (by omega)
      have hnx := hide (fun (g : ringA H level l row i = true) => (fun j (hj : j < i + 1) => (by
        by_cases e : j = i
        · subst e; exact g
        · exact hall.out j (by omega) : ringA H level l row j = true)))
      have hn2 := hide (hno.out i hlt)
      have hrA : Hid (ringA H level l row i = (!(row.take i).contains row[i] && isB H level l row[i] row[(i + 1) % row.length])) := hide (by
        unfold ringA
        rw [List.getD_eq_getElem?_getD, List.getElem?_eq_getElem hlt, Option.getD_some, List.getD_eq_getElem?_getD, List.getElem?_eq_getElem hj, Option.getD_some])
      have hcc := hide (fun W (hb : Below Wo.heap.size Wo W) => contains_int (some ⟨br, orr, none⟩) cr (row.take i) row[i] (Old W) W (by rw [show (row.take i).length = i by rw [List.length_take]; omega]; exact (hI.below hb).take (by omega)) (by rw [List.length_take]; unfold maxLen; omega))
      have htl : Hid ((row.take i).length = i) := hide (by rw [List.length_take]; omega)
      have hxj : Hid (∀ W, Below Wo.heap.size Wo W → W.cell? ⟨br, orr + (i + 1) % row.length, none⟩ = some (.int .i64 row[(i + 1) % row.length])) := hide (fun W hbW => ((hI.below hbW).cells hj).2)
      have hii := hide (fun W (hbW : Below Wo.heap.size Wo W) => his.out row[i] row[(i + 1) % row.length] W (hb.trans (hbW.mono hb.size)))
      have hch : Hid (∀ W, Below Wo.heap.size Wo W → W.cell? ⟨w.heap.size, 0, none⟩ = some (.slice A H.length c)) := hide (fun W hbW => by have := (k0.below hbW k0.lt).cell 0; simpa using this)
      rw [htl.out] at hcc
      generalize isB H level l row[i] row[(i + 1) % row.length] = q2 at *
      generalize (row.take i).contains row[i] = q1 at *
      generalize row[(i + 1) % row.length] = xj at *
      generalize row[i] = xi at *
      have hm : Hid (((i : Int) + 1).tmod (row.length : Int) = (((i + 1) % row.length : Nat) : Int)) := hide (by rw [show (i : Int) + 1 = ((i + 1 : Nat) : Int) by omega]; rfl)
      generalize hmm : (i + 1) % row.length = mi at *
      replace hmm := hide hmm
      have hmi : (mi : Int) < (row.length : Int) := by omega
      have hmi0 : (0 : Int) ≤ (mi : Int) := Int.natCast_nonneg _
      have hz0 : ((row.length : Int) == 0) = false := by rw [beq_eq_false_iff_ne]; omega
      have hz1 : (row.length == 0) = false := by rw [beq_eq_false_iff_ne]; omega
      have hnil : Hid (row ≠ []) := hide (fun e => by rw [e] at hlt; simp at hlt)
      go_upto_region 4 with fail
      cases q1 with
      | true =>
        have hr2 := hn2.out (by rw [hrA.out]; rfl)
        subst hr2
        clear hn2 hrA hnx hyes hno
        refine wp_region_float (fun W => Below Wo.heap.size Wo W) (by kernel_rfl) (by kernel_rfl) (Below.refl _ _).drew ?_
        refine ⟨.slice (some ⟨br, orr, none⟩) row.length cr, fun W hW => (by go_wp2), ?_⟩
        refine ⟨.int .i64 (i : Int), fun W hW => (by go_wp2), ?_⟩
        refine ⟨.slice (some ⟨br, orr, none⟩) i cr, fun W hW => (by go_wp2), ?_⟩
        refine ⟨.int .i64 xi, fun W hW => (by go_wp2), ?_⟩
        refine ⟨.bool true, fun W hW => (by
          go_wp2_with fail
          refine (hcc.out W hW).mono ?_
          rintro e w' ⟨rfl, rfl⟩
          go_wp2), ?_⟩
        refine ⟨.bool true, fun W hW => (by go_wp2), ?_⟩
        refine ⟨undef, fun W hW => (by go_wp2), ?_⟩
        refine ⟨undef, fun W hW => (by go_wp2), ?_⟩
        refine ⟨undef, fun W hW => (by go_wp2), ?_⟩
        refine ⟨undef, fun W hW => (by go_wp2), ?_⟩
        refine ⟨undef, fun W hW => (by go_wp2), ?_⟩
        refine ⟨undef, fun W hW => (by go_wp2), ?_⟩
        refine ⟨undef, fun W hW => (by go_wp2), ?_⟩
        refine ⟨undef, fun W hW => (by go_wp2), ?_⟩
        refine ⟨undef, fun W hW => (by go_wp2), ?_⟩
        refine ⟨undef, fun W hW => (by go_wp2), ?_⟩
        refine ⟨undef, fun W hW => (by go_wp2), ?_⟩
        refine ⟨undef, fun W hW => (by go_wp2), ?_⟩
        refine ⟨undef, fun W hW => (by go_wp2), ?_⟩
        refine ⟨undef, fun W hW => (by go_wp2), ?_⟩
        refine ⟨.bool true, fun W hW => (by go_wp2), ?_⟩
        intro W5 hW5
        simp only [Act.put, sA, sZ, sS]
        have hb5 := hb.trans (hW5.mono hb.size)
        go_wp2
        go_ret
        exact ⟨rfl, hb5⟩
      | false =>
        refine wp_region_float (fun W => Below Wo.heap.size Wo W) (by kernel_rfl) (by kernel_rfl) (Below.refl _ _).drew ?_
        refine ⟨.slice (some ⟨br, orr, none⟩) row.length cr, fun W hW => (by go_wp2), ?_⟩
        refine ⟨.int .i64 (i : Int), fun W hW => (by go_wp2), ?_⟩
        refine ⟨.slice (some ⟨br, orr, none⟩) i cr, fun W hW => (by go_wp2), ?_⟩
        refine ⟨.int .i64 xi, fun W hW => (by go_wp2), ?_⟩
        refine ⟨.bool false, fun W hW => (by
          go_wp2_with fail
          refine (hcc.out W hW).mono ?_
          rintro e w' ⟨rfl, rfl⟩
          go_wp2), ?_⟩
        refine ⟨.bool false, fun W hW => (by go_wp2), ?_⟩
        refine ⟨.agg #[.slice A H.length c], fun W hW => (by have v0 := hch.out W hW; go_wp2), ?_⟩
        refine ⟨.int .i64 level, fun W hW => (by go_wp2), ?_⟩
        refine ⟨.slice Al l.length cl, fun W hW => (by go_wp2), ?_⟩
        refine ⟨.int .i64 xi, fun W hW => (by go_wp2), ?_⟩
        refine ⟨.slice (some ⟨br, orr, none⟩) row.length cr, fun W hW => (by go_wp2), ?_⟩
        refine ⟨.int .i64 (i : Int), fun W hW => (by go_wp2), ?_⟩
        refine ⟨.int .i64 ((i : Int) + 1), fun W hW => (by go_wp2), ?_⟩
        refine ⟨.slice (some ⟨br, orr, none⟩) row.length cr, fun W hW => (by go_wp2), ?_⟩
        refine ⟨.int .i64 (row.length : Int), fun W hW => (by go_wp2), ?_⟩
        refine ⟨.int .i64 (mi : Int), fun W hW => (by have hm2 := hm.out; go_wp2; try exact hnil.out (by assumption)), ?_⟩
        refine ⟨.pointer (some ⟨br, orr + mi, none⟩), fun W hW => (by go_wp2), ?_⟩
        refine ⟨.int .i64 xj, fun W hW => (by have v0 := hxj.out W hW; go_wp2), ?_⟩
        refine ⟨.bool q2, fun W hW => (by
          go_wp2_with fail
          refine (hii.out W hW).mono ?_
          rintro e w' ⟨rfl, hb'⟩
          replace hW := hW.trans (hb'.mono hW.size)
          go_wp2), ?_⟩
        refine ⟨.bool (!q2), fun W hW => (by go_wp2), ?_⟩
        refine ⟨.bool (!q2), fun W hW => (by go_wp2), ?_⟩
        intro W5 hW5
        simp only [Act.put, sA, sZ, sS]
        have hb5 := hb.trans (hW5.mono hb.size)
        have k5 := k0.below hW5 k0.lt
        cases q2 with
        | true =>
          have hn3 := hide (hnx.out (by rw [hrA.out]; rfl))
          clear hnx hn2 hrA
          go_wp2
          go_roundw
          case rel => exact ⟨i + 1, by omega, by go_num, hn3, hb5, k5⟩
          case measure => simp [intOf]; omega
        | false =>
          have hr2 := hn2.out (by rw [hrA.out]; rfl)
          subst hr2
          clear hn2 hrA hnx hyes hno
          go_wp2
          go_ret
          exact ⟨rfl, hb5⟩
    · obtain rfl : i = row.length := by omega
      have hr2 := hyes.out hall.out
      obtain ⟨q, hq⟩ : ∃ q, decide (0 < row.length) = q := ⟨_, rfl⟩
      have hq2 : decide ((row.length : Int) > 0) = q := by rw [← hq]; simp
      rw [hq] at hr2
      subst hr2
      clear hyes hno hall
      go_wp2
      go_ret
      exact ⟨rfl, hb⟩
end Go.Proofs.YtjomijnbnbideaaGreatDoor
