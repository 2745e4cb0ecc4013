/-
  Walks: layer 28's reference: Step, its loop.
-/
import Derived.Test.YtjomijnbnbideaaGreatDoorT36
set_option linter.unusedVariables false
set_option linter.unusedSimpArgs false
namespace Go.Proofs.YtjomijnbnbideaaGreatDoor
open Go.RowKit Go.Inq
set_option maxHeartbeats 8000000
attribute [local go_sem ↓] Go.wp_at_zero Go.wp_at_succ

theorem stg_b {la i : Nat} {W W' : World} (h : Below W.heap.size W W') : StG la i W W' := by
  unfold StG
  split
  · trivial
  · exact h
theorem stg_a {la : Nat} {W W' : World} : StG la la W W' := by
  unfold StG
  rw [if_pos rfl]; trivial
def ws16 (A : Option Addr) (c n : Nat) (level : Int) (bp off np cp k n₀ : Nat) (d : Cho) (i0 i1 i2 i3 i4 : Int) (bb : Bool) : List (Value → World → Prop) :=
  [isV (.agg #[.slice A n c]), isV (.int .i64 level), isV (.slice (some ⟨bp, off, none⟩) np cp), isV (.int .i64 (k : Int)), isV (.pointer (some ⟨bp, off + k * 3, none⟩)), isV (.agg #[.int .i64 d.key, .int .i64 d.a, .int .i64 d.b]),
   isV (.tuple #[.agg #[.int .i64 i0, .int .i64 i1, .int .i64 i2, .int .i64 i3, .int .i64 i4, .int .i64 0, .slice none 0 0], .bool bb]), isV (.tuple #[.agg #[.int .i64 i0, .int .i64 i1, .int .i64 i2, .int .i64 i3, .int .i64 i4, .int .i64 0, .slice none 0 0], .bool bb]),
   isV (.agg #[.int .i64 i0, .int .i64 i1, .int .i64 i2, .int .i64 i3, .int .i64 i4, .int .i64 0, .slice none 0 0]), isV (.bool bb), WF0 n₀, WF1 n₀ i0 i1 i2 i3 i4, isV (.bool bb)]
def dp16 : Nat → List Nat
  | 4 => [2, 3]
  | 5 => [4]
  | 6 => [0, 1, 5]
  | 7 => [6]
  | 8 => [7]
  | 9 => [7]
  | 11 => [10, 8]
  | 12 => [9]
  | _ => []
theorem dp16_end : ∀ i, 13 ≤ i → dp16 i = [] := by
  intro i hi
  match i, hi with
  | n + 13, _ => rfl
theorem isV_free {x v : Value} {W W' : World} (h : isV x v W) : isV x v W' := h
theorem WF0.below {n₀ : Nat} {v : Value} {W W' : World} (h : WF0 n₀ v W) (hb : Below W.heap.size W W') : WF0 n₀ v W' := by obtain ⟨g, h0, h1, h2⟩ := h; exact ⟨g, h0, h1, h2.below hb h2.lt⟩
theorem WF1.below {n₀ : Nat} {i0 i1 i2 i3 i4 : Int} {v : Value} {W W' : World} (h : WF1 n₀ i0 i1 i2 i3 i4 v W) (hb : Below W.heap.size W W') : WF1 n₀ i0 i1 i2 i3 i4 v W' := by obtain ⟨g, h0, h1, h2⟩ := h; exact ⟨g, h0, h1, h2.below hb h2.lt⟩
theorem ws16_st {A : Option Addr} {c n : Nat} {level : Int} {bp off np cp k n₀ : Nat} {d : Cho} {i0 i1 i2 i3 i4 : Int} {bb : Bool} : ∀ p ∈ ws16 A c n level bp off np cp k n₀ d i0 i1 i2 i3 i4 bb, ∀ v (W W' : World), p v W → Below W.heap.size W W' → p v W' := by
  intro p hp v W W' h hb
  simp only [ws16, List.mem_cons, List.not_mem_nil, or_false] at hp
  rcases hp with rfl | rfl | rfl | rfl | rfl | rfl | rfl | rfl | rfl | rfl | rfl | rfl | rfl
  all_goals first | exact isV_free h | exact WF0.below h hb | exact WF1.below h hb
theorem ws16_free {A : Option Addr} {c n : Nat} {level : Int} {bp off np cp k n₀ : Nat} {d : Cho} {i0 i1 i2 i3 i4 : Int} {bb : Bool} : ∀ j p, (ws16 A c n level bp off np cp k n₀ d i0 i1 i2 i3 i4 bb)[j]? = some p → j ≠ 11 → j ≠ 11 - 1 → ∀ v (W W' : World), p v W → p v W' := by
  intro j p hp h1 h2 v W W' h
  match j, hp with
  | 0, hp | 1, hp | 2, hp | 3, hp | 4, hp | 5, hp | 6, hp | 7, hp | 8, hp | 9, hp | 12, hp =>
    simp only [ws16, List.getElem?_cons_zero, List.getElem?_cons_succ, Option.some.injEq] at hp
    subst hp
    exact isV_free h
  | 10, _ => exact absurd rfl h2
  | 11, _ => exact absurd rfl h1
  | j + 13, hp => simp [ws16] at hp
def ws19 (A : Option Addr) (c n : Nat) (level : Int) (bp off np cp k n₀ : Nat) (d : Cho) (i0 i1 i2 i3 i4 : Int) (bb : Bool) : List (Value → World → Prop) :=
  [isV (.agg #[.slice A n c]), isV (.int .i64 level), isV (.slice (some ⟨bp, off, none⟩) np cp), isV (.int .i64 (k : Int)), isV (.pointer (some ⟨bp, off + k * 3, none⟩)), isV (.agg #[.int .i64 d.key, .int .i64 d.a, .int .i64 d.b]), isV (.agg #[.int .i64 d.key, .int .i64 d.b, .int .i64 d.a]),
   isV (.tuple #[.agg #[.int .i64 i0, .int .i64 i1, .int .i64 i2, .int .i64 i3, .int .i64 i4, .int .i64 0, .slice none 0 0], .bool bb]), isV (.tuple #[.agg #[.int .i64 i0, .int .i64 i1, .int .i64 i2, .int .i64 i3, .int .i64 i4, .int .i64 0, .slice none 0 0], .bool bb]),
   isV (.agg #[.int .i64 i0, .int .i64 i1, .int .i64 i2, .int .i64 i3, .int .i64 i4, .int .i64 0, .slice none 0 0]), isV (.bool bb), WF0 n₀, WF1 n₀ i0 i1 i2 i3 i4, isV (.bool bb)]
def dp19 : Nat → List Nat
  | 4 => [2, 3]
  | 5 => [4]
  | 6 => [5]
  | 7 => [0, 1, 6]
  | 8 => [7]
  | 9 => [8]
  | 10 => [8]
  | 12 => [11, 9]
  | 13 => [10]
  | _ => []
theorem dp19_end : ∀ i, 14 ≤ i → dp19 i = [] := by
  intro i hi
  match i, hi with
  | n + 14, _ => rfl
theorem ws19_st {A : Option Addr} {c n : Nat} {level : Int} {bp off np cp k n₀ : Nat} {d : Cho} {i0 i1 i2 i3 i4 : Int} {bb : Bool} : ∀ p ∈ ws19 A c n level bp off np cp k n₀ d i0 i1 i2 i3 i4 bb, ∀ v (W W' : World), p v W → Below W.heap.size W W' → p v W' := by
  intro p hp v W W' h hb
  simp only [ws19, List.mem_cons, List.not_mem_nil, or_false] at hp
  rcases hp with rfl | rfl | rfl | rfl | rfl | rfl | rfl | rfl | rfl | rfl | rfl | rfl | rfl | rfl
  all_goals first | exact isV_free h | exact WF0.below h hb | exact WF1.below h hb
theorem ws19_free {A : Option Addr} {c n : Nat} {level : Int} {bp off np cp k n₀ : Nat} {d : Cho} {i0 i1 i2 i3 i4 : Int} {bb : Bool} : ∀ j p, (ws19 A c n level bp off np cp k n₀ d i0 i1 i2 i3 i4 bb)[j]? = some p → j ≠ 12 → j ≠ 12 - 1 → ∀ v (W W' : World), p v W → p v W' := by
  intro j p hp h1 h2 v W W' h
  match j, hp with
  | 0, hp | 1, hp | 2, hp | 3, hp | 4, hp | 5, hp | 6, hp | 7, hp | 8, hp | 9, hp | 10, hp | 13, hp =>
    simp only [ws19, List.getElem?_cons_zero, List.getElem?_cons_succ, Option.some.injEq] at hp
    subst hp
    exact isV_free h
  | 11, _ => exact absurd rfl h2
  | 12, _ => exact absurd rfl h1
  | j + 14, hp => simp [ws19] at hp
set_option maxRecDepth 100000 in
theorem rstep28_stuck (A : Option Addr) (c : Nat) (H : List Txn) (level : Int) (w : World) (h : TxnS w (Old w) (.slice A H.length c) H) (hn : SmallH H) (hmay : mayB H level = true) (hr : rightC H [] = true) (hne : findL H.length (fullE H level []) = []) (hp : pairsL H ≠ []) (hsc : scrH H level = ⟨3, [], none, plainL H level (pairsL H)⟩) :
    Calls Tryz.prog 25 #[.agg #[.slice A H.length c], .int .i64 level] w (ScrOutR w (scrH H level)) := by
  rw [hsc]
  obtain ⟨P, hP⟩ : ∃ P, pairsL H = P := ⟨_, rfl⟩
  rw [hP] at hp ⊢
  have hpn : ((P.length : Int) == 0) = false := by have := List.length_pos_iff.2 hp; rw [beq_eq_false_iff_ne]; omega
  have hpl : P.length ≤ 16384 := by rw [← hP]; exact pairsL_len (rightC_hist hr)
  replace hP := hide hP
  clear hp
  obtain ⟨W0, hW0⟩ : ∃ W0, (w.alloc (.cells #[.slice A H.length c] 24)).alloc (.cells #[.int .i64 0, .slice none 0 0, .slice none 0 0, .slice none 0 0] 44) = W0 := ⟨_, rfl⟩
  have hB := below_two hW0
  have k0 := Blk.two1 hW0
  have k1 := Blk.two2 hW0
  have hs0 := size_two hW0
  have hh := hide (fun W hb => h.below (w' := W) hb)
  have hmc := hide (rmay28_any A c H level W0 (h.below hB) hn)
  rw [hmay] at hmc
  have c0 := k0.cell 0
  simp only [List.getElem?_toArray, List.getElem?_cons_zero] at c0
  replace hs0 := hide hs0
  clear h
  go_enter Tryz.func25, Tryz.ntmps25
  go_wp2_with fail
  clear hW0
  refine Calls.mono hmc.out ?_
  rintro e w1 ⟨rfl, hb1⟩
  have hB1 := hB.trans (hb1.mono hB.size)
  replace k0 := k0.below hb1 k0.lt
  replace k1 := k1.below hb1 k1.lt
  have y0 := k1.cell 0
  have y1 := k1.cell 1
  have y2 := k1.cell 2
  have y3 := k1.cell 3
  have z0 := k1.frozen 0
  have z1 := k1.frozen 1
  have z2 := k1.frozen 2
  have z3 := k1.frozen 3
  have c0 := k0.cell 0
  simp only [List.getElem?_toArray, List.getElem?_cons_zero, List.getElem?_cons_succ] at c0 y0 y1 y2 y3
  clear hmc hb1 hB
  have h64 : H.length ≤ 64 := by have := ((rightH_iff H).1 (rightC_hist hr)).1; omega
  have hfu := hide (rfull18_any A c H level none 0 [] w1 (hh.out w1 hB1) (SlR.nil _ _ _ _ _ _) hr hn)
  replace hr := hide hr
  replace hn := hide hn
  obtain ⟨E, hE⟩ : ∃ E, fullE H level [] = E := ⟨_, rfl⟩
  rw [hE] at hfu
  clear y0 y1 y2 y3 z0 z1 z2 z3
  go_wp2_with fail
  refine Calls.mono hfu.out ?_
  rintro e w2 ⟨u, rfl, hR, hb2⟩
  obtain ⟨Ag, cg, rfl, hG⟩ := hR.gr h64 (K := Old w2) (fun g _ h => h)
  have hB2 := hB1.trans (hb2.mono hB1.size)
  replace k0 := k0.below hb2 k0.lt
  replace k1 := k1.below hb2 k1.lt
  have hwg : w.heap.size + 1 < w2.heap.size := k1.lt
  clear hfu hR hB1 hb2 c0
  obtain ⟨W3, hW3⟩ : ∃ W3, w2.alloc (.cells #[.int .i64 H.length, .slice Ag H.length cg] 124) = W3 := ⟨_, rfl⟩
  have k6 := Blk.newEq hW3
  have hg3 := k6.lt
  have hb3 := below_allocEq (Below.refl w2.heap.size w2) hW3 (Nat.le_refl _)
  have hB3 := hB2.trans (hb3.mono hB2.size)
  replace k0 := k0.below hb3 k0.lt
  replace k1 := k1.below hb3 k1.lt
  replace hG := hG.keep (w' := W3) (K' := Old W3) (Agree.below hb3 fun b h => h) (fun b h => Nat.lt_of_lt_of_le h hb3.size)
  dsimp only
  go_upto_region 5 with fail
  try rw [hW3]
  clear hW3 hb3 hB2
  generalize w2.heap.size = g6 at *
  have c0 := k6.cell 0
  have c1 := k6.cell 1
  simp only [List.getElem?_toArray, List.getElem?_cons_zero, List.getElem?_cons_succ] at c0 c1
  go_wp2_with fail
  refine (rfind15_any H.length Ag cg E (Old W3) W3 hG (fun b h => h)).mono ?_
  rintro e w4 ⟨v, rfl, ho, hb4⟩
  have hB4 := hB3.trans (hb4.mono hB3.size)
  replace k0 := k0.below hb4 k0.lt
  replace k1 := k1.below hb4 k1.lt
  replace k6 := k6.below hb4 k6.lt
  have hs4 := hB4.size
  have hs3 := hB3.size
  obtain ⟨Ao, co, rfl⟩ := OwnI.form ho
  rw [intsN_len] at ho ⊢
  clear c0 c1
  have y0 := k1.cell 0
  have y1 := k1.cell 1
  have y2 := k1.cell 2
  have y3 := k1.cell 3
  have z0 := k1.frozen 0
  have z1 := k1.frozen 1
  have z2 := k1.frozen 2
  have z3 := k1.frozen 3
  simp only [List.getElem?_toArray, List.getElem?_cons_zero, List.getElem?_cons_succ] at y0 y1 y2 y3
  have hl0 : (findL H.length E).length = 0 := by rw [← hE, hne]; rfl
  replace hE := hide hE
  rw [hl0]
  clear hl0
  replace hne := hide hne
  have hT4 := hide (hh.out w4 hB4)
  have hpr := hide (rpairs09_any A c H w4 hT4.out (rightC_hist hr.out) hn.out)
  have hG4 := hG.keep (w' := w4) (K' := Old w4) (Agree.below hb4 fun b h => h) (fun b h => Nat.lt_of_lt_of_le h hb4.size)
  have c0 := k0.cell 0
  simp only [List.getElem?_toArray, List.getElem?_cons_zero] at c0
  clear ho hG hb4
  dsimp only
  go_wp2_with fail
  refine Calls.mono hpr.out ?_
  rintro e w5 ⟨vp, rfl, hop, hb5⟩
  have hB5 := hB4.trans (hb5.mono hB4.size)
  replace k0 := k0.below hb5 k0.lt
  replace k1 := k1.below hb5 k1.lt
  replace k6 := k6.below hb5 k6.lt
  have hG5 := hG4.keep (w' := w5) (K' := Old w5) (Agree.below hb5 fun b h => h) (fun b h => Nat.lt_of_lt_of_le h hb5.size)
  obtain ⟨Ap, cp, rfl⟩ := hop.form
  clear hpr hb5 hG4 hT4 c0 y0 y1 y2 y3 z0 z1 z2 z3
  rw [hP.out] at hop ⊢
  clear k6 hG5
  have hb5 : w.heap.size + 1 < w5.heap.size := k1.lt
  dsimp only
  go_upto_region 14 with fail
  obtain ⟨W6, hW6⟩ : ∃ W6, w5.alloc (.cells #[.int .i64 3, .slice none 0 0, .slice none 0 0, .slice none 0 0] 44) = W6 := ⟨_, rfl⟩
  have k11 := Blk.newEq hW6
  have hb6 := below_allocEq (Below.refl w5.heap.size w5) hW6 (Nat.le_refl _)
  replace hop := hide hop
  have hs6 := size_allocEq hW6
  try rw [hW6]
  clear hW6
  go_loopw [12] (fun s12 wr => ∃ (k : Nat) (v : Value), k ≤ P.length ∧ s12 = .int .i64 k ∧ Below w5.heap.size w5 wr ∧ Blk wr w5.heap.size 44 #[.int .i64 3, .slice none 0 0, .slice none 0 0, v] ∧ OwnXr wr (w5.heap.size + 1) v (plainL H level (P.take k))) (fun s12 _ => P.length - (intOf s12).toNat)
  case atStart => exact ⟨0, .slice none 0 0, Nat.zero_le _, by go_num, hb6, k11, World.ownsRow_nil _ _ _ _⟩
  case round =>
    clear hb6 k11 hs6
    obtain ⟨k, v, hk, rfl, hbr, k11, hown⟩ := hrel
    obtain ⟨Wr, rfl⟩ : ∃ Wr, Wr = wr := ⟨_, rfl⟩
    have hk0 : (0 : Int) ≤ (k : Int) := Int.natCast_nonneg _
    by_cases hkt : k < P.length
    · have hk1 : (k : Int) < (P.length : Int) := by omega
      have hsl : ChoS w5 (Old w5) (.slice Ap P.length cp) P := hop.out.sl (fun g _ h => h)
      obtain ⟨bp, off, rfl, hbK, d0, d1, d2⟩ := ChoS.at_ hsl hkt
      have hst := hide (plainL_step (H := H) (level := level) hkt)
      have hLL0 : Hid ((plainL H level (P.take k)).length ≤ 32768) := hide (by have := plainL_len H level (P.take k); simp only [List.length_take] at this; omega)
      generalize P[k] = d at *
      obtain ⟨dk, da, db⟩ := d
      dsimp only at d0 d1 d2
      generalize plainL H level (P.take k) = LL at *
      have hLL : Hid (LL.length ≤ 40000) := hide (Nat.le_trans hLL0.out (by decide))
      have hBr := hB5.trans (hbr.mono hB5.size)
      have hs5 := hbr.size
      have hcd := hide (fun W (hb : Below Wr.heap.size Wr W) => ((hbr.trans (hb.mono hs5)).cell (p := ⟨bp, off + k * 3, none⟩) hbK).trans d0)
      have hcd1 := hide (fun W (hb : Below Wr.heap.size Wr W) => ((hbr.trans (hb.mono hs5)).cell (p := ⟨bp, off + k * 3 + 1, none⟩) hbK).trans d1)
      have hcd2 := hide (fun W (hb : Below Wr.heap.size Wr W) => ((hbr.trans (hb.mono hs5)).cell (p := ⟨bp, off + k * 3 + 2, none⟩) hbK).trans d2)
      have hch := hide (fun W (hb : Below Wr.heap.size Wr W) => ((k0.below (hbr.trans (hb.mono hs5)) k0.lt).cell 0))
      have hplc := hide (fun W (hb : Below Wr.heap.size Wr W) => rplain28_any A c H level (⟨dk, da, db⟩ : Cho) W (hh.out W (hBr.trans (hb.mono hBr.size))) hn.out)
      obtain ⟨i0, i1, i2, i3, i4, bb, hpv, hcs⟩ := plV_form (⟨dk, da, db⟩ : Cho) (perF H level (⟨dk, da, db⟩ : Cho))
      rw [hpv] at hplc
      clear hpv
      go_upto_region 16 with fail
      refine wp_region_rel (RsG (ws16 A c H.length level bp off P.length cp k Wr.heap.size ⟨dk, da, db⟩ i0 i1 i2 i3 i4 bb) 11) (fun W => Below Wr.heap.size Wr W) (StG 11) dp16 (by kernel_rfl) (by kernel_rfl) (by kernel_rfl) dp16_end (klG 11) (by kernel_rfl) (rsg_cg (by simp [dp16])) (rsg_keep ws16_st ws16_free) (Below.refl _ _).drew ?hstep ?hend
      case hstep =>
        intro i o ho vs W hb hd
        match i, ho with
        | 0, ho =>
          simp only [List.getElem?_cons_zero, List.getElem?_cons_succ, Option.some.injEq] at ho
          subst ho
          simp only [acV, List.getElem?_toArray, List.getElem?_cons_zero, List.getElem?_cons_succ, Act.put, List.setIfInBounds_toArray, List.set_cons_zero, List.set_cons_succ]
          have v0 := hch.out W hb
          simp only [List.getElem?_toArray, List.getElem?_cons_zero] at v0
          go_wp2
          exact ⟨rfl, _, rfl, rfl, hb, stg_b (Below.refl _ _)⟩
        | 1, ho =>
          simp only [List.getElem?_cons_zero, List.getElem?_cons_succ, Option.some.injEq] at ho
          subst ho
          simp only [acV, List.getElem?_toArray, List.getElem?_cons_zero, List.getElem?_cons_succ, Act.put, List.setIfInBounds_toArray, List.set_cons_zero, List.set_cons_succ]
          go_wp2
          exact ⟨rfl, _, rfl, rfl, hb, stg_b (Below.refl _ _)⟩
        | 2, ho =>
          simp only [List.getElem?_cons_zero, List.getElem?_cons_succ, Option.some.injEq] at ho
          subst ho
          simp only [acV, List.getElem?_toArray, List.getElem?_cons_zero, List.getElem?_cons_succ, Act.put, List.setIfInBounds_toArray, List.set_cons_zero, List.set_cons_succ]
          go_wp2
          exact ⟨rfl, _, rfl, rfl, hb, stg_b (Below.refl _ _)⟩
        | 3, ho =>
          simp only [List.getElem?_cons_zero, List.getElem?_cons_succ, Option.some.injEq] at ho
          subst ho
          simp only [acV, List.getElem?_toArray, List.getElem?_cons_zero, List.getElem?_cons_succ, Act.put, List.setIfInBounds_toArray, List.set_cons_zero, List.set_cons_succ]
          go_wp2
          exact ⟨rfl, _, rfl, rfl, hb, stg_b (Below.refl _ _)⟩
        | 4, ho =>
          have e2 : vs 2 = .slice (some ⟨bp, off, none⟩) P.length cp := hd 2 (by simp [dp16])
          have e3 : vs 3 = .int .i64 (k : Int) := hd 3 (by simp [dp16])
          simp only [List.getElem?_cons_zero, List.getElem?_cons_succ, Option.some.injEq] at ho
          subst ho
          simp only [acV, List.getElem?_toArray, List.getElem?_cons_zero, List.getElem?_cons_succ, Act.put, List.setIfInBounds_toArray, List.set_cons_zero, List.set_cons_succ]
          rw [e2, e3]
          go_wp2
          exact ⟨rfl, _, rfl, rfl, hb, stg_b (Below.refl _ _)⟩
        | 5, ho =>
          have e4 : vs 4 = .pointer (some ⟨bp, off + k * 3, none⟩) := hd 4 (by simp [dp16])
          simp only [List.getElem?_cons_zero, List.getElem?_cons_succ, Option.some.injEq] at ho
          subst ho
          simp only [acV, List.getElem?_toArray, List.getElem?_cons_zero, List.getElem?_cons_succ, Act.put, List.setIfInBounds_toArray, List.set_cons_zero, List.set_cons_succ]
          rw [e4]
          have v0 := hcd.out W hb
          have v1 := hcd1.out W hb
          have v2 := hcd2.out W hb
          go_wp2
          exact ⟨rfl, _, rfl, rfl, hb, stg_b (Below.refl _ _)⟩
        | 6, ho =>
          have e0 : vs 0 = .agg #[.slice A H.length c] := hd 0 (by simp [dp16])
          have e1 : vs 1 = .int .i64 level := hd 1 (by simp [dp16])
          have e5 : vs 5 = .agg #[.int .i64 dk, .int .i64 da, .int .i64 db] := hd 5 (by simp [dp16])
          simp only [List.getElem?_cons_zero, List.getElem?_cons_succ, Option.some.injEq] at ho
          subst ho
          simp only [acV, List.getElem?_toArray, List.getElem?_cons_zero, List.getElem?_cons_succ, Act.put, List.setIfInBounds_toArray, List.set_cons_zero, List.set_cons_succ]
          rw [e0, e1, e5]
          go_wp2_with fail
          refine Calls.mono (hplc.out W hb) ?_
          rintro e W2 ⟨rfl, hb2⟩
          go_wp2
          exact ⟨rfl, _, rfl, rfl, hb.trans (hb2.mono hb.size), stg_b hb2⟩
        | 7, ho =>
          have e6 : vs 6 = .tuple #[.agg #[.int .i64 i0, .int .i64 i1, .int .i64 i2, .int .i64 i3, .int .i64 i4, .int .i64 0, .slice none 0 0], .bool bb] := hd 6 (by simp [dp16])
          simp only [List.getElem?_cons_zero, List.getElem?_cons_succ, Option.some.injEq] at ho
          subst ho
          simp only [acV, List.getElem?_toArray, List.getElem?_cons_zero, List.getElem?_cons_succ, Act.put, List.setIfInBounds_toArray, List.set_cons_zero, List.set_cons_succ]
          rw [e6]
          go_wp2
          exact ⟨rfl, _, rfl, rfl, hb, stg_b (Below.refl _ _)⟩
        | 8, ho =>
          have e7 : vs 7 = .tuple #[.agg #[.int .i64 i0, .int .i64 i1, .int .i64 i2, .int .i64 i3, .int .i64 i4, .int .i64 0, .slice none 0 0], .bool bb] := hd 7 (by simp [dp16])
          simp only [List.getElem?_cons_zero, List.getElem?_cons_succ, Option.some.injEq] at ho
          subst ho
          simp only [acV, List.getElem?_toArray, List.getElem?_cons_zero, List.getElem?_cons_succ, Act.put, List.setIfInBounds_toArray, List.set_cons_zero, List.set_cons_succ]
          rw [e7]
          go_wp2
          exact ⟨rfl, _, rfl, rfl, hb, stg_b (Below.refl _ _)⟩
        | 9, ho =>
          have e7 : vs 7 = .tuple #[.agg #[.int .i64 i0, .int .i64 i1, .int .i64 i2, .int .i64 i3, .int .i64 i4, .int .i64 0, .slice none 0 0], .bool bb] := hd 7 (by simp [dp16])
          simp only [List.getElem?_cons_zero, List.getElem?_cons_succ, Option.some.injEq] at ho
          subst ho
          simp only [acV, List.getElem?_toArray, List.getElem?_cons_zero, List.getElem?_cons_succ, Act.put, List.setIfInBounds_toArray, List.set_cons_zero, List.set_cons_succ]
          rw [e7]
          go_wp2
          exact ⟨rfl, _, rfl, rfl, hb, stg_b (Below.refl _ _)⟩
        | 10, ho =>
          simp only [List.getElem?_cons_zero, List.getElem?_cons_succ, Option.some.injEq] at ho
          subst ho
          simp only [acV, List.getElem?_toArray, List.getElem?_cons_zero, List.getElem?_cons_succ, Act.put, List.setIfInBounds_toArray, List.set_cons_zero, List.set_cons_succ]
          go_wp2
          exact ⟨rfl, _, rfl, show WF0 Wr.heap.size _ _ from ⟨W.heap.size, hb.size, rfl, Blk.new _ _ _⟩, hb.alloc hb.size _, stg_b ((Below.refl _ _).alloc (Nat.le_refl _) _)⟩
        | 11, ho =>
          obtain ⟨g, hg, e10, kg⟩ : WF0 Wr.heap.size (vs 10) W := hd 10 (by simp [dp16])
          have e8 : vs 8 = .agg #[.int .i64 i0, .int .i64 i1, .int .i64 i2, .int .i64 i3, .int .i64 i4, .int .i64 0, .slice none 0 0] := hd 8 (by simp [dp16])
          simp only [List.getElem?_cons_zero, List.getElem?_cons_succ, Option.some.injEq] at ho
          subst ho
          simp only [acV, List.getElem?_toArray, List.getElem?_cons_zero, List.getElem?_cons_succ, Act.put, List.setIfInBounds_toArray, List.set_cons_zero, List.set_cons_succ]
          rw [e10, e8]
          have v0 := kg.cell 0
          have v1 := kg.cell 1
          have v2 := kg.cell 2
          have v3 := kg.cell 3
          have v4 := kg.cell 4
          have v5 := kg.cell 5
          have v6 := kg.cell 6
          have q0 := kg.frozen 0
          have q1 := kg.frozen 1
          have q2 := kg.frozen 2
          have q3 := kg.frozen 3
          have q4 := kg.frozen 4
          have q5 := kg.frozen 5
          have q6 := kg.frozen 6
          simp only [List.getElem?_toArray, List.getElem?_cons_zero, List.getElem?_cons_succ] at v0 v1 v2 v3 v4 v5 v6
          go_wp2
          exact ⟨rfl, undef, rfl, show WF1 Wr.heap.size i0 i1 i2 i3 i4 (vs 10) _ from ⟨g, hg, e10, ((((((kg.set_ 0 (.int .i64 i0)).set_ 1 (.int .i64 i1)).set_ 2 (.int .i64 i2)).set_ 3 (.int .i64 i3)).set_ 4 (.int .i64 i4)).set_ 5 (.int .i64 0)).set_ 6 (.slice none 0 0)⟩,
            ((((((hb.setCell (p := ⟨g, 0, none⟩) hg (.int .i64 i0)).setCell (p := ⟨g, 1, none⟩) hg (.int .i64 i1)).setCell (p := ⟨g, 2, none⟩) hg (.int .i64 i2)).setCell (p := ⟨g, 3, none⟩) hg (.int .i64 i3)).setCell (p := ⟨g, 4, none⟩) hg (.int .i64 i4)).setCell (p := ⟨g, 5, none⟩) hg (.int .i64 0)).setCell (p := ⟨g, 6, none⟩) hg (.slice none 0 0), stg_a⟩
        | 12, ho =>
          have e9 : vs 9 = .bool bb := hd 9 (by simp [dp16])
          simp only [List.getElem?_cons_zero, List.getElem?_cons_succ, Option.some.injEq] at ho
          subst ho
          simp only [acV, List.getElem?_toArray, List.getElem?_cons_zero, List.getElem?_cons_succ, Act.put, List.setIfInBounds_toArray, List.set_cons_zero, List.set_cons_succ]
          rw [e9]
          go_wp2
          exact ⟨rfl, _, rfl, rfl, hb, stg_b (Below.refl _ _)⟩
        | i + 13, ho => simp at ho
      case hend =>
        rintro vs W1 hb1 hd
        obtain ⟨g, hg, e10, kg⟩ : WF1 Wr.heap.size i0 i1 i2 i3 i4 (vs 10) W1 := hd 11 (by simp) (by intro i _; unfold klG; split <;> simp)
        have e12 : vs 12 = .bool bb := hd 12 (by simp) (by intro i _; unfold klG; split <;> simp)
        clear hd
        simp only [acV, List.getElem?_toArray, List.getElem?_cons_zero, List.getElem?_cons_succ, Act.put, List.setIfInBounds_toArray, List.set_cons_zero, List.set_cons_succ, List.length_cons, List.length_nil, Nat.reduceAdd]
        rw [e10, e12]
        have hb5W := hbr.trans (hb1.mono hs5)
        have k11a := k11.below hb1 k11.lt
        have hown1 := own_below hown hb1 (Nat.le_refl _)
        have hs1 := hb1.size
        have hper : Hid ((bb = false ∧ perL H level (⟨dk, da, db⟩ : Cho) = []) ∨ (bb = true ∧ ∃ x, perL H level (⟨dk, da, db⟩ : Cho) = [((⟨dk, da, db⟩ : Cho), x)] ∧ [Value.int .i64 i0, .int .i64 i1, .int .i64 i2, .int .i64 i3, .int .i64 i4, .int .i64 0, .slice none 0 0] = encX ((⟨dk, da, db⟩ : Cho), x))) := hide (by
          unfold perL
          rcases hcs with ⟨q1, q2⟩ | ⟨q1, x, q2, q3⟩
          · exact .inl ⟨q1, by rw [q2]; rfl⟩
          · exact .inr ⟨q1, x, by rw [q2]; rfl, q3⟩)
        clear hcs hplc hcd hcd1 hcd2 hch hbr hb1 hBr k11 hown e10 e12 hs5
        go_upto_region 17 with fail
        go_cut [64] (fun s64 wz => s64 = .bool bb ∧ wz = W1)
        case first =>
          go_wp2
          go_meet
          exact ⟨rfl, rfl⟩
        obtain ⟨rfl, hwc⟩ := hcut
        subst hwc
        obtain ⟨W1, rfl⟩ : ∃ W1, W1 = wc := ⟨_, rfl⟩
        first | go_skip | go_values | go_guarded | go_step | go_upon
        go_cut [14] (fun s14 wz => ∃ v', Below w5.heap.size w5 wz ∧ Blk wz w5.heap.size 44 #[.int .i64 3, .slice none 0 0, .slice none 0 0, v'] ∧ OwnXr wz (w5.heap.size + 1) v' (LL ++ perL H level (⟨dk, da, db⟩ : Cho)))
        case first =>
          rcases hper.out with ⟨rfl, hpe⟩ | ⟨rfl, x, hpe, hen⟩
          · have hown2 : Hid (OwnXr W1 (w5.heap.size + 1) v (LL ++ perL H level (⟨dk, da, db⟩ : Cho))) := hide (by rw [hpe, List.append_nil]; exact hown1)
            clear hper hpe hown1
            go_wp2
            go_meet
            exact ⟨v, hb5W, k11a, hown2.out⟩
          · replace hpe := hide hpe
            replace hen := hide hen
            obtain ⟨Av, cv, rfl⟩ := own_slice hown1
            obtain ⟨ii, hii, hi1, hi2, hi3⟩ := info_parts infoF22r
            have h63 : LL.length + 1 ≤ maxLen := by have := hLL.out; unfold maxLen; omega
            have h64b : (LL.length + 1) * 72 ≤ 140737488355328 := by have := hLL.out; omega
            have hbs : w5.heap.size + 1 ≤ W1.heap.size := by have := k11a.lt; omega
            have hlo := hide (fun b hb => (World.ownsRow.lt hown1 b hb).1)
            have p3 := k11a.cell 3
            have v0 := kg.cell 0
            have v1 := kg.cell 1
            have v2 := kg.cell 2
            have v3 := kg.cell 3
            have v4 := kg.cell 4
            have v5 := kg.cell 5
            have v6 := kg.cell 6
            simp only [List.getElem?_toArray, List.getElem?_cons_zero, List.getElem?_cons_succ] at v0 v1 v2 v3 v4 v5 v6 p3
            replace hown1 := hide hown1
            clear hper kg
            go_wp2_with (at_builtin; go_loud (refine wpList_push (enc := encX) rfl (.tmp 66) (.tmp 68) 42 rfl (w5.heap.size + 1) 119 ii _ 7 72 Tryz.underlying42 hii hi1 hi2 hi3 rfl (by decide) (.slice Av LL.length cv) LL rfl hown1.out encX_len ((⟨dk, da, db⟩ : Cho), x) #[.int .i64 i0, .int .i64 i1, .int .i64 i2, .int .i64 i3, .int .i64 i4, .int .i64 0, .slice none 0 0] hen.out rfl encX_one h63 h64b hbs w5 w5.heap.size (Nat.le_succ _) hb5W ?_); intro v9 w9 hown9 hg9 hb9 hat9; obtain ⟨A9, c9, rfl⟩ := own_slice hown9; have k9 := (k11a.alloc (.cells #[.int .i64 i0, .int .i64 i1, .int .i64 i2, .int .i64 i3, .int .i64 i4, .int .i64 0, .slice none 0 0] 119)).grown hg9 (fun e => by have := hlo.out _ e.symm; omega); have g9 := k9.cell 3; have f9 := k9.frozen 3)
            have hlx : (LL ++ [(((⟨dk, da, db⟩ : Cho), x) : Cho × Option Nat)]).length = LL.length + 1 := by simp
            have hown2 : OwnXr w9 (w5.heap.size + 1) (.slice A9 (LL.length + 1) c9) (LL ++ perL H level (⟨dk, da, db⟩ : Cho)) := by rw [hpe.out, ← hlx]; exact hown9
            go_meet
            exact ⟨.slice A9 (LL.length + 1) c9, hb9.setCell (p := ⟨w5.heap.size, 3, none⟩) (Nat.le_refl _) _, k9.set_ 3 _, World.ownsRow.kept hown2 (grown_set _ _ _) (.inr fun e => by have := (World.ownsRow.lt hown2 _ e).1; omega)⟩
        case rest =>
          obtain ⟨v, hbr, k11, hown⟩ := hcut
          clear hown1 k11a hb5W hper kg hLL
          obtain ⟨Wr, rfl⟩ : ∃ Wr, Wr = wc := ⟨_, rfl⟩
          have hLL : Hid ((LL ++ perL H level (⟨dk, da, db⟩ : Cho)).length ≤ 40000) := hide (by have := hLL0.out; have := perL_len H level (⟨dk, da, db⟩ : Cho); rw [List.length_append]; omega)
          rw [← List.append_assoc] at hst
          replace hst : Hid (plainL H level (P.take (k + 1)) = (LL ++ perL H level (⟨dk, da, db⟩ : Cho)) ++ perL H level (⟨dk, db, da⟩ : Cho)) := hst
          clear hLL0
          generalize LL ++ perL H level (⟨dk, da, db⟩ : Cho) = LL at *
          have hBr := hB5.trans (hbr.mono hB5.size)
          have hs5 := hbr.size
          have hcd := hide (fun W (hb : Below Wr.heap.size Wr W) => ((hbr.trans (hb.mono hs5)).cell (p := ⟨bp, off + k * 3, none⟩) hbK).trans d0)
          have hcd1 := hide (fun W (hb : Below Wr.heap.size Wr W) => ((hbr.trans (hb.mono hs5)).cell (p := ⟨bp, off + k * 3 + 1, none⟩) hbK).trans d1)
          have hcd2 := hide (fun W (hb : Below Wr.heap.size Wr W) => ((hbr.trans (hb.mono hs5)).cell (p := ⟨bp, off + k * 3 + 2, none⟩) hbK).trans d2)
          have hch := hide (fun W (hb : Below Wr.heap.size Wr W) => ((k0.below (hbr.trans (hb.mono hs5)) k0.lt).cell 0))
          have hplc := hide (fun W (hb : Below Wr.heap.size Wr W) => rplain28_any A c H level (⟨dk, db, da⟩ : Cho) W (hh.out W (hBr.trans (hb.mono hBr.size))) hn.out)
          obtain ⟨i0, i1, i2, i3, i4, bb, hpv, hcs⟩ := plV_form (⟨dk, db, da⟩ : Cho) (perF H level (⟨dk, db, da⟩ : Cho))
          rw [hpv] at hplc
          clear hpv
          go_upto_region 19 with fail
          refine wp_region_rel (RsG (ws19 A c H.length level bp off P.length cp k Wr.heap.size ⟨dk, da, db⟩ i0 i1 i2 i3 i4 bb) 12) (fun W => Below Wr.heap.size Wr W) (StG 12) dp19 (by kernel_rfl) (by kernel_rfl) (by kernel_rfl) dp19_end (klG 12) (by kernel_rfl) (rsg_cg (by simp [dp19])) (rsg_keep ws19_st ws19_free) (Below.refl _ _).drew ?hstep ?hend
          case hstep =>
            intro i o ho vs W hb hd
            match i, ho with
            | 0, ho =>
              simp only [List.getElem?_cons_zero, List.getElem?_cons_succ, Option.some.injEq] at ho
              subst ho
              simp only [acV, List.getElem?_toArray, List.getElem?_cons_zero, List.getElem?_cons_succ, Act.put, List.setIfInBounds_toArray, List.set_cons_zero, List.set_cons_succ]
              have v0 := hch.out W hb
              simp only [List.getElem?_toArray, List.getElem?_cons_zero] at v0
              go_wp2
              exact ⟨rfl, _, rfl, rfl, hb, stg_b (Below.refl _ _)⟩
            | 1, ho =>
              simp only [List.getElem?_cons_zero, List.getElem?_cons_succ, Option.some.injEq] at ho
              subst ho
              simp only [acV, List.getElem?_toArray, List.getElem?_cons_zero, List.getElem?_cons_succ, Act.put, List.setIfInBounds_toArray, List.set_cons_zero, List.set_cons_succ]
              go_wp2
              exact ⟨rfl, _, rfl, rfl, hb, stg_b (Below.refl _ _)⟩
            | 2, ho =>
              simp only [List.getElem?_cons_zero, List.getElem?_cons_succ, Option.some.injEq] at ho
              subst ho
              simp only [acV, List.getElem?_toArray, List.getElem?_cons_zero, List.getElem?_cons_succ, Act.put, List.setIfInBounds_toArray, List.set_cons_zero, List.set_cons_succ]
              go_wp2
              exact ⟨rfl, _, rfl, rfl, hb, stg_b (Below.refl _ _)⟩
            | 3, ho =>
              simp only [List.getElem?_cons_zero, List.getElem?_cons_succ, Option.some.injEq] at ho
              subst ho
              simp only [acV, List.getElem?_toArray, List.getElem?_cons_zero, List.getElem?_cons_succ, Act.put, List.setIfInBounds_toArray, List.set_cons_zero, List.set_cons_succ]
              go_wp2
              exact ⟨rfl, _, rfl, rfl, hb, stg_b (Below.refl _ _)⟩
            | 4, ho =>
              have e2 : vs 2 = .slice (some ⟨bp, off, none⟩) P.length cp := hd 2 (by simp [dp19])
              have e3 : vs 3 = .int .i64 (k : Int) := hd 3 (by simp [dp19])
              simp only [List.getElem?_cons_zero, List.getElem?_cons_succ, Option.some.injEq] at ho
              subst ho
              simp only [acV, List.getElem?_toArray, List.getElem?_cons_zero, List.getElem?_cons_succ, Act.put, List.setIfInBounds_toArray, List.set_cons_zero, List.set_cons_succ]
              rw [e2, e3]
              go_wp2
              exact ⟨rfl, _, rfl, rfl, hb, stg_b (Below.refl _ _)⟩
            | 5, ho =>
              have e4 : vs 4 = .pointer (some ⟨bp, off + k * 3, none⟩) := hd 4 (by simp [dp19])
              simp only [List.getElem?_cons_zero, List.getElem?_cons_succ, Option.some.injEq] at ho
              subst ho
              simp only [acV, List.getElem?_toArray, List.getElem?_cons_zero, List.getElem?_cons_succ, Act.put, List.setIfInBounds_toArray, List.set_cons_zero, List.set_cons_succ]
              rw [e4]
              have v0 := hcd.out W hb
              have v1 := hcd1.out W hb
              have v2 := hcd2.out W hb
              go_wp2
              exact ⟨rfl, _, rfl, rfl, hb, stg_b (Below.refl _ _)⟩
            | 6, ho =>
              have e5 : vs 5 = .agg #[.int .i64 dk, .int .i64 da, .int .i64 db] := hd 5 (by simp [dp19])
              simp only [List.getElem?_cons_zero, List.getElem?_cons_succ, Option.some.injEq] at ho
              subst ho
              simp only [acV, List.getElem?_toArray, List.getElem?_cons_zero, List.getElem?_cons_succ, Act.put, List.setIfInBounds_toArray, List.set_cons_zero, List.set_cons_succ]
              rw [e5]
              go_wp2_with fail
              refine Calls.mono (rback18_any dk da db W) ?_
              rintro e W2 ⟨rfl, hb2⟩
              go_wp2
              exact ⟨rfl, _, rfl, rfl, hb.trans (hb2.mono hb.size), stg_b hb2⟩
            | 7, ho =>
              have e0 : vs 0 = .agg #[.slice A H.length c] := hd 0 (by simp [dp19])
              have e1 : vs 1 = .int .i64 level := hd 1 (by simp [dp19])
              have e5 : vs 6 = .agg #[.int .i64 dk, .int .i64 db, .int .i64 da] := hd 6 (by simp [dp19])
              simp only [List.getElem?_cons_zero, List.getElem?_cons_succ, Option.some.injEq] at ho
              subst ho
              simp only [acV, List.getElem?_toArray, List.getElem?_cons_zero, List.getElem?_cons_succ, Act.put, List.setIfInBounds_toArray, List.set_cons_zero, List.set_cons_succ]
              rw [e0, e1, e5]
              go_wp2_with fail
              refine Calls.mono (hplc.out W hb) ?_
              rintro e W2 ⟨rfl, hb2⟩
              go_wp2
              exact ⟨rfl, _, rfl, rfl, hb.trans (hb2.mono hb.size), stg_b hb2⟩
            | 8, ho =>
              have e6 : vs 7 = .tuple #[.agg #[.int .i64 i0, .int .i64 i1, .int .i64 i2, .int .i64 i3, .int .i64 i4, .int .i64 0, .slice none 0 0], .bool bb] := hd 7 (by simp [dp19])
              simp only [List.getElem?_cons_zero, List.getElem?_cons_succ, Option.some.injEq] at ho
              subst ho
              simp only [acV, List.getElem?_toArray, List.getElem?_cons_zero, List.getElem?_cons_succ, Act.put, List.setIfInBounds_toArray, List.set_cons_zero, List.set_cons_succ]
              rw [e6]
              go_wp2
              exact ⟨rfl, _, rfl, rfl, hb, stg_b (Below.refl _ _)⟩
            | 9, ho =>
              have e7 : vs 8 = .tuple #[.agg #[.int .i64 i0, .int .i64 i1, .int .i64 i2, .int .i64 i3, .int .i64 i4, .int .i64 0, .slice none 0 0], .bool bb] := hd 8 (by simp [dp19])
              simp only [List.getElem?_cons_zero, List.getElem?_cons_succ, Option.some.injEq] at ho
              subst ho
              simp only [acV, List.getElem?_toArray, List.getElem?_cons_zero, List.getElem?_cons_succ, Act.put, List.setIfInBounds_toArray, List.set_cons_zero, List.set_cons_succ]
              rw [e7]
              go_wp2
              exact ⟨rfl, _, rfl, rfl, hb, stg_b (Below.refl _ _)⟩
            | 10, ho =>
              have e7 : vs 8 = .tuple #[.agg #[.int .i64 i0, .int .i64 i1, .int .i64 i2, .int .i64 i3, .int .i64 i4, .int .i64 0, .slice none 0 0], .bool bb] := hd 8 (by simp [dp19])
              simp only [List.getElem?_cons_zero, List.getElem?_cons_succ, Option.some.injEq] at ho
              subst ho
              simp only [acV, List.getElem?_toArray, List.getElem?_cons_zero, List.getElem?_cons_succ, Act.put, List.setIfInBounds_toArray, List.set_cons_zero, List.set_cons_succ]
              rw [e7]
              go_wp2
              exact ⟨rfl, _, rfl, rfl, hb, stg_b (Below.refl _ _)⟩
            | 11, ho =>
              simp only [List.getElem?_cons_zero, List.getElem?_cons_succ, Option.some.injEq] at ho
              subst ho
              simp only [acV, List.getElem?_toArray, List.getElem?_cons_zero, List.getElem?_cons_succ, Act.put, List.setIfInBounds_toArray, List.set_cons_zero, List.set_cons_succ]
              go_wp2
              exact ⟨rfl, _, rfl, show WF0 Wr.heap.size _ _ from ⟨W.heap.size, hb.size, rfl, Blk.new _ _ _⟩, hb.alloc hb.size _, stg_b ((Below.refl _ _).alloc (Nat.le_refl _) _)⟩
            | 12, ho =>
              obtain ⟨g, hg, e10, kg⟩ : WF0 Wr.heap.size (vs 11) W := hd 11 (by simp [dp19])
              have e8 : vs 9 = .agg #[.int .i64 i0, .int .i64 i1, .int .i64 i2, .int .i64 i3, .int .i64 i4, .int .i64 0, .slice none 0 0] := hd 9 (by simp [dp19])
              simp only [List.getElem?_cons_zero, List.getElem?_cons_succ, Option.some.injEq] at ho
              subst ho
              simp only [acV, List.getElem?_toArray, List.getElem?_cons_zero, List.getElem?_cons_succ, Act.put, List.setIfInBounds_toArray, List.set_cons_zero, List.set_cons_succ]
              rw [e10, e8]
              have v0 := kg.cell 0
              have v1 := kg.cell 1
              have v2 := kg.cell 2
              have v3 := kg.cell 3
              have v4 := kg.cell 4
              have v5 := kg.cell 5
              have v6 := kg.cell 6
              have q0 := kg.frozen 0
              have q1 := kg.frozen 1
              have q2 := kg.frozen 2
              have q3 := kg.frozen 3
              have q4 := kg.frozen 4
              have q5 := kg.frozen 5
              have q6 := kg.frozen 6
              simp only [List.getElem?_toArray, List.getElem?_cons_zero, List.getElem?_cons_succ] at v0 v1 v2 v3 v4 v5 v6
              go_wp2
              exact ⟨rfl, undef, rfl, show WF1 Wr.heap.size i0 i1 i2 i3 i4 (vs 11) _ from ⟨g, hg, e10, ((((((kg.set_ 0 (.int .i64 i0)).set_ 1 (.int .i64 i1)).set_ 2 (.int .i64 i2)).set_ 3 (.int .i64 i3)).set_ 4 (.int .i64 i4)).set_ 5 (.int .i64 0)).set_ 6 (.slice none 0 0)⟩,
                ((((((hb.setCell (p := ⟨g, 0, none⟩) hg (.int .i64 i0)).setCell (p := ⟨g, 1, none⟩) hg (.int .i64 i1)).setCell (p := ⟨g, 2, none⟩) hg (.int .i64 i2)).setCell (p := ⟨g, 3, none⟩) hg (.int .i64 i3)).setCell (p := ⟨g, 4, none⟩) hg (.int .i64 i4)).setCell (p := ⟨g, 5, none⟩) hg (.int .i64 0)).setCell (p := ⟨g, 6, none⟩) hg (.slice none 0 0), stg_a⟩
            | 13, ho =>
              have e9 : vs 10 = .bool bb := hd 10 (by simp [dp19])
              simp only [List.getElem?_cons_zero, List.getElem?_cons_succ, Option.some.injEq] at ho
              subst ho
              simp only [acV, List.getElem?_toArray, List.getElem?_cons_zero, List.getElem?_cons_succ, Act.put, List.setIfInBounds_toArray, List.set_cons_zero, List.set_cons_succ]
              rw [e9]
              go_wp2
              exact ⟨rfl, _, rfl, rfl, hb, stg_b (Below.refl _ _)⟩
            | i + 14, ho => simp at ho
          case hend =>
            rintro vs W1 hb1 hd
            obtain ⟨g, hg, e10, kg⟩ : WF1 Wr.heap.size i0 i1 i2 i3 i4 (vs 11) W1 := hd 12 (by simp) (by intro i _; unfold klG; split <;> simp)
            have e12 : vs 13 = .bool bb := hd 13 (by simp) (by intro i _; unfold klG; split <;> simp)
            clear hd
            simp only [acV, List.getElem?_toArray, List.getElem?_cons_zero, List.getElem?_cons_succ, Act.put, List.setIfInBounds_toArray, List.set_cons_zero, List.set_cons_succ, List.length_cons, List.length_nil, Nat.reduceAdd]
            rw [e10, e12]
            have hb5W := hbr.trans (hb1.mono hs5)
            have k11a := k11.below hb1 k11.lt
            have hown1 := own_below hown hb1 (Nat.le_refl _)
            have hs1 := hb1.size
            have hper : Hid ((bb = false ∧ perL H level (⟨dk, db, da⟩ : Cho) = []) ∨ (bb = true ∧ ∃ x, perL H level (⟨dk, db, da⟩ : Cho) = [((⟨dk, db, da⟩ : Cho), x)] ∧ [Value.int .i64 i0, .int .i64 i1, .int .i64 i2, .int .i64 i3, .int .i64 i4, .int .i64 0, .slice none 0 0] = encX ((⟨dk, db, da⟩ : Cho), x))) := hide (by
              unfold perL
              rcases hcs with ⟨q1, q2⟩ | ⟨q1, x, q2, q3⟩
              · exact .inl ⟨q1, by rw [q2]; rfl⟩
              · exact .inr ⟨q1, x, by rw [q2]; rfl, q3⟩)
            clear hcs hplc hcd hcd1 hcd2 hch hbr hb1 hBr k11 hown e10 e12 hs5
            go_upto_region 20 with fail
            rcases hper.out with ⟨rfl, hpe⟩ | ⟨rfl, x, hpe, hen⟩
            · have hown2 : Hid (OwnXr W1 (w5.heap.size + 1) v (LL ++ perL H level (⟨dk, db, da⟩ : Cho))) := hide (by rw [hpe, List.append_nil]; exact hown1)
              clear hper hpe hown1
              go_wp2
              go_roundw
              case rel => exact ⟨k + 1, v, by omega, by go_num, hb5W, k11a, by rw [hst.out]; exact hown2.out⟩
              case measure => simp [intOf] <;> omega
            · replace hpe := hide hpe
              replace hen := hide hen
              obtain ⟨Av, cv, rfl⟩ := own_slice hown1
              obtain ⟨ii, hii, hi1, hi2, hi3⟩ := info_parts infoF22r
              have h63 : LL.length + 1 ≤ maxLen := by have := hLL.out; unfold maxLen; omega
              have h64b : (LL.length + 1) * 72 ≤ 140737488355328 := by have := hLL.out; omega
              have hbs : w5.heap.size + 1 ≤ W1.heap.size := by have := k11a.lt; omega
              have hlo := hide (fun b hb => (World.ownsRow.lt hown1 b hb).1)
              have p3 := k11a.cell 3
              have v0 := kg.cell 0
              have v1 := kg.cell 1
              have v2 := kg.cell 2
              have v3 := kg.cell 3
              have v4 := kg.cell 4
              have v5 := kg.cell 5
              have v6 := kg.cell 6
              simp only [List.getElem?_toArray, List.getElem?_cons_zero, List.getElem?_cons_succ] at v0 v1 v2 v3 v4 v5 v6 p3
              replace hown1 := hide hown1
              clear hper kg
              go_wp2_with (at_builtin; go_loud (refine wpList_push (enc := encX) rfl (.tmp 84) (.tmp 86) 42 rfl (w5.heap.size + 1) 119 ii _ 7 72 Tryz.underlying42 hii hi1 hi2 hi3 rfl (by decide) (.slice Av LL.length cv) LL rfl hown1.out encX_len ((⟨dk, db, da⟩ : Cho), x) #[.int .i64 i0, .int .i64 i1, .int .i64 i2, .int .i64 i3, .int .i64 i4, .int .i64 0, .slice none 0 0] hen.out rfl encX_one h63 h64b hbs w5 w5.heap.size (Nat.le_succ _) hb5W ?_); intro v9 w9 hown9 hg9 hb9 hat9; obtain ⟨A9, c9, rfl⟩ := own_slice hown9; have k9 := (k11a.alloc (.cells #[.int .i64 i0, .int .i64 i1, .int .i64 i2, .int .i64 i3, .int .i64 i4, .int .i64 0, .slice none 0 0] 119)).grown hg9 (fun e => by have := hlo.out _ e.symm; omega); have g9 := k9.cell 3; have f9 := k9.frozen 3)
              have hlx : (LL ++ [(((⟨dk, db, da⟩ : Cho), x) : Cho × Option Nat)]).length = LL.length + 1 := by simp
              have hown2 : OwnXr w9 (w5.heap.size + 1) (.slice A9 (LL.length + 1) c9) (LL ++ perL H level (⟨dk, db, da⟩ : Cho)) := by rw [hpe.out, ← hlx]; exact hown9
              have hof := World.ownsRow.kept hown2 (grown_set w5.heap.size 3 (.slice A9 (LL.length + 1) c9)) (.inr fun e => by have := (World.ownsRow.lt hown2 _ e).1; omega)
              go_roundw
              case rel => exact ⟨k + 1, .slice A9 (LL.length + 1) c9, by omega, by go_num, hb9.setCell (p := ⟨w5.heap.size, 3, none⟩) (Nat.le_refl _) _, k9.set_ 3 _, by rw [hst.out]; exact hof⟩
              case measure => simp [intOf] <;> omega
    · obtain rfl : k = P.length := by omega
      rw [List.take_length] at hown
      obtain ⟨Av, cv, rfl⟩ := own_slice hown
      have hBr := hB5.trans (hbr.mono hB5.size)
      have k1r := k1.below hbr k1.lt
      have kf : Blk _ (w.heap.size + 1) 44 #[.int .i64 3, .slice none 0 0, .slice none 0 0, .slice Av (plainL H level P).length cv] := (((k1r.set_ 0 (.int .i64 3)).set_ 1 (.slice none 0 0)).set_ 2 (.slice none 0 0)).set_ 3 (.slice Av (plainL H level P).length cv)
      have hno : ∀ g, (Value.slice Av (plainL H level P).length cv).ownBlock = some g → g ≠ w.heap.size + 1 := fun g e => by have := (World.ownsRow.lt hown g e).1; omega
      have hof := hide ((((World.ownsRow.kept hown (grown_set (w.heap.size + 1) 0 (.int .i64 3)) (.inr fun e => hno _ e rfl)).kept (grown_set (w.heap.size + 1) 1 (.slice none 0 0)) (.inr fun e => hno _ e rfl)).kept (grown_set (w.heap.size + 1) 2 (.slice none 0 0)) (.inr fun e => hno _ e rfl)).kept (grown_set (w.heap.size + 1) 3 (.slice Av (plainL H level P).length cv)) (.inr fun e => hno _ e rfl))
      have hBf := hide ((((hBr.setCell (p := ⟨w.heap.size + 1, 0, none⟩) (by simp) (.int .i64 3)).setCell (p := ⟨w.heap.size + 1, 1, none⟩) (by simp) (.slice none 0 0)).setCell (p := ⟨w.heap.size + 1, 2, none⟩) (by simp) (.slice none 0 0)).setCell (p := ⟨w.heap.size + 1, 3, none⟩) (by simp) (.slice Av (plainL H level P).length cv))
      have r0 := hide (kf.cell 0)
      have r1 := hide (kf.cell 1)
      have r2 := hide (kf.cell 2)
      have r3 := hide (kf.cell 3)
      simp only [List.getElem?_toArray, List.getElem?_cons_zero, List.getElem?_cons_succ] at r0 r1 r2 r3
      have p0 := k1r.cell 0
      have p1 := k1r.cell 1
      have p2 := k1r.cell 2
      have p3 := k1r.cell 3
      have q0 := k1r.frozen 0
      have q1 := k1r.frozen 1
      have q2 := k1r.frozen 2
      have q3 := k1r.frozen 3
      have x0 := k11.cell 0
      have x1 := k11.cell 1
      have x2 := k11.cell 2
      have x3 := k11.cell 3
      simp only [List.getElem?_toArray, List.getElem?_cons_zero, List.getElem?_cons_succ] at p0 p1 p2 p3 x0 x1 x2 x3
      clear kf hno hown hBr k1r k11 hbr
      go_upto_region 22 with fail
      repeat' (first | go_values | go_skip | go_guarded | go_step | go_upon)
      try simp only [Exit.inBlock, Exit.then]
      exact bodyPost_ret (v := .agg #[.int .i64 3, .slice none 0 0, .slice none 0 0, .slice Av (plainL H level P).length cv]) (by simp [results, Tryz.results25, go_sem, r0.out, r1.out, r2.out, r3.out]) rfl ⟨_, _, _, rfl, OwnI.nil _ _, rfl, own_base hof.out (by omega), hBf.out⟩
/-- What the reference says of any history, at any level. -/
theorem rstep28_any (A : Option Addr) (c : Nat) (H : List Txn) (level : Int) (w : World) (h : TxnS w (Old w) (.slice A H.length c) H) (hn : SmallH H) :
    Calls Tryz.prog 25 #[.agg #[.slice A H.length c], .int .i64 level] w (ScrOutR w (scrH H level)) := by
  have hm : mayB H level = (rightC H [] && (decide (level = 0) || decide (level = 1))) := by
    unfold mayB rightC
    simp
  cases hb : rightC H [] && (decide (level = 0) || decide (level = 1)) with
  | false => exact rstep28_bad A c H level w h hn (hm.trans hb) (by unfold scrH; rw [hb]; rfl)
  | true =>
    have hr : rightC H [] = true := by rw [Bool.and_eq_true] at hb; exact hb.1
    by_cases hf : findL H.length (fullE H level []) = []
    · by_cases hp : pairsL H = []
      · obtain ⟨O, hO⟩ := Option.isSome_iff_exists.1 (show (orderT H.length (fullE H level [])).isSome = true by rw [orderT_cyc, findL_nil.1 hf]; rfl)
        exact rstep28_yes A c H level w h hn (hm.trans hb) hr hf hp O hO (by unfold scrH; rw [hb, if_pos rfl, if_pos hf, if_pos hp, hO]; rfl)
      · exact rstep28_stuck A c H level w h hn (hm.trans hb) hr hf hp (by unfold scrH; rw [hb, if_pos rfl, if_pos hf, if_neg hp])
    · exact rstep28_no A c H level w h hn (hm.trans hb) hr hf (by unfold scrH; rw [hb, if_pos rfl, if_neg hf])
end Go.Proofs.YtjomijnbnbideaaGreatDoor
