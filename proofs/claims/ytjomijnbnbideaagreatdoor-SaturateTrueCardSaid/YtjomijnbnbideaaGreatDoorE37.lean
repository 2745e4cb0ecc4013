/-
  Walks: layer 29: a step of Saturate.
-/
import Derived.Test.YtjomijnbnbideaaGreatDoorE35
import Derived.Test.YtjomijnbnbideaaGreatDoorE36
set_option linter.unusedVariables false
set_option linter.unusedSimpArgs false
namespace Go.Proofs.YtjomijnbnbideaaGreatDoor
open Go.RowKit Go.Inq
set_option maxHeartbeats 8000000
attribute [local go_sem ↓] Go.wp_at_zero Go.wp_at_succ

/-- What a step tells: the state behind it, and what it says. -/
def SatOut (w : World) (r : (Int × Int) × Say) (e : Ending) (w' : World) : Prop := ∃ v, e = .returned (.tuple #[.agg #[.int .i64 r.1.1, .int .i64 r.1.2], v]) ∧ SayV w' w.heap.size v r.2 ∧ Below w.heap.size w w'
def wSy (base : Nat) (o : Say) : Wrd := ⟨[3, 114, 51], fun v W => SayV W base v o, fun _ _ _ _ _ h hT k => by
  obtain ⟨vo, vt, vf, h1, h2, h3, h4⟩ := k
  refine ⟨vo, vt, vf, h1, hT.own h2 (h _ (by simp)), hT.ownR NodR.stab h3 fun t ht => ?_, hT.ownR FctR.stab h4 fun t ht => ?_⟩
  · simp only [List.mem_cons, List.not_mem_nil, or_false] at ht
    rcases ht with rfl | rfl <;> exact h _ (by simp)
  · simp only [List.mem_cons, List.not_mem_nil, or_false] at ht
    rcases ht with rfl | rfl <;> exact h _ (by simp)⟩
/-- A variable that holds what is said. -/
def wSb (g base : Nat) (o : Say) : Wrd := ⟨[35, 3, 114, 51], fun _ W => ∃ vo vt vf, Blk W g 35 #[.int .i64 o.said, vo, vt, vf] ∧ OwnI W base vo (intsN o.order) ∧ NodO W base vt o.tree ∧ FctO W base vf o.facts, fun _ _ _ _ _ h hT k => by
  obtain ⟨vo, vt, vf, h1, h2, h3, h4⟩ := k
  refine ⟨vo, vt, vf, hT.blk h1 (h _ (by simp)), hT.own h2 (h _ (by simp)), hT.ownR NodR.stab h3 fun t ht => ?_, hT.ownR FctR.stab h4 fun t ht => ?_⟩
  · simp only [List.mem_cons, List.not_mem_nil, or_false] at ht
    rcases ht with rfl | rfl <;> exact h _ (by simp)
  · simp only [List.mem_cons, List.not_mem_nil, or_false] at ht
    rcases ht with rfl | rfl <;> exact h _ (by simp)⟩
theorem stepS_is (H : List Txn) (level x y : Int) (L : List Fct) : (satR H x y = false → stepS H level x y L = ((x, y), stuckS)) ∧ (L.length ≥ 20000 → stepS H level x y L = ((x, y), stuckS)) ∧ (replB H level L = false → stepS H level x y L = ((x, y), stuckS)) ∧
    (satR H x y = true → L.length < 20000 → replB H level L = true → (y = ((pairsL H).length : Int) → stepS H level x y L = ((x, y), overS H level L)) ∧
      (y ≠ ((pairsL H).length : Int) → ∃ m : Nat, x = (m : Int) ∧ 0 ≤ y ∧ y ≤ ((pairsL H).length : Int) ∧ ∃ hm : m < (pairsL H).length, (((chosL L).contains (pairsL H)[m] = true ∨ (chosL L).contains (turnB (pairsL H)[m]) = true) → stepS H level x y L = (((((m + 1) % (pairsL H).length : Nat) : Int), y + 1), goesS)) ∧
        ((chosL L).contains (pairsL H)[m] = false → (chosL L).contains (turnB (pairsL H)[m]) = false → stepS H level x y L = (((((m + 1) % (pairsL H).length : Nat) : Int), if (oneS H level L (pairsL H)[m]).facts = [] then y + 1 else 0), oneS H level L (pairsL H)[m])))) := by
  refine ⟨fun h => ?_, fun h => ?_, fun h => ?_, fun h1 h2 h3 => ?_⟩
  · unfold stepS; rw [h]; rfl
  · unfold stepS; rw [decide_eq_false (show ¬ L.length < 20000 by omega)]; simp
  · unfold stepS; rw [h]; simp
  · have hs : stepS H level x y L = if y = ((pairsL H).length : Int) then ((x, y), overS H level L)
      else
        let p := (pairsL H).getD x.toNat zeroC
        let at2 : Int := (((x.toNat + 1) % (pairsL H).length : Nat) : Int)
        if (chosL L).contains p || (chosL L).contains (turnB p) then ((at2, y + 1), goesS)
        else
          let o := oneS H level L p
          ((at2, if o.facts = [] then y + 1 else 0), o) := by
      unfold stepS
      rw [h1, decide_eq_true h2, h3]; rfl
    refine ⟨fun h4 => by rw [hs, if_pos h4], fun h4 => ?_⟩
    unfold satR at h1
    simp only [Bool.and_eq_true, decide_eq_true_eq] at h1
    obtain ⟨⟨⟨⟨-, a1⟩, a2⟩, a3⟩, a4⟩ := h1
    refine ⟨x.toNat, by omega, a1, a2, by omega, fun h5 => ?_, fun h5 h6 => ?_⟩
    · rw [hs, if_neg h4]
      dsimp only
      rw [getD_of (show x.toNat < (pairsL H).length by omega), if_pos (by rw [Bool.or_eq_true]; exact h5)]
    · rw [hs, if_neg h4]
      dsimp only
      rw [getD_of (show x.toNat < (pairsL H).length by omega), h5, h6]; rfl
set_option maxRecDepth 100000 in
theorem step29_any (A : Option Addr) (c : Nat) (H : List Txn) (level x y : Int) (Al : Option Addr) (cl : Nat) (L : List Fct) (w : World) (h : TxnS w (Old w) (.slice A H.length c) H) (hn : SmallH H) (hL : FctS w (Old w) (.slice Al L.length cl) L) (hF : FitF L) (hTB : TabB w) :
    Calls Tryz.prog 32 #[.agg #[.slice A H.length c], .int .i64 level, .agg #[.int .i64 x, .int .i64 y], .slice Al L.length cl] w (SatOut w (stepS H level x y L)) := by
  obtain ⟨W0, hW0⟩ : ∃ W0, (((w.alloc (.cells #[.slice A H.length c] 24)).alloc (.cells #[.int .i64 x, .int .i64 y] 64)).alloc (.cells #[.int .i64 0, .int .i64 0] 64)).alloc (.cells #[.int .i64 0, .slice none 0 0, .slice none 0 0, .slice none 0 0] 35) = W0 := ⟨_, rfl⟩
  have hB := below_four hW0
  have k0 := Blk.four1 hW0
  have k1 := Blk.four2 hW0
  have k2 := Blk.four3 hW0
  have k3 := Blk.four4 hW0
  have hri := hide (satR29_any A c H x y W0 (h.below hB) hn)
  have hrp := hide (fun W (hb : Below w.heap.size w W) => replay22_any A c H level Al cl L W (h.below hb) hn (hL.below hb) hF)
  have hpa := hide (fun W (hb : Below w.heap.size w W) (hr : rightH H = true) => pairs9_any A c H W (h.below hb) hn hr)
  have hov0 := hide (fun W (hb : Below w.heap.size w W) (hr : replB H level L = true) (hl : L.length < 20000) => over29_any A c H level Al cl L W (h.below hb) hn (hL.below hb) hF hr hl (hTB.below hb))
  have hon := hide (fun p W (hb : Below w.heap.size w W) (hr : replB H level L = true) (hp : oneB H p = true) (hl : L.length < 20000) => one29_any A c H level Al cl L p W (h.below hb) hn (hL.below hb) hF hr hp hl (hTB.below hb))
  have hch := hide (fun W (hb : Below w.heap.size w W) => choices22_any Al cl L W (hL.below hb) hF.1)
  have his := hide (stepS_is H level x y L)
  obtain ⟨r, hr⟩ : ∃ r, stepS H level x y L = r := ⟨_, rfl⟩
  rw [hr] at his
  rw [hr]
  obtain ⟨qs, hqs⟩ : ∃ qs, satR H x y = qs := ⟨_, rfl⟩
  obtain ⟨qr, hqr⟩ : ∃ qr, replB H level L = qr := ⟨_, rfl⟩
  have hsr : qs = true → rightH H = true := fun e => by
    rw [← hqs] at e
    unfold satR at e
    simp only [Bool.and_eq_true] at e
    exact e.1.1.1.1
  rw [hqs] at hri his
  rw [hqr] at hrp his hov0 hon
  have c0 := k0.cell 0
  simp only [List.getElem?_toArray, List.getElem?_cons_zero] at c0
  have a0 := k1.cell 0
  have a1 := k1.cell 1
  simp only [List.getElem?_toArray, List.getElem?_cons_zero, List.getElem?_cons_succ] at a0 a1
  clear h hL hF hTB hr hqs hqr
  replace hsr := hide hsr
  go_enter Tryz.func32, Tryz.ntmps32
  go_wp2_with fail
  clear hW0
  refine hri.out.mono ?_
  rintro e w1 ⟨rfl, hb1⟩
  have hB1 := hB.trans (hb1.mono hB.size)
  replace k0 := k0.below hb1 k0.lt
  replace k1 := k1.below hb1 k1.lt
  replace k2 := k2.below hb1 k2.lt
  replace k3 := k3.below hb1 k3.lt
  clear hri hb1 hB c0 a0 a1
  have c0 := k0.cell 0
  simp only [List.getElem?_toArray, List.getElem?_cons_zero] at c0
  have a0 := k1.cell 0
  have a1 := k1.cell 1
  simp only [List.getElem?_toArray, List.getElem?_cons_zero, List.getElem?_cons_succ] at a0 a1
  cases qs with
  | false =>
    obtain rfl := his.out.1 (by trivial)
    have s0 := k2.cell 0
    have s1 := k2.cell 1
    have fs0 := k2.frozen 0
    have fs1 := k2.frozen 1
    have z0 := k3.cell 0
    have z1 := k3.cell 1
    have z2 := k3.cell 2
    have z3 := k3.cell 3
    have f0 := k3.frozen 0
    have f1 := k3.frozen 1
    have f2 := k3.frozen 2
    have f3 := k3.frozen 3
    simp only [List.getElem?_toArray, List.getElem?_cons_zero, List.getElem?_cons_succ] at s0 s1 z0 z1 z2 z3
    have bS := (hB1.setCell (p := ⟨w.heap.size + 1 + 1, 0, none⟩) (show w.heap.size ≤ w.heap.size + 1 + 1 by omega) (.int .i64 x)).setCell (p := ⟨w.heap.size + 1 + 1, 1, none⟩) (show w.heap.size ≤ w.heap.size + 1 + 1 by omega) (.int .i64 y)
    have kS := (k2.set_ 0 (.int .i64 x)).set_ 1 (.int .i64 y)
    simp only [List.setIfInBounds_toArray, List.set_cons_zero, List.set_cons_succ] at kS
    have kO := (k3.far (p := ⟨w.heap.size + 1 + 1, 0, none⟩) (by show _ ≠ w.heap.size + 1 + 1; omega) (.int .i64 x)).far (p := ⟨w.heap.size + 1 + 1, 1, none⟩) (by show _ ≠ w.heap.size + 1 + 1; omega) (.int .i64 y)
    have zz0 := kO.cell 0
    have zz1 := kO.cell 1
    have zz2 := kO.cell 2
    have zz3 := kO.cell 3
    have ff0 := kO.frozen 0
    have ff1 := kO.frozen 1
    have ff2 := kO.frozen 2
    have ff3 := kO.frozen 3
    simp only [List.getElem?_toArray, List.getElem?_cons_zero, List.getElem?_cons_succ] at zz0 zz1 zz2 zz3
    have bZ := hide (setO_below (a := .int .i64 3) (b := .slice none 0 0) (c := .slice none 0 0) (d := .slice none 0 0) bS (show w.heap.size ≤ w.heap.size + 1 + 1 + 1 by omega))
    have kZ := setO_blk (a := .int .i64 3) (b := .slice none 0 0) (c := .slice none 0 0) (d := .slice none 0 0) kO
    have hTz := setO_ty (n0 := w.heap.size) (a := .int .i64 3) (b := .slice none 0 0) (c := .slice none 0 0) (d := .slice none 0 0) kO (by omega)
    have kS2 := hTz.blk kS (by decide)
    have y0 := kZ.cell 0
    have y1 := kZ.cell 1
    have y2 := kZ.cell 2
    have y3 := kZ.cell 3
    have x0 := kS2.cell 0
    have x1 := kS2.cell 1
    unfold setO at y0 y1 y2 y3 x0 x1
    simp only [List.getElem?_toArray, List.getElem?_cons_zero, List.getElem?_cons_succ] at y0 y1 y2 y3 x0 x1
    clear kS kO kZ hTz kS2 bS
    clear his hov0 hon hch hpa hrp hsr hB1 k0 k1 k2 k3
    go_wp2_with fail
    exact bodyPost_ret (v := .tuple #[.agg #[.int .i64 x, .int .i64 y], .agg #[.int .i64 3, .slice none 0 0, .slice none 0 0, .slice none 0 0]]) (by simp [results, Tryz.results32, go_sem, y0, y1, y2, y3, x0, x1]) rfl ⟨_, rfl, ⟨_, _, _, rfl, World.ownsRow_nil _ _ _ _, NodO.nil _ _, FctO.nil _ _⟩, bZ.out⟩
  | true =>
    by_cases hl : L.length < 20000
    · have g1 : decide ((L.length : Int) ≥ 20000) = false := by simp; omega
      have g2 : decide (20000 ≤ (L.length : Int)) = false := by simp; omega
      have g3 : decide (20000 ≤ L.length) = false := by simp; omega
      have hrp1 := hide (hrp.out w1 hB1)
      have hl2 := hide hl
      clear hrp hl
      go_wp2_with fail
      refine hrp1.out.mono ?_
      rintro e w2 ⟨rfl, hb2⟩
      have hB2 := hB1.trans (hb2.mono hB1.size)
      replace k0 := k0.below hb2 k0.lt
      replace k1 := k1.below hb2 k1.lt
      replace k2 := k2.below hb2 k2.lt
      replace k3 := k3.below hb2 k3.lt
      clear hrp1 hb2 hB1 c0 a0 a1
      have c0 := k0.cell 0
      simp only [List.getElem?_toArray, List.getElem?_cons_zero] at c0
      have a0 := k1.cell 0
      have a1 := k1.cell 1
      simp only [List.getElem?_toArray, List.getElem?_cons_zero, List.getElem?_cons_succ] at a0 a1
      cases qr with
      | false =>
        obtain rfl := his.out.2.2.1 (by trivial)
        have s0 := k2.cell 0
        have s1 := k2.cell 1
        have fs0 := k2.frozen 0
        have fs1 := k2.frozen 1
        have z0 := k3.cell 0
        have z1 := k3.cell 1
        have z2 := k3.cell 2
        have z3 := k3.cell 3
        have f0 := k3.frozen 0
        have f1 := k3.frozen 1
        have f2 := k3.frozen 2
        have f3 := k3.frozen 3
        simp only [List.getElem?_toArray, List.getElem?_cons_zero, List.getElem?_cons_succ] at s0 s1 z0 z1 z2 z3
        have bS := (hB2.setCell (p := ⟨w.heap.size + 1 + 1, 0, none⟩) (show w.heap.size ≤ w.heap.size + 1 + 1 by omega) (.int .i64 x)).setCell (p := ⟨w.heap.size + 1 + 1, 1, none⟩) (show w.heap.size ≤ w.heap.size + 1 + 1 by omega) (.int .i64 y)
        have kS := (k2.set_ 0 (.int .i64 x)).set_ 1 (.int .i64 y)
        simp only [List.setIfInBounds_toArray, List.set_cons_zero, List.set_cons_succ] at kS
        have kO := (k3.far (p := ⟨w.heap.size + 1 + 1, 0, none⟩) (by show _ ≠ w.heap.size + 1 + 1; omega) (.int .i64 x)).far (p := ⟨w.heap.size + 1 + 1, 1, none⟩) (by show _ ≠ w.heap.size + 1 + 1; omega) (.int .i64 y)
        have zz0 := kO.cell 0
        have zz1 := kO.cell 1
        have zz2 := kO.cell 2
        have zz3 := kO.cell 3
        have ff0 := kO.frozen 0
        have ff1 := kO.frozen 1
        have ff2 := kO.frozen 2
        have ff3 := kO.frozen 3
        simp only [List.getElem?_toArray, List.getElem?_cons_zero, List.getElem?_cons_succ] at zz0 zz1 zz2 zz3
        have bZ := hide (setO_below (a := .int .i64 3) (b := .slice none 0 0) (c := .slice none 0 0) (d := .slice none 0 0) bS (show w.heap.size ≤ w.heap.size + 1 + 1 + 1 by omega))
        have kZ := setO_blk (a := .int .i64 3) (b := .slice none 0 0) (c := .slice none 0 0) (d := .slice none 0 0) kO
        have hTz := setO_ty (n0 := w.heap.size) (a := .int .i64 3) (b := .slice none 0 0) (c := .slice none 0 0) (d := .slice none 0 0) kO (by omega)
        have kS2 := hTz.blk kS (by decide)
        have y0 := kZ.cell 0
        have y1 := kZ.cell 1
        have y2 := kZ.cell 2
        have y3 := kZ.cell 3
        have x0 := kS2.cell 0
        have x1 := kS2.cell 1
        unfold setO at y0 y1 y2 y3 x0 x1
        simp only [List.getElem?_toArray, List.getElem?_cons_zero, List.getElem?_cons_succ] at y0 y1 y2 y3 x0 x1
        clear kS kO kZ hTz kS2 bS
        clear his hov0 hon hch hpa hsr hB2 k0 k1 k2 k3
        go_wp2_with fail
        exact bodyPost_ret (v := .tuple #[.agg #[.int .i64 x, .int .i64 y], .agg #[.int .i64 3, .slice none 0 0, .slice none 0 0, .slice none 0 0]]) (by simp [results, Tryz.results32, go_sem, y0, y1, y2, y3, x0, x1]) rfl ⟨_, rfl, ⟨_, _, _, rfl, World.ownsRow_nil _ _ _ _, NodO.nil _ _, FctO.nil _ _⟩, bZ.out⟩
      | true =>
        have hi4 := hide (his.out.2.2.2 (by trivial) hl2.out (by trivial))
        have hpa1 := hide (hpa.out w2 hB2 (hsr.out (by trivial)))
        have hlen := hide (pairsL_len (hsr.out (by trivial)))
        have hp1 := hide (fun m (hm : m < (pairsL H).length) => pairs_one (List.getElem_mem hm))
        clear his hpa hsr g1 g2 g3
        go_wp2_with fail
        refine hpa1.out.mono ?_
        rintro e w3 ⟨vP, rfl, hP, hb3⟩
        have hB3 := hB2.trans (hb3.mono hB2.size)
        replace k0 := k0.below hb3 k0.lt
        replace k1 := k1.below hb3 k1.lt
        replace k2 := k2.below hb3 k2.lt
        replace k3 := k3.below hb3 k3.lt
        obtain ⟨AP, cP, rfl⟩ := hP.form
        have hPS := hide (hP.sl (K := fun b => b < w3.heap.size) (fun g _ h2 => h2))
        clear hpa1 hb3 hP c0 a0 a1 hB2
        have a0 := k1.cell 0
        have a1 := k1.cell 1
        simp only [List.getElem?_toArray, List.getElem?_cons_zero, List.getElem?_cons_succ] at a0 a1
        generalize pairsL H = P at *
        by_cases hy : y = (P.length : Int)
        · have gy : (y == (P.length : Int)) = true := by simpa using hy
          obtain rfl := hi4.out.1 hy
          have hov := hide (fun W hb => hov0.out W hb (by trivial) hl2.out)
          generalize overS H level L = o at *
          have hszA := hB3.size
          have hbA := hB3
          clear hi4 hov0 hon hch hp1 hPS hlen hy hl2
          go_upto_region 5 with fail
          clear a0 a1
          refine wp_region_tabs w.heap.size [wV (.agg #[.int .i64 x, .int .i64 y]), wV (.agg #[.slice A H.length c]), wV (.int .i64 level), wV (.slice Al L.length cl), wSy w.heap.size o, wK (w.heap.size + 1 + 1) 64 #[.int .i64 x, .int .i64 y], wSb (w.heap.size + 1 + 1 + 1) w.heap.size o, wK (w.heap.size + 1) 64 #[.int .i64 x, .int .i64 y], wK (w.heap.size + 1 + 1) 64 #[.int .i64 0, .int .i64 0], wK (w.heap.size + 1 + 1 + 1) 35 #[.int .i64 0, .slice none 0 0, .slice none 0 0, .slice none 0 0]] [[7], [], [], [], [1,2,3], [0,8], [4,9]] [[], [], [], [], [], [64], [35]] [[], [], [], [], [3, 114, 51], [64], [35, 3, 114, 51], [64], [64], [35]] [] [64, 35] hszA (by kernel_rfl) (by kernel_rfl) (by kernel_rfl) (by kernel_rfl) (by kernel_rfl) (by kernel_rfl) rfl ⟨fun _ => k1, fun _ => k2, fun _ => k3, trivial⟩ (by kernel_rfl) (by kernel_rfl) ?hstep ?hend
          case hstep =>
            simp only [StepsT, WantsT, RsT, acV, wV, wO, wS, wB, wU, wX, wK, wA, wSy, wSb, updV, List.getElem?_toArray, List.getElem?_cons_zero, List.getElem?_cons_succ, List.getD_cons_zero, List.getD_cons_succ, List.getD_nil, Act.put, List.setIfInBounds_toArray, List.set_cons_zero, List.set_cons_succ, Nat.zero_add, Nat.reduceAdd, if_true, and_true]
            refine ⟨?o0, ?o1, ?_, ?_, ?o4, ?o5, ?o6⟩
            all_goals intro vs W R hR hT hd
            all_goals have hsz := Nat.le_trans hszA hT.size
            all_goals have hbW := hbA.trans hT.below
            case o0 =>
              have q1 := hd
              have c0 := q1.cell 0
              have c1 := q1.cell 1
              simp only [List.getElem?_toArray, List.getElem?_cons_zero, List.getElem?_cons_succ] at c0 c1
              go_wp2
              exact ⟨rfl, _, rfl, hR _ _ rfl (TyW.refl _ _ _)⟩
            case o1 =>
              have c0 := (hT.blk k0 (by decide)).cell 0
              simp only [List.getElem?_toArray, List.getElem?_cons_zero] at c0
              go_wp2
              exact ⟨rfl, _, rfl, hR _ _ rfl (TyW.refl _ _ _)⟩
            case o4 =>
              obtain ⟨e1, e2, e3⟩ := hd
              rw [e1, e2, e3]
              go_wp2_with fail
              refine (hov.out W hbW).mono ?_
              rintro e W2 ⟨v, rfl, hv, hb2⟩
              go_wp2
              exact ⟨rfl, _, rfl, hR _ _ (hv.base hsz) (TyW.calm hb2 hsz)⟩
            case o5 =>
              obtain ⟨e0, q2⟩ := hd
              have z0 := q2.cell 0
              have z1 := q2.cell 1
              have f0 := q2.frozen 0
              have f1 := q2.frozen 1
              simp only [List.getElem?_toArray, List.getElem?_cons_zero, List.getElem?_cons_succ] at z0 z1
              have hP := (TyW.put q2 (σ := [64]) (n0 := w.heap.size) (by omega) (by simp) (i := 0) (.int .i64 x)).trans (TyW.put (q2.set_ 0 _) (by omega) (by simp) (i := 1) (.int .i64 y))
              have kP := (q2.set_ 0 (.int .i64 x)).set_ 1 (.int .i64 y)
              rw [e0]
              go_wp2
              exact ⟨rfl, undef, rfl, hR undef _ kP hP⟩
            case o6 =>
              obtain ⟨⟨vo, vt, vf, e4, o1, o2, o3⟩, q3⟩ := hd
              obtain ⟨Ao, co, rfl⟩ := OwnI.form o1
              obtain ⟨At, ct, rfl⟩ := OwnR.form o2
              obtain ⟨Af, cf, rfl⟩ := OwnR.form o3
              have z0 := q3.cell 0
              have z1 := q3.cell 1
              have z2 := q3.cell 2
              have z3 := q3.cell 3
              have f0 := q3.frozen 0
              have f1 := q3.frozen 1
              have f2 := q3.frozen 2
              have f3 := q3.frozen 3
              simp only [List.getElem?_toArray, List.getElem?_cons_zero, List.getElem?_cons_succ] at z0 z1 z2 z3
              have hP := setO_ty (n0 := w.heap.size) (a := .int .i64 o.said) (b := .slice Ao (intsN o.order).length co) (c := .slice At o.tree.length ct) (d := .slice Af o.facts.length cf) q3 (by omega)
              have kP := setO_blk (a := .int .i64 o.said) (b := .slice Ao (intsN o.order).length co) (c := .slice At o.tree.length ct) (d := .slice Af o.facts.length cf) q3
              rw [e4]
              go_wp2
              exact ⟨rfl, undef, rfl, hR undef _ ⟨_, _, _, kP, hP.own o1 (by decide), hP.ownR NodR.stab o2 (by decide), hP.ownR FctR.stab o3 (by decide)⟩ hP⟩
            all_goals (go_wp2; exact ⟨rfl, _, rfl, hR _ _ (by first | rfl | trivial) (TyW.refl _ _ _)⟩)
          case hend =>
            intro vs W hT hd
            obtain ⟨vo, vt, vf, j3, o1, o2, o3⟩ : ∃ vo vt vf, Blk W (w.heap.size + 1 + 1 + 1) 35 #[.int .i64 o.said, vo, vt, vf] ∧ OwnI W w.heap.size vo (intsN o.order) ∧ NodO W w.heap.size vt o.tree ∧ FctO W w.heap.size vf o.facts := hd 6 (by simp) (by kernel_rfl)
            have j2 : Blk W (w.heap.size + 1 + 1) 64 #[.int .i64 x, .int .i64 y] := hd 5 (by simp) (by kernel_rfl)
            have bW := hide (hbA.trans hT.below)
            simp only [acV, List.getElem?_toArray, List.getElem?_cons_zero, List.getElem?_cons_succ, Act.put, List.setIfInBounds_toArray, List.set_cons_zero, List.set_cons_succ, List.length_cons, List.length_nil, Nat.reduceAdd]
            have x0 := j2.cell 0
            have x1 := j2.cell 1
            simp only [List.getElem?_toArray, List.getElem?_cons_zero, List.getElem?_cons_succ] at x0 x1
            have y0 := j3.cell 0
            have y1 := j3.cell 1
            have y2 := j3.cell 2
            have y3 := j3.cell 3
            simp only [List.getElem?_toArray, List.getElem?_cons_zero, List.getElem?_cons_succ] at y0 y1 y2 y3
            have oo := hide (show SayV W w.heap.size (.agg #[.int .i64 o.said, vo, vt, vf]) o from ⟨vo, vt, vf, rfl, o1, o2, o3⟩)
            clear hd hT hbA hszA k0 k1 k2 k3 hB3 hov j2 j3 o1 o2 o3
            go_wp2_with fail
            exact bodyPost_ret (v := .tuple #[.agg #[.int .i64 x, .int .i64 y], .agg #[.int .i64 o.said, vo, vt, vf]]) (by simp [results, Tryz.results32, go_sem, y0, y1, y2, y3, x0, x1]) rfl ⟨_, rfl, oo.out, bW.out⟩
        · have gy : (y == (P.length : Int)) = false := by simpa using hy
          obtain ⟨m, rfl, hy0, hyk, hm, hi5, hi6⟩ := hi4.out.2 hy
          have hm0 : (0 : Int) ≤ (m : Int) := Int.natCast_nonneg _
          have hm1 : (m : Int) < (P.length : Int) := by omega
          have hPp : 0 < P.length := by omega
          obtain ⟨b, off, rfl, -, d0, d1, d2⟩ := ChoS.at_ hPS.out hm
          have hone := hide (hp1.out m hm)
          have hl16 := hlen.out
          have hmod : (m + 1) % P.length < P.length := Nat.mod_lt _ hPp
          have hmt : ((m : Int) + 1).tmod (P.length : Int) = (((m + 1) % P.length : Nat) : Int) := by rw [show (m : Int) + 1 = ((m + 1 : Nat) : Int) by omega]; rfl
          generalize P[m] = p at *
          obtain ⟨m2, hm2⟩ : ∃ m2, (m + 1) % P.length = m2 := ⟨_, rfl⟩
          rw [hm2] at hmt hi5 hi6 hmod
          have hz0 : ((P.length : Int) == 0) = false := by rw [beq_eq_false_iff_ne]; omega
          have hz1 : (P.length == 0) = false := by rw [beq_eq_false_iff_ne]; omega
          obtain ⟨pk, pa, pb⟩ := p
          have htu : turnB ⟨pk, pa, pb⟩ = ⟨pk, pb, pa⟩ := rfl
          rw [htu] at hi5 hi6
          replace hi5 := hide hi5
          replace hi6 := hide hi6
          dsimp only at d0 d1 d2
          replace hm2 := hide hm2
          clear hi4 hov0 hp1 hPS hlen hy htu
          have hs2 : Below w3.heap.size w3 (w3.alloc (.cells #[.int .i64 pk, .int .i64 pa, .int .i64 pb] 49)) := (Below.refl _ _).alloc (Nat.le_refl _) _
          have hA := hide (hB3.trans (hs2.mono hB3.size))
          have n0 := hide (k0.below hs2 k0.lt)
          have n1 := hide (k1.below hs2 k1.lt)
          have n2 := hide (k2.below hs2 k2.lt)
          have n3 := hide (k3.below hs2 k3.lt)
          clear k0 k1 k2 k3 hs2
          go_upto_region 7 with fail
          generalize hWa : w3.alloc (.cells #[.int .i64 pk, .int .i64 pa, .int .i64 pb] 49) = Wa at *
          have kp := Blk.newEq hWa
          have hA := hA.out
          have n0 := n0.out
          have n1 := n1.out
          have n2 := n2.out
          have n3 := n3.out
          clear hWa d0 d1 d2 a0 a1
          generalize w3.heap.size = gp at *
          have hgp : gp ≠ w.heap.size + 1 := (blk_ne kp n1 (by decide))
          have a0 := n1.cell 0
          have a1 := n1.cell 1
          simp only [List.getElem?_toArray, List.getElem?_cons_zero, List.getElem?_cons_succ] at a0 a1
          have fa0 := n1.frozen 0
          have fa1 := n1.frozen 1
          have hnil : Hid (P ≠ []) := hide (fun e => by rw [e] at hPp; simp at hPp)
          have wr1 : IntKind.i64.wrap ((m : Int) + 1) = (m : Int) + 1 := Go.IntWalk.i64_in _ (by omega)
          have wr2 : RowKit.wrap64 ((m : Int) + 1) = (m : Int) + 1 := Go.IntWalk.wrap64_in _ (by omega)
          have wr3 : IntKind.i64.wrap (y + 1) = y + 1 := Go.IntWalk.i64_in _ (by omega)
          have wr4 : RowKit.wrap64 (y + 1) = y + 1 := Go.IntWalk.wrap64_in _ (by omega)
          have wr5 : IntKind.i64.wrap (m2 : Int) = (m2 : Int) := Go.IntWalk.i64_in _ (by omega)
          have wr6 : RowKit.wrap64 (m2 : Int) = (m2 : Int) := Go.IntWalk.wrap64_in _ (by omega)
          have hszA := hA.size
          clear fa0 fa1 a0 a1
          refine wp_region_tabs w.heap.size [wV (.pointer (some ⟨w.heap.size + 1, 0, none⟩)), wV (.int .i64 (m : Int)), wV (.int .i64 ((m : Int) + 1)), wV (.slice (some ⟨b, off, none⟩) P.length cP), wV (.int .i64 (P.length : Int)), wV (.int .i64 (m2 : Int)), wV (.pointer (some ⟨w.heap.size + 1, 1, none⟩)), wV (.int .i64 y), wV (.int .i64 (y + 1)), wV (.agg #[.int .i64 (m2 : Int), .int .i64 (y + 1)]), wA (wK (w.heap.size + 1) 64 #[.int .i64 (m2 : Int), .int .i64 (y + 1)]) (wK (w.heap.size + 1 + 1) 64 #[.int .i64 0, .int .i64 0]), wK (w.heap.size + 1) 64 #[.int .i64 (m : Int), .int .i64 y], wK (w.heap.size + 1 + 1) 64 #[.int .i64 0, .int .i64 0]] [[], [0,11], [1], [], [3], [2,4], [], [6,11], [7], [5,8], [9,11,12]] [[], [], [], [], [], [], [], [], [], [], [64]] [[], [], [], [], [], [], [], [], [], [], [64, 64], [64], [64]] [] [64] hszA (by kernel_rfl) (by kernel_rfl) (by kernel_rfl) (by kernel_rfl) (by kernel_rfl) (by kernel_rfl) rfl ⟨fun _ => n1, fun _ => n2, trivial⟩ (by kernel_rfl) (by kernel_rfl) ?hstep ?hend
          case hstep =>
            simp only [StepsT, WantsT, RsT, acV, wV, wO, wS, wB, wU, wX, wK, wA, updV, List.getElem?_toArray, List.getElem?_cons_zero, List.getElem?_cons_succ, List.getD_cons_zero, List.getD_cons_succ, List.getD_nil, Act.put, List.setIfInBounds_toArray, List.set_cons_zero, List.set_cons_succ, Nat.zero_add, Nat.reduceAdd, if_true, and_true]
            refine ⟨?_, ?o1, ?_, ?_, ?_, ?o5, ?_, ?o7, ?_, ?_, ?o10⟩
            all_goals intro vs W R hR hT hd
            all_goals have hsz := Nat.le_trans hszA hT.size
            case o1 =>
              obtain ⟨e0, q1⟩ := hd
              have c0 := q1.cell 0
              simp only [List.getElem?_toArray, List.getElem?_cons_zero, List.getElem?_cons_succ] at c0
              rw [e0]
              go_wp2
              exact ⟨rfl, _, rfl, hR _ _ rfl (TyW.refl _ _ _)⟩
            case o5 =>
              obtain ⟨e0, e1⟩ := hd
              rw [e0, e1]
              go_wp2
              try exact (hnil.out (by assumption)).elim
              exact ⟨rfl, _, rfl, hR _ _ rfl (TyW.refl _ _ _)⟩
            case o7 =>
              obtain ⟨e0, q1⟩ := hd
              have c0 := q1.cell 1
              simp only [List.getElem?_toArray, List.getElem?_cons_zero, List.getElem?_cons_succ] at c0
              rw [e0]
              go_wp2
              exact ⟨rfl, _, rfl, hR _ _ rfl (TyW.refl _ _ _)⟩
            case o10 =>
              obtain ⟨e0, q2, q3⟩ := hd
              have z0 := q2.cell 0
              have z1 := q2.cell 1
              have f0 := q2.frozen 0
              have f1 := q2.frozen 1
              simp only [List.getElem?_toArray, List.getElem?_cons_zero, List.getElem?_cons_succ] at z0 z1
              have hP := (TyW.put q2 (σ := [64]) (n0 := w.heap.size) (by omega) (by simp) (i := 0) (.int .i64 (m2 : Int))).trans (TyW.put (q2.set_ 0 _) (by omega) (by simp) (i := 1) (.int .i64 (y + 1)))
              have kP := (q2.set_ 0 (.int .i64 (m2 : Int))).set_ 1 (.int .i64 (y + 1))
              rw [e0]
              go_wp2
              exact ⟨rfl, undef, rfl, hR undef _ ⟨kP, (q3.far (p := ⟨w.heap.size + 1, 0, none⟩) (by show _ ≠ w.heap.size + 1; omega) _).far (p := ⟨w.heap.size + 1, 1, none⟩) (by show _ ≠ w.heap.size + 1; omega) _⟩ hP⟩
            all_goals (go_wp2; exact ⟨rfl, _, rfl, hR _ _ (by first | rfl | trivial) (TyW.refl _ _ _)⟩)
          case hend =>
            intro vs W hT hd
            obtain ⟨k1, k2⟩ : Blk W (w.heap.size + 1) 64 #[.int .i64 (m2 : Int), .int .i64 (y + 1)] ∧ Blk W (w.heap.size + 1 + 1) 64 #[.int .i64 0, .int .i64 0] := hd 10 (by simp) (by kernel_rfl)
            have hbz := hA.trans hT.below
            have k0 := hT.blk n0 (by decide)
            have k3 := hT.blk n3 (by decide)
            have kp2 := hT.blk kp (by decide)
            simp only [acV, List.getElem?_toArray, List.getElem?_cons_zero, List.getElem?_cons_succ, Act.put, List.setIfInBounds_toArray, List.set_cons_zero, List.set_cons_succ, List.length_cons, List.length_nil, Nat.reduceAdd]
            clear hd hT hszA
            generalize W = Wz at *
            have hch1 := hide (hch.out Wz hbz)
            have hml : Hid ((chosL L).length ≤ 1000000) := hide (by rw [chosL_len]; have := hl2.out; omega)
            clear hch n0 n1 n2 n3 kp hA wr1 wr2 wr3 wr4 wr5 wr6 hmt hz0 hz1 hnil hgp
            go_wp2_with fail
            refine hch1.out.mono ?_
            rintro e w4 ⟨vM, rfl, oM, hb4⟩
            obtain ⟨AM, cM, rfl⟩ := oM.form
            have hB4 := hbz.trans (hb4.mono hbz.size)
            replace k0 := k0.below hb4 k0.lt
            replace k1 := k1.below hb4 k1.lt
            replace k2 := k2.below hb4 k2.lt
            replace k3 := k3.below hb4 k3.lt
            replace kp2 := kp2.below hb4 kp2.lt
            have oMS : ChoS w4 (Old w4) (.slice AM (chosL L).length cM) (chosL L) := oM.sl fun g _ h => h
            have hc1 := hide (by
              have := containsCh_any AM cM (chosL L) pk pa pb w4 oMS (by have := hml.out; omega)
              rw [any_is] at this
              exact this)
            have hc2 := hide (fun W (hb : Below w4.heap.size w4 W) => (by
              have := containsCh_any AM cM (chosL L) pk pb pa W (oMS.below hb) (by have := hml.out; omega)
              rw [any_is] at this
              exact this : Calls Tryz.prog 90 #[.slice AM (chosL L).length cM, .agg #[.int .i64 pk, .int .i64 pb, .int .i64 pa]] W fun e w' => e = .returned (.bool ((chosL L).contains ⟨pk, pb, pa⟩)) ∧ Below W.heap.size W w'))
            have p0 := kp2.cell 0
            have p1 := kp2.cell 1
            have p2 := kp2.cell 2
            simp only [List.getElem?_toArray, List.getElem?_cons_zero, List.getElem?_cons_succ] at p0 p1 p2
            generalize (chosL L).contains (⟨pk, pa, pb⟩ : Cho) = q1 at *
            generalize (chosL L).contains (⟨pk, pb, pa⟩ : Cho) = q2 at *
            generalize chosL L = M at *
            clear hch1 hb4 oM oMS hbz
            go_wp2_with fail
            refine hc1.out.mono ?_
            rintro e w5 ⟨rfl, hb5⟩
            have hB5 := hB4.trans (hb5.mono hB4.size)
            replace k0 := k0.below hb5 k0.lt
            replace k1 := k1.below hb5 k1.lt
            replace k2 := k2.below hb5 k2.lt
            replace k3 := k3.below hb5 k3.lt
            replace kp2 := kp2.below hb5 kp2.lt
            have hc3 := hide (hc2.out w5 hb5)
            clear hc1 hc2 hB4 p0 p1 p2 hb5
            have p0 := kp2.cell 0
            have p1 := kp2.cell 1
            have p2 := kp2.cell 2
            simp only [List.getElem?_toArray, List.getElem?_cons_zero, List.getElem?_cons_succ] at p0 p1 p2
            have a0 := k1.cell 0
            have a1 := k1.cell 1
            simp only [List.getElem?_toArray, List.getElem?_cons_zero, List.getElem?_cons_succ] at a0 a1
            cases q1 with
            | true =>
              obtain rfl := hi5.out (.inl rfl)
              have s0 := k2.cell 0
              have s1 := k2.cell 1
              have fs0 := k2.frozen 0
              have fs1 := k2.frozen 1
              have z0 := k3.cell 0
              have z1 := k3.cell 1
              have z2 := k3.cell 2
              have z3 := k3.cell 3
              have f0 := k3.frozen 0
              have f1 := k3.frozen 1
              have f2 := k3.frozen 2
              have f3 := k3.frozen 3
              simp only [List.getElem?_toArray, List.getElem?_cons_zero, List.getElem?_cons_succ] at s0 s1 z0 z1 z2 z3
              have bS := (hB5.setCell (p := ⟨w.heap.size + 1 + 1, 0, none⟩) (show w.heap.size ≤ w.heap.size + 1 + 1 by omega) (.int .i64 (m2 : Int))).setCell (p := ⟨w.heap.size + 1 + 1, 1, none⟩) (show w.heap.size ≤ w.heap.size + 1 + 1 by omega) (.int .i64 (y + 1))
              have kS := (k2.set_ 0 (.int .i64 (m2 : Int))).set_ 1 (.int .i64 (y + 1))
              simp only [List.setIfInBounds_toArray, List.set_cons_zero, List.set_cons_succ] at kS
              have kO := (k3.far (p := ⟨w.heap.size + 1 + 1, 0, none⟩) (by show _ ≠ w.heap.size + 1 + 1; omega) (.int .i64 (m2 : Int))).far (p := ⟨w.heap.size + 1 + 1, 1, none⟩) (by show _ ≠ w.heap.size + 1 + 1; omega) (.int .i64 (y + 1))
              have zz0 := kO.cell 0
              have zz1 := kO.cell 1
              have zz2 := kO.cell 2
              have zz3 := kO.cell 3
              have ff0 := kO.frozen 0
              have ff1 := kO.frozen 1
              have ff2 := kO.frozen 2
              have ff3 := kO.frozen 3
              simp only [List.getElem?_toArray, List.getElem?_cons_zero, List.getElem?_cons_succ] at zz0 zz1 zz2 zz3
              have bZ := hide (setO_below (a := .int .i64 0) (b := .slice none 0 0) (c := .slice none 0 0) (d := .slice none 0 0) bS (show w.heap.size ≤ w.heap.size + 1 + 1 + 1 by omega))
              have kZ := setO_blk (a := .int .i64 0) (b := .slice none 0 0) (c := .slice none 0 0) (d := .slice none 0 0) kO
              have hTz := setO_ty (n0 := w.heap.size) (a := .int .i64 0) (b := .slice none 0 0) (c := .slice none 0 0) (d := .slice none 0 0) kO (by omega)
              have kS2 := hTz.blk kS (by decide)
              have y0 := kZ.cell 0
              have y1 := kZ.cell 1
              have y2 := kZ.cell 2
              have y3 := kZ.cell 3
              have x0 := kS2.cell 0
              have x1 := kS2.cell 1
              unfold setO at y0 y1 y2 y3 x0 x1
              simp only [List.getElem?_toArray, List.getElem?_cons_zero, List.getElem?_cons_succ] at y0 y1 y2 y3 x0 x1
              clear kS kO kZ hTz kS2 bS
              clear hi5 hi6 hon hc3 hB5 k0 k1 k2 k3 kp2
              go_wp2_with fail
              exact bodyPost_ret (v := .tuple #[.agg #[.int .i64 (m2 : Int), .int .i64 (y + 1)], .agg #[.int .i64 0, .slice none 0 0, .slice none 0 0, .slice none 0 0]]) (by simp [results, Tryz.results32, go_sem, y0, y1, y2, y3, x0, x1]) rfl ⟨_, rfl, ⟨_, _, _, rfl, World.ownsRow_nil _ _ _ _, NodO.nil _ _, FctO.nil _ _⟩, bZ.out⟩
            | false =>
              go_wp2_with fail
              refine hc3.out.mono ?_
              rintro e w6 ⟨rfl, hb6⟩
              have hB6 := hB5.trans (hb6.mono hB5.size)
              replace k0 := k0.below hb6 k0.lt
              replace k1 := k1.below hb6 k1.lt
              replace k2 := k2.below hb6 k2.lt
              replace k3 := k3.below hb6 k3.lt
              replace kp2 := kp2.below hb6 kp2.lt
              clear hc3 hB5 p0 p1 p2 a0 a1 hb6
              have p0 := kp2.cell 0
              have p1 := kp2.cell 1
              have p2 := kp2.cell 2
              have c0 := k0.cell 0
              simp only [List.getElem?_toArray, List.getElem?_cons_zero, List.getElem?_cons_succ] at p0 p1 p2 c0
              have a0 := k1.cell 0
              have a1 := k1.cell 1
              simp only [List.getElem?_toArray, List.getElem?_cons_zero, List.getElem?_cons_succ] at a0 a1
              cases q2 with
              | true =>
                obtain rfl := hi5.out (.inr rfl)
                have s0 := k2.cell 0
                have s1 := k2.cell 1
                have fs0 := k2.frozen 0
                have fs1 := k2.frozen 1
                have z0 := k3.cell 0
                have z1 := k3.cell 1
                have z2 := k3.cell 2
                have z3 := k3.cell 3
                have f0 := k3.frozen 0
                have f1 := k3.frozen 1
                have f2 := k3.frozen 2
                have f3 := k3.frozen 3
                simp only [List.getElem?_toArray, List.getElem?_cons_zero, List.getElem?_cons_succ] at s0 s1 z0 z1 z2 z3
                have bS := (hB6.setCell (p := ⟨w.heap.size + 1 + 1, 0, none⟩) (show w.heap.size ≤ w.heap.size + 1 + 1 by omega) (.int .i64 (m2 : Int))).setCell (p := ⟨w.heap.size + 1 + 1, 1, none⟩) (show w.heap.size ≤ w.heap.size + 1 + 1 by omega) (.int .i64 (y + 1))
                have kS := (k2.set_ 0 (.int .i64 (m2 : Int))).set_ 1 (.int .i64 (y + 1))
                simp only [List.setIfInBounds_toArray, List.set_cons_zero, List.set_cons_succ] at kS
                have kO := (k3.far (p := ⟨w.heap.size + 1 + 1, 0, none⟩) (by show _ ≠ w.heap.size + 1 + 1; omega) (.int .i64 (m2 : Int))).far (p := ⟨w.heap.size + 1 + 1, 1, none⟩) (by show _ ≠ w.heap.size + 1 + 1; omega) (.int .i64 (y + 1))
                have zz0 := kO.cell 0
                have zz1 := kO.cell 1
                have zz2 := kO.cell 2
                have zz3 := kO.cell 3
                have ff0 := kO.frozen 0
                have ff1 := kO.frozen 1
                have ff2 := kO.frozen 2
                have ff3 := kO.frozen 3
                simp only [List.getElem?_toArray, List.getElem?_cons_zero, List.getElem?_cons_succ] at zz0 zz1 zz2 zz3
                have bZ := hide (setO_below (a := .int .i64 0) (b := .slice none 0 0) (c := .slice none 0 0) (d := .slice none 0 0) bS (show w.heap.size ≤ w.heap.size + 1 + 1 + 1 by omega))
                have kZ := setO_blk (a := .int .i64 0) (b := .slice none 0 0) (c := .slice none 0 0) (d := .slice none 0 0) kO
                have hTz := setO_ty (n0 := w.heap.size) (a := .int .i64 0) (b := .slice none 0 0) (c := .slice none 0 0) (d := .slice none 0 0) kO (by omega)
                have kS2 := hTz.blk kS (by decide)
                have y0 := kZ.cell 0
                have y1 := kZ.cell 1
                have y2 := kZ.cell 2
                have y3 := kZ.cell 3
                have x0 := kS2.cell 0
                have x1 := kS2.cell 1
                unfold setO at y0 y1 y2 y3 x0 x1
                simp only [List.getElem?_toArray, List.getElem?_cons_zero, List.getElem?_cons_succ] at y0 y1 y2 y3 x0 x1
                clear kS kO kZ hTz kS2 bS
                clear hi5 hi6 hon hB6 k0 k1 k2 k3 kp2
                go_wp2_with fail
                exact bodyPost_ret (v := .tuple #[.agg #[.int .i64 (m2 : Int), .int .i64 (y + 1)], .agg #[.int .i64 0, .slice none 0 0, .slice none 0 0, .slice none 0 0]]) (by simp [results, Tryz.results32, go_sem, y0, y1, y2, y3, x0, x1]) rfl ⟨_, rfl, ⟨_, _, _, rfl, World.ownsRow_nil _ _ _ _, NodO.nil _ _, FctO.nil _ _⟩, bZ.out⟩
              | false =>
                have hi7 := hide (hi6.out (by trivial) (by trivial))
                have hon1 := hide (hon.out ⟨pk, pa, pb⟩ w6 hB6 (by trivial) hone.out hl2.out)
                generalize oneS H level L ⟨pk, pa, pb⟩ = o at *
                dsimp only at hon1
                clear hi5 hi6 hon hml
                go_wp2_with fail
                refine hon1.out.mono ?_
                rintro e w7 ⟨vO, rfl, ⟨vo, vt, vf, rfl, o1, o2, o3⟩, hb7⟩
                have hB7 := hB6.trans (hb7.mono hB6.size)
                replace k0 := k0.below hb7 k0.lt
                replace k1 := k1.below hb7 k1.lt
                replace k2 := k2.below hb7 k2.lt
                replace k3 := k3.below hb7 k3.lt
                replace o1 : OwnI w7 w.heap.size vo (intsN o.order) := own_baseT o1 hB6.size
                replace o2 := o2.base hB6.size
                replace o3 := o3.base hB6.size
                obtain ⟨Ao, co, rfl⟩ := OwnI.form o1
                obtain ⟨At, ct, rfl⟩ := OwnR.form o2
                obtain ⟨Af, cf, rfl⟩ := OwnR.form o3
                clear hon1 hb7 hB6 c0 p0 p1 p2 a0 a1 kp2
                go_upto_region 12 with fail
                generalize hWO : w7.alloc (.cells #[.int .i64 o.said, .slice Ao (intsN o.order).length co, .slice At o.tree.length ct, .slice Af o.facts.length cf] 35) = WO
                have hbo := below_allocEq (Below.refl w7.heap.size w7) hWO (Nat.le_refl _)
                have kO := Blk.newEq hWO
                replace k0 := k0.below hbo k0.lt
                replace k1 := k1.below hbo k1.lt
                replace k2 := k2.below hbo k2.lt
                replace k3 := k3.below hbo k3.lt
                replace o1 : OwnI WO w.heap.size (.slice Ao (intsN o.order).length co) (intsN o.order) := own_below o1 hbo (Nat.le_refl _)
                replace o2 := o2.below hbo
                replace o3 := o3.below hbo
                have hbA := hB7.trans (hbo.mono hB7.size)
                clear hWO hbo hB7
                generalize w7.heap.size = gO at *
                have q3 := kO.cell 3
                simp only [List.getElem?_toArray, List.getElem?_cons_zero, List.getElem?_cons_succ] at q3
                by_cases hfz : o.facts = []
                · have nf : o.facts.length = 0 := by rw [hfz]; rfl
                  have gf1 : decide ((o.facts.length : Int) > 0) = false := by rw [nf]; rfl
                  have gf2 : decide (0 < o.facts.length) = false := by rw [nf]; rfl
                  have hr2 : r = (((m2 : Int), y + 1), o) := by rw [hi7.out, if_pos hfz]
                  have hszA := hbA.size
                  obtain ⟨x2, hx2⟩ : ∃ x2 : Int, (m2 : Int) = x2 := ⟨_, rfl⟩
                  obtain ⟨y2, hy2⟩ : ∃ y2 : Int, y + 1 = y2 := ⟨_, rfl⟩
                  rw [hx2, hy2] at k1 hr2
                  obtain rfl := hr2
                  clear hi7 hx2 hy2 hfz nf
                  go_upto_region 14 with fail
                  clear q3 gf1 gf2
                  refine wp_region_tabs w.heap.size [wV (.agg #[.int .i64 x2, .int .i64 y2]), wV (.agg #[.int .i64 o.said, .slice Ao (intsN o.order).length co, .slice At o.tree.length ct, .slice Af o.facts.length cf]), wK (w.heap.size + 1 + 1) 64 #[.int .i64 x2, .int .i64 y2], wK (w.heap.size + 1 + 1 + 1) 35 #[.int .i64 o.said, .slice Ao (intsN o.order).length co, .slice At o.tree.length ct, .slice Af o.facts.length cf], wK (w.heap.size + 1) 64 #[.int .i64 x2, .int .i64 y2], wK (w.heap.size + 1 + 1) 64 #[.int .i64 0, .int .i64 0], wK (w.heap.size + 1 + 1 + 1) 35 #[.int .i64 0, .slice none 0 0, .slice none 0 0, .slice none 0 0], wK gO 35 #[.int .i64 o.said, .slice Ao (intsN o.order).length co, .slice At o.tree.length ct, .slice Af o.facts.length cf]] [[4], [7], [0,5], [1,6]] [[], [], [64], [35]] [[], [], [64], [35], [64], [64], [35], [35]] [] [64, 35] hszA (by kernel_rfl) (by kernel_rfl) (by kernel_rfl) (by kernel_rfl) (by kernel_rfl) (by kernel_rfl) rfl ⟨fun _ => k1, fun _ => k2, fun _ => k3, fun _ => kO, trivial⟩ (by kernel_rfl) (by kernel_rfl) ?hstep ?hend
                  case hstep =>
                    simp only [StepsT, WantsT, RsT, acV, wV, wO, wS, wB, wU, wX, wK, wA, wSb, updV, List.getElem?_toArray, List.getElem?_cons_zero, List.getElem?_cons_succ, List.getD_cons_zero, List.getD_cons_succ, List.getD_nil, Act.put, List.setIfInBounds_toArray, List.set_cons_zero, List.set_cons_succ, Nat.zero_add, Nat.reduceAdd, if_true, and_true]
                    refine ⟨?o0, ?o1, ?o2, ?o3⟩
                    all_goals intro vs W R hR hT hd
                    all_goals have hsz := Nat.le_trans hszA hT.size
                    all_goals have hbW := hbA.trans hT.below
                    case o0 =>
                      have q1 := hd
                      have c0 := q1.cell 0
                      have c1 := q1.cell 1
                      simp only [List.getElem?_toArray, List.getElem?_cons_zero, List.getElem?_cons_succ] at c0 c1
                      go_wp2
                      exact ⟨rfl, _, rfl, hR _ _ rfl (TyW.refl _ _ _)⟩
                    case o1 =>
                      have q4 := hd
                      have c0 := q4.cell 0
                      have c1 := q4.cell 1
                      have c2 := q4.cell 2
                      have c3 := q4.cell 3
                      simp only [List.getElem?_toArray, List.getElem?_cons_zero, List.getElem?_cons_succ] at c0 c1 c2 c3
                      go_wp2
                      exact ⟨rfl, _, rfl, hR _ _ rfl (TyW.refl _ _ _)⟩
                    case o2 =>
                      obtain ⟨e0, q2⟩ := hd
                      have z0 := q2.cell 0
                      have z1 := q2.cell 1
                      have f0 := q2.frozen 0
                      have f1 := q2.frozen 1
                      simp only [List.getElem?_toArray, List.getElem?_cons_zero, List.getElem?_cons_succ] at z0 z1
                      have hP := (TyW.put q2 (σ := [64]) (n0 := w.heap.size) (by omega) (by simp) (i := 0) (.int .i64 x2)).trans (TyW.put (q2.set_ 0 _) (by omega) (by simp) (i := 1) (.int .i64 y2))
                      have kP := (q2.set_ 0 (.int .i64 x2)).set_ 1 (.int .i64 y2)
                      rw [e0]
                      go_wp2
                      exact ⟨rfl, undef, rfl, hR undef _ kP hP⟩
                    case o3 =>
                      obtain ⟨e1, q3⟩ := hd
                      have z0 := q3.cell 0
                      have z1 := q3.cell 1
                      have z2 := q3.cell 2
                      have z3 := q3.cell 3
                      have f0 := q3.frozen 0
                      have f1 := q3.frozen 1
                      have f2 := q3.frozen 2
                      have f3 := q3.frozen 3
                      simp only [List.getElem?_toArray, List.getElem?_cons_zero, List.getElem?_cons_succ] at z0 z1 z2 z3
                      have hP := setO_ty (n0 := w.heap.size) (a := .int .i64 o.said) (b := .slice Ao (intsN o.order).length co) (c := .slice At o.tree.length ct) (d := .slice Af o.facts.length cf) q3 (by omega)
                      have kP := setO_blk (a := .int .i64 o.said) (b := .slice Ao (intsN o.order).length co) (c := .slice At o.tree.length ct) (d := .slice Af o.facts.length cf) q3
                      rw [e1]
                      go_wp2
                      exact ⟨rfl, undef, rfl, hR undef _ kP hP⟩
                    all_goals (go_wp2; exact ⟨rfl, _, rfl, hR _ _ (by first | rfl | trivial) (TyW.refl _ _ _)⟩)
                  case hend =>
                    intro vs W hT hd
                    have j2 : Blk W (w.heap.size + 1 + 1) 64 #[.int .i64 x2, .int .i64 y2] := hd 2 (by simp) (by kernel_rfl)
                    have j3 : Blk W (w.heap.size + 1 + 1 + 1) 35 #[.int .i64 o.said, .slice Ao (intsN o.order).length co, .slice At o.tree.length ct, .slice Af o.facts.length cf] := hd 3 (by simp) (by kernel_rfl)
                    have bW := hide (hbA.trans hT.below)
                    have oo := hide (show SayV W w.heap.size (.agg #[.int .i64 o.said, .slice Ao (intsN o.order).length co, .slice At o.tree.length ct, .slice Af o.facts.length cf]) o from ⟨_, _, _, rfl, hT.own o1 (by decide), hT.ownR NodR.stab o2 (by decide), hT.ownR FctR.stab o3 (by decide)⟩)
                    simp only [acV, List.getElem?_toArray, List.getElem?_cons_zero, List.getElem?_cons_succ, Act.put, List.setIfInBounds_toArray, List.set_cons_zero, List.set_cons_succ, List.length_cons, List.length_nil, Nat.reduceAdd]
                    have x0 := j2.cell 0
                    have x1 := j2.cell 1
                    simp only [List.getElem?_toArray, List.getElem?_cons_zero, List.getElem?_cons_succ] at x0 x1
                    have y0 := j3.cell 0
                    have y1 := j3.cell 1
                    have y2' := j3.cell 2
                    have y3 := j3.cell 3
                    simp only [List.getElem?_toArray, List.getElem?_cons_zero, List.getElem?_cons_succ] at y0 y1 y2' y3
                    clear hd hT hbA hszA k0 k1 k2 k3 kO j2 j3 o1 o2 o3
                    go_wp2_with fail
                    exact bodyPost_ret (v := .tuple #[.agg #[.int .i64 x2, .int .i64 y2], .agg #[.int .i64 o.said, .slice Ao (intsN o.order).length co, .slice At o.tree.length ct, .slice Af o.facts.length cf]]) (by simp [results, Tryz.results32, go_sem, y0, y1, y2', y3, x0, x1]) rfl ⟨_, rfl, oo.out, bW.out⟩
                · have nf : 0 < o.facts.length := List.length_pos_iff.2 hfz
                  have gf1 : decide ((o.facts.length : Int) > 0) = true := by simp; omega
                  have gf2 : decide (0 < o.facts.length) = true := by simp; omega
                  have hr2 : r = (((m2 : Int), 0), o) := by rw [hi7.out, if_neg hfz]
                  obtain rfl := hr2
                  have a0 := k1.cell 0
                  have a1 := k1.cell 1
                  simp only [List.getElem?_toArray, List.getElem?_cons_zero, List.getElem?_cons_succ] at a0 a1
                  have fa1 := k1.frozen 1
                  clear hi7 hfz
                  go_upto_region 14 with fail
                  have hTs := TyW.put (σ := [64]) (n0 := w.heap.size) k1 (by omega) (by simp) (i := 1) (.int .i64 0)
                  replace k2 := k2.far (p := ⟨w.heap.size + 1, 1, none⟩) (by show _ ≠ w.heap.size + 1; omega) (.int .i64 0)
                  replace k1 := k1.set_ 1 (.int .i64 0)
                  simp only [List.setIfInBounds_toArray, List.set_cons_zero, List.set_cons_succ] at k1
                  replace k0 := hTs.blk k0 (by decide)
                  replace k3 := hTs.blk k3 (by decide)
                  replace kO := hTs.blk kO (by decide)
                  replace o1 : OwnI _ w.heap.size (.slice Ao (intsN o.order).length co) (intsN o.order) := hTs.own o1 (by decide)
                  replace o2 : NodO _ w.heap.size (.slice At o.tree.length ct) o.tree := hTs.ownR NodR.stab o2 (by decide)
                  replace o3 : FctO _ w.heap.size (.slice Af o.facts.length cf) o.facts := hTs.ownR FctR.stab o3 (by decide)
                  replace hbA := hbA.trans hTs.below
                  generalize WO.setCell ⟨w.heap.size + 1, 1, none⟩ (.int .i64 0) = WO at *
                  have hszA := hbA.size
                  obtain ⟨x2, hx2⟩ : ∃ x2 : Int, (m2 : Int) = x2 := ⟨_, rfl⟩
                  obtain ⟨y2, hy2⟩ : ∃ y2 : Int, (0 : Int) = y2 := ⟨_, rfl⟩
                  rw [hx2] at k1 ⊢
                  rw [show #[Value.int .i64 x2, Value.int .i64 0] = #[Value.int .i64 x2, Value.int .i64 y2] by rw [hy2]] at k1
                  clear a0 a1 fa1 hTs q3 gf1 gf2 nf
                  have hx3 := hide hy2
                  have hx4 := hide hx2
                  clear hy2 hx2
                  refine wp_region_tabs w.heap.size [wV (.agg #[.int .i64 x2, .int .i64 y2]), wV (.agg #[.int .i64 o.said, .slice Ao (intsN o.order).length co, .slice At o.tree.length ct, .slice Af o.facts.length cf]), wK (w.heap.size + 1 + 1) 64 #[.int .i64 x2, .int .i64 y2], wK (w.heap.size + 1 + 1 + 1) 35 #[.int .i64 o.said, .slice Ao (intsN o.order).length co, .slice At o.tree.length ct, .slice Af o.facts.length cf], wK (w.heap.size + 1) 64 #[.int .i64 x2, .int .i64 y2], wK (w.heap.size + 1 + 1) 64 #[.int .i64 0, .int .i64 0], wK (w.heap.size + 1 + 1 + 1) 35 #[.int .i64 0, .slice none 0 0, .slice none 0 0, .slice none 0 0], wK gO 35 #[.int .i64 o.said, .slice Ao (intsN o.order).length co, .slice At o.tree.length ct, .slice Af o.facts.length cf]] [[4], [7], [0,5], [1,6]] [[], [], [64], [35]] [[], [], [64], [35], [64], [64], [35], [35]] [] [64, 35] hszA (by kernel_rfl) (by kernel_rfl) (by kernel_rfl) (by kernel_rfl) (by kernel_rfl) (by kernel_rfl) rfl ⟨fun _ => k1, fun _ => k2, fun _ => k3, fun _ => kO, trivial⟩ (by kernel_rfl) (by kernel_rfl) ?hstep ?hend
                  case hstep =>
                    simp only [StepsT, WantsT, RsT, acV, wV, wO, wS, wB, wU, wX, wK, wA, wSb, updV, List.getElem?_toArray, List.getElem?_cons_zero, List.getElem?_cons_succ, List.getD_cons_zero, List.getD_cons_succ, List.getD_nil, Act.put, List.setIfInBounds_toArray, List.set_cons_zero, List.set_cons_succ, Nat.zero_add, Nat.reduceAdd, if_true, and_true]
                    refine ⟨?o0, ?o1, ?o2, ?o3⟩
                    all_goals intro vs W R hR hT hd
                    all_goals have hsz := Nat.le_trans hszA hT.size
                    all_goals have hbW := hbA.trans hT.below
                    case o0 =>
                      have q1 := hd
                      have c0 := q1.cell 0
                      have c1 := q1.cell 1
                      simp only [List.getElem?_toArray, List.getElem?_cons_zero, List.getElem?_cons_succ] at c0 c1
                      go_wp2
                      exact ⟨rfl, _, rfl, hR _ _ rfl (TyW.refl _ _ _)⟩
                    case o1 =>
                      have q4 := hd
                      have c0 := q4.cell 0
                      have c1 := q4.cell 1
                      have c2 := q4.cell 2
                      have c3 := q4.cell 3
                      simp only [List.getElem?_toArray, List.getElem?_cons_zero, List.getElem?_cons_succ] at c0 c1 c2 c3
                      go_wp2
                      exact ⟨rfl, _, rfl, hR _ _ rfl (TyW.refl _ _ _)⟩
                    case o2 =>
                      obtain ⟨e0, q2⟩ := hd
                      have z0 := q2.cell 0
                      have z1 := q2.cell 1
                      have f0 := q2.frozen 0
                      have f1 := q2.frozen 1
                      simp only [List.getElem?_toArray, List.getElem?_cons_zero, List.getElem?_cons_succ] at z0 z1
                      have hP := (TyW.put q2 (σ := [64]) (n0 := w.heap.size) (by omega) (by simp) (i := 0) (.int .i64 x2)).trans (TyW.put (q2.set_ 0 _) (by omega) (by simp) (i := 1) (.int .i64 y2))
                      have kP := (q2.set_ 0 (.int .i64 x2)).set_ 1 (.int .i64 y2)
                      rw [e0]
                      go_wp2
                      exact ⟨rfl, undef, rfl, hR undef _ kP hP⟩
                    case o3 =>
                      obtain ⟨e1, q3⟩ := hd
                      have z0 := q3.cell 0
                      have z1 := q3.cell 1
                      have z2 := q3.cell 2
                      have z3 := q3.cell 3
                      have f0 := q3.frozen 0
                      have f1 := q3.frozen 1
                      have f2 := q3.frozen 2
                      have f3 := q3.frozen 3
                      simp only [List.getElem?_toArray, List.getElem?_cons_zero, List.getElem?_cons_succ] at z0 z1 z2 z3
                      have hP := setO_ty (n0 := w.heap.size) (a := .int .i64 o.said) (b := .slice Ao (intsN o.order).length co) (c := .slice At o.tree.length ct) (d := .slice Af o.facts.length cf) q3 (by omega)
                      have kP := setO_blk (a := .int .i64 o.said) (b := .slice Ao (intsN o.order).length co) (c := .slice At o.tree.length ct) (d := .slice Af o.facts.length cf) q3
                      rw [e1]
                      go_wp2
                      exact ⟨rfl, undef, rfl, hR undef _ kP hP⟩
                    all_goals (go_wp2; exact ⟨rfl, _, rfl, hR _ _ (by first | rfl | trivial) (TyW.refl _ _ _)⟩)
                  case hend =>
                    intro vs W hT hd
                    have j2 : Blk W (w.heap.size + 1 + 1) 64 #[.int .i64 x2, .int .i64 y2] := hd 2 (by simp) (by kernel_rfl)
                    have j3 : Blk W (w.heap.size + 1 + 1 + 1) 35 #[.int .i64 o.said, .slice Ao (intsN o.order).length co, .slice At o.tree.length ct, .slice Af o.facts.length cf] := hd 3 (by simp) (by kernel_rfl)
                    have bW := hide (hbA.trans hT.below)
                    have oo := hide (show SayV W w.heap.size (.agg #[.int .i64 o.said, .slice Ao (intsN o.order).length co, .slice At o.tree.length ct, .slice Af o.facts.length cf]) o from ⟨_, _, _, rfl, hT.own o1 (by decide), hT.ownR NodR.stab o2 (by decide), hT.ownR FctR.stab o3 (by decide)⟩)
                    simp only [acV, List.getElem?_toArray, List.getElem?_cons_zero, List.getElem?_cons_succ, Act.put, List.setIfInBounds_toArray, List.set_cons_zero, List.set_cons_succ, List.length_cons, List.length_nil, Nat.reduceAdd]
                    have x0 := j2.cell 0
                    have x1 := j2.cell 1
                    simp only [List.getElem?_toArray, List.getElem?_cons_zero, List.getElem?_cons_succ] at x0 x1
                    have y0 := j3.cell 0
                    have y1 := j3.cell 1
                    have y2' := j3.cell 2
                    have y3 := j3.cell 3
                    simp only [List.getElem?_toArray, List.getElem?_cons_zero, List.getElem?_cons_succ] at y0 y1 y2' y3
                    clear hd hT hbA hszA k0 k1 k2 k3 kO j2 j3 o1 o2 o3
                    go_wp2_with fail
                    exact bodyPost_ret (v := .tuple #[.agg #[.int .i64 x2, .int .i64 y2], .agg #[.int .i64 o.said, .slice Ao (intsN o.order).length co, .slice At o.tree.length ct, .slice Af o.facts.length cf]]) (by simp [results, Tryz.results32, go_sem, y0, y1, y2', y3, x0, x1]) rfl ⟨_, by rw [← hx3.out, ← hx4.out], oo.out, bW.out⟩
    · have g1 : decide ((L.length : Int) ≥ 20000) = true := by simp; omega
      have g2 : decide (20000 ≤ (L.length : Int)) = true := by simp; omega
      have g3 : decide (20000 ≤ L.length) = true := by simp; omega
      obtain rfl := his.out.2.1 (by omega)
      have s0 := k2.cell 0
      have s1 := k2.cell 1
      have fs0 := k2.frozen 0
      have fs1 := k2.frozen 1
      have z0 := k3.cell 0
      have z1 := k3.cell 1
      have z2 := k3.cell 2
      have z3 := k3.cell 3
      have f0 := k3.frozen 0
      have f1 := k3.frozen 1
      have f2 := k3.frozen 2
      have f3 := k3.frozen 3
      simp only [List.getElem?_toArray, List.getElem?_cons_zero, List.getElem?_cons_succ] at s0 s1 z0 z1 z2 z3
      have bS := (hB1.setCell (p := ⟨w.heap.size + 1 + 1, 0, none⟩) (show w.heap.size ≤ w.heap.size + 1 + 1 by omega) (.int .i64 x)).setCell (p := ⟨w.heap.size + 1 + 1, 1, none⟩) (show w.heap.size ≤ w.heap.size + 1 + 1 by omega) (.int .i64 y)
      have kS := (k2.set_ 0 (.int .i64 x)).set_ 1 (.int .i64 y)
      simp only [List.setIfInBounds_toArray, List.set_cons_zero, List.set_cons_succ] at kS
      have kO := (k3.far (p := ⟨w.heap.size + 1 + 1, 0, none⟩) (by show _ ≠ w.heap.size + 1 + 1; omega) (.int .i64 x)).far (p := ⟨w.heap.size + 1 + 1, 1, none⟩) (by show _ ≠ w.heap.size + 1 + 1; omega) (.int .i64 y)
      have zz0 := kO.cell 0
      have zz1 := kO.cell 1
      have zz2 := kO.cell 2
      have zz3 := kO.cell 3
      have ff0 := kO.frozen 0
      have ff1 := kO.frozen 1
      have ff2 := kO.frozen 2
      have ff3 := kO.frozen 3
      simp only [List.getElem?_toArray, List.getElem?_cons_zero, List.getElem?_cons_succ] at zz0 zz1 zz2 zz3
      have bZ := hide (setO_below (a := .int .i64 3) (b := .slice none 0 0) (c := .slice none 0 0) (d := .slice none 0 0) bS (show w.heap.size ≤ w.heap.size + 1 + 1 + 1 by omega))
      have kZ := setO_blk (a := .int .i64 3) (b := .slice none 0 0) (c := .slice none 0 0) (d := .slice none 0 0) kO
      have hTz := setO_ty (n0 := w.heap.size) (a := .int .i64 3) (b := .slice none 0 0) (c := .slice none 0 0) (d := .slice none 0 0) kO (by omega)
      have kS2 := hTz.blk kS (by decide)
      have y0 := kZ.cell 0
      have y1 := kZ.cell 1
      have y2 := kZ.cell 2
      have y3 := kZ.cell 3
      have x0 := kS2.cell 0
      have x1 := kS2.cell 1
      unfold setO at y0 y1 y2 y3 x0 x1
      simp only [List.getElem?_toArray, List.getElem?_cons_zero, List.getElem?_cons_succ] at y0 y1 y2 y3 x0 x1
      clear kS kO kZ hTz kS2 bS
      clear his hov0 hon hch hpa hrp hsr hB1 k0 k1 k2 k3 hl
      go_wp2_with fail
      exact bodyPost_ret (v := .tuple #[.agg #[.int .i64 x, .int .i64 y], .agg #[.int .i64 3, .slice none 0 0, .slice none 0 0, .slice none 0 0]]) (by simp [results, Tryz.results32, go_sem, y0, y1, y2, y3, x0, x1]) rfl ⟨_, rfl, ⟨_, _, _, rfl, World.ownsRow_nil _ _ _ _, NodO.nil _ _, FctO.nil _ _⟩, bZ.out⟩
end Go.Proofs.YtjomijnbnbideaaGreatDoor
