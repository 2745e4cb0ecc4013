/-
  Walks: the reference of layer 8: Right, events, Show.
-/
import Derived.Test.YtphcebgpllecjaaGreatDoorC38
import Derived.Test.YtphcebgpllecjaaGreatDoorC11
import Derived.Test.YtphcebgpllecjaaGreatDoorC15
import Derived.Test.YtphcebgpllecjaaGreatDoorC09
import Derived.Test.YtphcebgpllecjaaGreatDoorC35
set_option linter.unusedVariables false
set_option linter.unusedSimpArgs false
namespace Go.Proofs.YtphcebgpllecjaaGreatDoor
open Go.RowKit Go.Inq
set_option maxHeartbeats 4000000
attribute [local go_sem ↓] Go.wp_at_zero Go.wp_at_succ

theorem right_no {H : List Txn} {n : Nat} (h : n < H.length) (hb : (txF H n).all id = false) : rightH H = false := by
  rw [← Bool.not_eq_true, rightH_iff]
  rintro ⟨_, g⟩
  rw [(txF_iff h).2 (g n h)] at hb
  cases hb
theorem right_many {H : List Txn} (h : 32 < H.length) : rightH H = false := by
  rw [← Bool.not_eq_true, rightH_iff]
  rintro ⟨g, _⟩
  omega
theorem right_yes {H : List Txn} (h : ¬ 32 < H.length) (hall : ∀ n, n < H.length → (txF H n).all id = true) : rightH H = true :=
  (rightH_iff H).2 ⟨by omega, fun j hj => (txF_iff hj).1 (hall j hj)⟩
set_option maxRecDepth 100000 in
theorem right08_any (A : Option Addr) (c : Nat) (H : List Txn) (w : World) (h : TxnS w (Old w) (.slice A H.length c) H) (hs : SmallH H) :
    Calls Tryz.prog 12 #[.agg #[.slice A H.length c]] w fun e w' => e = .returned (.bool (rightH H)) ∧ Below w.heap.size w w' := by
  have hH := hs.1
  have hA : Below w.heap.size w (w.alloc (.cells #[.slice A H.length c] 24)) := (Below.refl _ _).alloc (Nat.le_refl _) _
  have kH : Blk (w.alloc (.cells #[.slice A H.length c] 24)) w.heap.size 24 #[.slice A H.length c] := Blk.new _ _ _
  have y0 := kH.cell 0
  simp only [List.getElem?_toArray, List.getElem?_cons_zero] at y0
  by_cases h32 : 32 < H.length
  · have hb : decide ((H.length : Int) > 32) = true := by simp; omega
    have hr := hide (right_many h32)
    clear h32
    go_enter Tryz.func12, Tryz.ntmps12
    go_wp2
    go_ret
    exact ⟨by rw [hr.out]; rfl, hA⟩
  · have hb : decide ((H.length : Int) > 32) = false := by simp; omega
    have hno := hide (fun n hn g => right_no (H := H) (n := n) hn g)
    have hyes := hide (right_yes h32)
    clear h32
    go_enter Tryz.func12, Tryz.ntmps12
    go_wp2_with fail
    clear y0
    generalize w.alloc (.cells #[.slice A H.length c] 24) = W0 at *
    go_loopw [3, 4] (fun s3 _ wr => ∃ n : Nat, n ≤ H.length ∧ s3 = .int .i64 n ∧ Hid (∀ j, j < n → (txF H j).all id = true) ∧ Below w.heap.size w wr ∧ Blk wr w.heap.size 24 #[.slice A H.length c]) (fun s3 _ _ => H.length - (intOf s3).toNat)
    case atStart => exact ⟨0, Nat.zero_le _, by go_num, fun j h => absurd h (by omega), hA, kH⟩
    case round =>
      clear hA kH
      obtain ⟨n, hn, rfl, hall, hB, kH⟩ := hrel
      have hn1 : (0 : Int) ≤ (n : Int) := Int.natCast_nonneg _
      have y0 := kH.cell 0
      simp only [List.getElem?_toArray, List.getElem?_cons_zero] at y0
      by_cases hlt : n < H.length
      · have hn2 : (n : Int) < (H.length : Int) := by omega
        have hc := one08_any A c H n wr (TxnS.keep h (Agree.below hB fun b h => h) (fun b h => Nat.lt_of_lt_of_le h hB.size)) hlt hs
        have hno2 := hide (hno.out n hlt)
        have hst : Hid ((txF H n).all id = true → ∀ j, j < n + 1 → (txF H j).all id = true) := fun g j hj => by
          by_cases e : j = n
          · subst e; exact g
          · exact hall.out j (by omega)
        generalize (txF H n).all id = tb at *
        go_wp2_with fail
        refine hc.mono ?_
        clear hc
        rintro e w1 ⟨rfl, hb1⟩
        have kH1 := kH.below hb1 kH.lt
        have hB1 := hB.trans (hb1.mono hB.size)
        cases tb with
        | false =>
          have hr := hide (hno2.out rfl)
          go_wp2
          go_ret
          exact ⟨by rw [hr.out]; rfl, hB1⟩
        | true =>
          have hst2 := hide (hst.out rfl)
          go_wp2
          go_roundw
          case rel => exact ⟨n + 1, by omega, by go_num, hst2, hB1, kH1⟩
          case measure => simp [intOf]; omega
      · have hr := hide (hyes.out fun j hj => hall.out j (by omega))
        go_wp2
        go_ret
        exact ⟨by rw [hr.out]; rfl, hB⟩

set_option maxRecDepth 100000 in
theorem events08_any (ts : Int) (ws : List Int) (rs : List It) (Aw Ar : Option Addr) (cw cr n : Nat) (w : World) (hws : IntS w (Old w) (.slice Aw ws.length cw) ws) (hrs : ItS w (Old w) (.slice Ar rs.length cr) rs) (l1 : rs.length ≤ 100) (l2 : ws.length ≤ 100) (hn : n ≤ 100) (hx : ∀ x ∈ rs, -1 ≤ x.b ∧ x.b < 100) :
    Calls Tryz.prog 21 #[.agg #[.int .i64 ts, .slice Aw ws.length cw, .slice Ar rs.length cr], .int .i64 n] w fun e w' => ∃ A c, e = .returned (.slice A (txEvents (txOf ⟨ts, ws, rs⟩ n)).length c) ∧ EvS w' (fun b => w.heap.size ≤ b ∧ b < w'.heap.size) (.slice A (txEvents (txOf ⟨ts, ws, rs⟩ n)).length c) (txEvents (txOf ⟨ts, ws, rs⟩ n)) ∧ Below w.heap.size w w' := by
  obtain ⟨ie, hie, hie1, hie2, hie3⟩ := info_parts infoE5
  have hA : Below w.heap.size w (w.alloc (.cells #[.int .i64 ts, .slice Aw ws.length cw, .slice Ar rs.length cr] 38)) := (Below.refl _ _).alloc (Nat.le_refl _) _
  have kT : Blk (w.alloc (.cells #[.int .i64 ts, .slice Aw ws.length cw, .slice Ar rs.length cr] 38)) w.heap.size 38 #[.int .i64 ts, .slice Aw ws.length cw, .slice Ar rs.length cr] := Blk.new _ _ _
  have hB := hA.alloc hA.size (.cells #[.int .i64 0, .int .i64 ts, .int .i64 0, .int .i64 0] 56)
  have kT1 := kT.alloc (.cells #[.int .i64 0, .int .i64 ts, .int .i64 0, .int .i64 0] 56)
  have kE := Blk.new (w.alloc (.cells #[.int .i64 ts, .slice Aw ws.length cw, .slice Ar rs.length cr] 38)) 56 #[.int .i64 0, .int .i64 ts, .int .i64 0, .int .i64 0]
  have t0 := kT.cell 0
  simp only [List.getElem?_toArray, List.getElem?_cons_zero] at t0
  have hown0 : ((w.alloc (.cells #[.int .i64 ts, .slice Aw ws.length cw, .slice Ar rs.length cr] 38)).alloc (.cells #[.int .i64 0, .int .i64 ts, .int .i64 0, .int .i64 0] 56)).ownsRow (w.heap.size + 1) 56 4 (.slice (some ⟨(w.alloc (.cells #[.int .i64 ts, .slice Aw ws.length cw, .slice Ar rs.length cr] 38)).heap.size, 0, none⟩) 1 1) [(⟨0, ts, 0, 0⟩ : Ev)].length (([(⟨0, ts, 0, 0⟩ : Ev)]).map Ev.enc).flatten :=
    World.ownsRow_lit (base := w.heap.size + 1) (e := 56) (size := 4) (w.alloc (.cells #[.int .i64 ts, .slice Aw ws.length cw, .slice Ar rs.length cr] 38)) #[.int .i64 0, .int .i64 ts, .int .i64 0, .int .i64 0] 1 (by simp) (by decide) rfl
  have hxs := hide hx
  clear hx
  go_enter Tryz.func21, Tryz.ntmps21
  go_wp2_with fail
  clear t0 hA kT kE
  replace hown0 : ((w.alloc (.cells #[.int .i64 ts, .slice Aw ws.length cw, .slice Ar rs.length cr] 38)).alloc (.cells #[.int .i64 0, .int .i64 ts, .int .i64 0, .int .i64 0] 56)).ownsRow (w.heap.size + 1) 56 4 (.slice (some ⟨w.heap.size + 1, 0, none⟩) 1 1) ([(⟨0, ts, 0, 0⟩ : Ev)] ++ rdOps ⟨ts, ws, rs⟩ 0).length (([(⟨0, ts, 0, 0⟩ : Ev)] ++ rdOps ⟨ts, ws, rs⟩ 0).map Ev.enc).flatten := by
    simp only [World.size_alloc] at hown0
    exact hown0
  generalize (w.alloc (.cells #[.int .i64 ts, .slice Aw ws.length cw, .slice Ar rs.length cr] 38)).alloc (.cells #[.int .i64 0, .int .i64 ts, .int .i64 0, .int .i64 0] 56) = W0 at *
  go_loopw [5, 6] (fun s5 s6 wr => ∃ (j : Nat) (v : Value), j ≤ rs.length ∧ s6 = .int .i64 j ∧ v = s5 ∧ wr.ownsRow (w.heap.size + 1) 56 4 v ([(⟨0, ts, 0, 0⟩ : Ev)] ++ rdOps ⟨ts, ws, rs⟩ j).length (([(⟨0, ts, 0, 0⟩ : Ev)] ++ rdOps ⟨ts, ws, rs⟩ j).map Ev.enc).flatten ∧ Below w.heap.size w wr ∧ Blk wr w.heap.size 38 #[.int .i64 ts, .slice Aw ws.length cw, .slice Ar rs.length cr]) (fun _ s6 _ => rs.length - (intOf s6).toNat)
  case atStart => exact ⟨0, _, Nat.zero_le _, by go_num, rfl, hown0, hB, kT1⟩
  case round =>
    clear hown0 hB kT1
    obtain ⟨j, v, hj, rfl, rfl, hown, hb, kT⟩ := hrel
    have hj1 : (0 : Int) ≤ (j : Int) := Int.natCast_nonneg _
    have e0 := kT.cell 0
    have e2 := kT.cell 2
    simp only [List.getElem?_toArray, List.getElem?_cons_zero, List.getElem?_cons_succ] at e0 e2
    by_cases hjl : j < rs.length
    · have hj2 : (j : Int) < (rs.length : Int) := by omega
      obtain ⟨br, or_, rfl, hbr, ec0, ec1⟩ := ItS.at_ (ItS.keep hrs (Agree.below hb fun b h => h) (fun b h => h)) hjl
      have hx := hxs.out _ (List.getElem_mem hjl)
      have hst := rdOps_step (t := ⟨ts, ws, rs⟩) (j := j) hjl
      have hOl := rdOps_len ⟨ts, ws, rs⟩ j
      dsimp only at hst hOl
      generalize rs[j] = x at *
      obtain ⟨xa, xb⟩ := x
      dsimp only at ec0 ec1 hx hst
      have hst : [(⟨0, ts, 0, 0⟩ : Ev)] ++ rdOps ⟨ts, ws, rs⟩ (j + 1) = ([(⟨0, ts, 0, 0⟩ : Ev)] ++ rdOps ⟨ts, ws, rs⟩ j) ++ [⟨1, ts, xa, xb + 1⟩] := by rw [hst, List.append_assoc]
      replace hst := hide hst
      have hOl2 : ([(⟨0, ts, 0, 0⟩ : Ev)] ++ rdOps ⟨ts, ws, rs⟩ j).length ≤ 201 := by rw [List.length_append]; simp; omega
      generalize [(⟨0, ts, 0, 0⟩ : Ev)] ++ rdOps ⟨ts, ws, rs⟩ j = O at *
      have hw1 : IntKind.i64.wrap (xb + 1) = xb + 1 := by rw [IntKind.wrap_i64]; omega
      go_wp2_with fail
      refine wp_region_plan [0, 1, 2, 3, 4, 5, 6, 7, 8, 9, 10, 11, 12, 13, 14, 15, 16] [17, 18, 19] (by kernel_rfl) (by kernel_rfl) (fun _ _ d _ _ h => by cases d <;> exact h) ?_
      have hownX := ((hown.alloc (.cells #[.int .i64 1, .int .i64 ts, .int .i64 xa, .int .i64 (xb + 1)] 56)).drew)
      have kN := hide (show SlR 4 (Flat Ev.enc) ((wr.alloc (.cells #[.int .i64 1, .int .i64 ts, .int .i64 xa, .int .i64 (xb + 1)] 56)).drew) (fun _ => True) (.slice (some ⟨wr.heap.size, 0, none⟩) 1 1) [(⟨1, ts, xa, (xb + 1)⟩ : Ev)] from SlR.one (R := Flat Ev.enc) (size := 4) (K := fun _ => True) (x := (⟨1, ts, xa, (xb + 1)⟩ : Ev)) (w := ((wr.alloc (.cells #[.int .i64 1, .int .i64 ts, .int .i64 xa, .int .i64 (xb + 1)] 56)).drew)) (Blk.new wr 56 #[.int .i64 1, .int .i64 ts, .int .i64 xa, .int .i64 (xb + 1)]) rfl rfl trivial)
      have hbX := (hb.alloc hb.size (.cells #[.int .i64 1, .int .i64 ts, .int .i64 xa, .int .i64 (xb + 1)] 56)).drew
      have kTX : Blk ((wr.alloc (.cells #[.int .i64 1, .int .i64 ts, .int .i64 xa, .int .i64 (xb + 1)] 56)).drew) w.heap.size 38 _ := (kT.alloc _).drew
      have hsX : w.heap.size + 1 ≤ ((wr.alloc (.cells #[.int .i64 1, .int .i64 ts, .int .i64 xa, .int .i64 (xb + 1)] 56)).drew).heap.size := kTX.lt
      have hvl := hide (fun g hg => hown.lt g hg)
      replace kTX := hide kTX
      simp only [List.filterMap_cons, List.filterMap_nil, List.getElem?_cons_zero, List.getElem?_cons_succ]
      repeat still_step
      refine wpStill_nil ?_
      refine wpList_plain rfl (fun K hK => ?_)
      go_simp
      refine hK _ _ ?_
      clear hK K
      refine wpList_append_flat (enc := Ev.enc) rfl (.tmp 19) (.tmp 36) 41 rfl (w.heap.size + 1) 56 ie _ 4 32 Tryz.underlying41 hie hie1 hie2 hie3 rfl (by decide) v (fun _ => True) O rfl hownX (fun _ => rfl) _ [(⟨1, ts, xa, (xb + 1)⟩ : Ev)] rfl kN.out encE5 (by simp [maxLen]; omega) (by simp; omega) hsX ?_
      intro v6 W6 hown6 hgrow6 hat6
      have kT6 := kTX.out.grown hgrow6 (fun e => by have := (hvl.out _ e.symm).1; omega)
      have hb6 := hbX.grown hgrow6 hbX.size (fun g hg => by have := (hvl.out g hg).1; omega)
      clear hgrow6 hat6 hownX kN hbX hown hb kT
      go_wp2
      go_roundw
      case rel => exact ⟨j + 1, v6, by omega, by go_num, rfl, by rw [hst.out]; exact hown6, hb6, kT6⟩
      case measure => simp [intOf]; omega
    · obtain rfl : j = rs.length := by omega
      have e1 := kT.cell 1
      simp only [List.getElem?_toArray, List.getElem?_cons_zero, List.getElem?_cons_succ] at e1
      rw [← wrOps_zero ⟨ts, ws, rs⟩ n] at hown
      go_wp2
      clear e0 e1 e2
      generalize wr = Wp at *
      go_loopw [5, 7] (fun s5 s7 wr => ∃ (j : Nat) (v : Value), j ≤ ws.length ∧ s7 = .int .i64 j ∧ v = s5 ∧ wr.ownsRow (w.heap.size + 1) 56 4 v ([(⟨0, ts, 0, 0⟩ : Ev)] ++ wrOps ⟨ts, ws, rs⟩ n j).length (([(⟨0, ts, 0, 0⟩ : Ev)] ++ wrOps ⟨ts, ws, rs⟩ n j).map Ev.enc).flatten ∧ Below w.heap.size w wr ∧ Blk wr w.heap.size 38 #[.int .i64 ts, .slice Aw ws.length cw, .slice Ar rs.length cr]) (fun _ s7 _ => ws.length - (intOf s7).toNat)
      case atStart => exact ⟨0, _, Nat.zero_le _, by go_num, rfl, hown, hb, kT⟩
      case round =>
        clear hown hb kT hj hjl
        obtain ⟨j, v, hj, rfl, rfl, hown, hb, kT⟩ := hrel
        have hj1 : (0 : Int) ≤ (j : Int) := Int.natCast_nonneg _
        have e0 := kT.cell 0
        have e1 := kT.cell 1
        simp only [List.getElem?_toArray, List.getElem?_cons_zero, List.getElem?_cons_succ] at e0 e1
        have hOl := wrOps_len ⟨ts, ws, rs⟩ n j
        dsimp only at hOl
        by_cases hjl : j < ws.length
        · have hj2 : (j : Int) < (ws.length : Int) := by omega
          obtain ⟨br, or_, rfl, hbr, ec0⟩ := IntS.at_ (IntS.keep hws (Agree.below hb fun b h => h) (fun b h => h)) hjl
          have hst := wrOps_step (t := ⟨ts, ws, rs⟩) (n := n) (j := j) hjl
          dsimp only at hst
          generalize ws[j] = xa at *
          have hst : [(⟨0, ts, 0, 0⟩ : Ev)] ++ wrOps ⟨ts, ws, rs⟩ n (j + 1) = ([(⟨0, ts, 0, 0⟩ : Ev)] ++ wrOps ⟨ts, ws, rs⟩ n j) ++ [⟨2, ts, xa, (n : Int) + 1⟩] := by rw [hst, List.append_assoc]
          replace hst := hide hst
          have hOl2 : ([(⟨0, ts, 0, 0⟩ : Ev)] ++ wrOps ⟨ts, ws, rs⟩ n j).length ≤ 201 := by rw [List.length_append]; simp; omega
          generalize [(⟨0, ts, 0, 0⟩ : Ev)] ++ wrOps ⟨ts, ws, rs⟩ n j = O at *
          have hw1 : IntKind.i64.wrap ((n : Int) + 1) = (n : Int) + 1 := by rw [IntKind.wrap_i64]; omega
          go_wp2_with fail
          refine wp_region_plan [0, 1, 2, 3, 4, 5, 6, 7, 8, 9, 10] [11, 12, 13] (by kernel_rfl) (by kernel_rfl) (fun _ _ d _ _ h => by cases d <;> exact h) ?_
          have hownX := ((hown.alloc (.cells #[.int .i64 2, .int .i64 ts, .int .i64 xa, .int .i64 ((n : Int) + 1)] 56)).drew)
          have kN := hide (show SlR 4 (Flat Ev.enc) ((wr.alloc (.cells #[.int .i64 2, .int .i64 ts, .int .i64 xa, .int .i64 ((n : Int) + 1)] 56)).drew) (fun _ => True) (.slice (some ⟨wr.heap.size, 0, none⟩) 1 1) [(⟨2, ts, xa, ((n : Int) + 1)⟩ : Ev)] from SlR.one (R := Flat Ev.enc) (size := 4) (K := fun _ => True) (x := (⟨2, ts, xa, ((n : Int) + 1)⟩ : Ev)) (w := ((wr.alloc (.cells #[.int .i64 2, .int .i64 ts, .int .i64 xa, .int .i64 ((n : Int) + 1)] 56)).drew)) (Blk.new wr 56 #[.int .i64 2, .int .i64 ts, .int .i64 xa, .int .i64 ((n : Int) + 1)]) rfl rfl trivial)
          have hbX := (hb.alloc hb.size (.cells #[.int .i64 2, .int .i64 ts, .int .i64 xa, .int .i64 ((n : Int) + 1)] 56)).drew
          have kTX : Blk ((wr.alloc (.cells #[.int .i64 2, .int .i64 ts, .int .i64 xa, .int .i64 ((n : Int) + 1)] 56)).drew) w.heap.size 38 _ := (kT.alloc _).drew
          have hsX : w.heap.size + 1 ≤ ((wr.alloc (.cells #[.int .i64 2, .int .i64 ts, .int .i64 xa, .int .i64 ((n : Int) + 1)] 56)).drew).heap.size := kTX.lt
          have hvl := hide (fun g hg => hown.lt g hg)
          replace kTX := hide kTX
          simp only [List.filterMap_cons, List.filterMap_nil, List.getElem?_cons_zero, List.getElem?_cons_succ]
          repeat still_step
          refine wpStill_nil ?_
          refine wpList_plain rfl (fun K hK => ?_)
          go_simp
          refine hK _ _ ?_
          clear hK K
          refine wpList_append_flat (enc := Ev.enc) rfl (.tmp 45) (.tmp 56) 41 rfl (w.heap.size + 1) 56 ie _ 4 32 Tryz.underlying41 hie hie1 hie2 hie3 rfl (by decide) v (fun _ => True) O rfl hownX (fun _ => rfl) _ [(⟨2, ts, xa, ((n : Int) + 1)⟩ : Ev)] rfl kN.out encE5 (by simp [maxLen]; omega) (by simp; omega) hsX ?_
          intro v6 W6 hown6 hgrow6 hat6
          have kT6 := kTX.out.grown hgrow6 (fun e => by have := (hvl.out _ e.symm).1; omega)
          have hb6 := hbX.grown hgrow6 hbX.size (fun g hg => by have := (hvl.out g hg).1; omega)
          clear hgrow6 hat6 hownX kN hbX hown hb kT
          go_wp2
          go_roundw
          case rel => exact ⟨j + 1, v6, by omega, by go_num, rfl, by rw [hst.out]; exact hown6, hb6, kT6⟩
          case measure => simp [intOf]; omega
        · obtain rfl : j = ws.length := by omega
          rw [wrOps_all] at hown hOl
          have hlast : txEvents (txOf ⟨ts, ws, rs⟩ n) = [(⟨0, ts, 0, 0⟩ : Ev)] ++ opsOf ⟨ts, ws, rs⟩ n ++ [⟨3, ts, 0, 0⟩] := by rw [txEvents_shown rfl]; rfl
          have hOl2 : ([(⟨0, ts, 0, 0⟩ : Ev)] ++ opsOf ⟨ts, ws, rs⟩ n).length ≤ 201 := by rw [List.length_append]; simp; omega
          replace hlast := hide hlast
          generalize [(⟨0, ts, 0, 0⟩ : Ev)] ++ opsOf ⟨ts, ws, rs⟩ n = O at *
          have hownX := hown.alloc (.cells #[.int .i64 3, .int .i64 ts, .int .i64 0, .int .i64 0] 56)
          have kN := hide (show SlR 4 (Flat Ev.enc) (wr.alloc (.cells #[.int .i64 3, .int .i64 ts, .int .i64 0, .int .i64 0] 56)) (fun _ => True) (.slice (some ⟨wr.heap.size, 0, none⟩) 1 1) [(⟨3, ts, 0, 0⟩ : Ev)] from SlR.one (R := Flat Ev.enc) (size := 4) (K := fun _ => True) (x := (⟨3, ts, 0, 0⟩ : Ev)) (w := (wr.alloc (.cells #[.int .i64 3, .int .i64 ts, .int .i64 0, .int .i64 0] 56))) (Blk.new wr 56 #[.int .i64 3, .int .i64 ts, .int .i64 0, .int .i64 0]) rfl rfl trivial)
          have hbX := hb.alloc hb.size (.cells #[.int .i64 3, .int .i64 ts, .int .i64 0, .int .i64 0] 56)
          have hkl := kT.lt
          have hsX : w.heap.size + 1 ≤ (wr.alloc (.cells #[.int .i64 3, .int .i64 ts, .int .i64 0, .int .i64 0] 56)).heap.size := by simp; omega
          have hvl := hide (fun g hg => hown.lt g hg)
          clear hown hb kT
          go_wp2_with (at_builtin; refine wpList_append_flat (enc := Ev.enc) rfl (.tmp 58) (.tmp 62) 41 rfl (w.heap.size + 1) 56 ie _ 4 32 Tryz.underlying41 hie hie1 hie2 hie3 rfl (by decide) v (fun _ => True) O rfl hownX (fun _ => rfl) _ [(⟨3, ts, 0, 0⟩ : Ev)] rfl kN.out encE5 (by simp [maxLen]; omega) (by simp; omega) hsX ?_; intro v6 W6 hown6 hgrow6 hat6)
          have hb6 := hbX.grown hgrow6 hbX.size (fun g hg => by have := (hvl.out g hg).1; omega)
          rw [← hlast.out] at hown6
          obtain ⟨A6, c6, rfl⟩ := own_slice hown6
          go_ret
          exact ⟨A6, c6, rfl, SlR.of_flat hown6 rfl (fun _ => rfl) (fun g h1 h2 => ⟨by omega, h2⟩), hb6⟩
end Go.Proofs.YtphcebgpllecjaaGreatDoor
