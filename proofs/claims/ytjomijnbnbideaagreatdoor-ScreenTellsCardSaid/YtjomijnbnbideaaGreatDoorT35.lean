/-
  Walks: layer 15's reference: a cycle.
-/
import Derived.Test.YtjomijnbnbideaaGreatDoorT34
import Derived.Test.YtjomijnbnbideaaGreatDoorT15
set_option linter.unusedVariables false
set_option linter.unusedSimpArgs false
namespace Go.Proofs.YtjomijnbnbideaaGreatDoor
open Go.RowKit Go.Inq
set_option maxHeartbeats 4000000
attribute [local go_sem ↓] Go.wp_at_zero Go.wp_at_succ

/-- The first that is so, from a place on; below 0: none is. -/
def nxtI (n : Nat) (p : Nat → Bool) (m : Nat) : Int := match ((List.range n).drop m).find? p with
  | some y => (y : Int)
  | none => -1
theorem nxtI_end (n : Nat) (p : Nat → Bool) : nxtI n p n = -1 := by
  unfold nxtI
  rw [List.drop_eq_nil_of_le (by simp)]
  rfl
theorem nxtI_step {n m : Nat} {p : Nat → Bool} (h : m < n) : nxtI n p m = if p m = true then (m : Int) else nxtI n p (m + 1) := by
  unfold nxtI
  rw [List.drop_eq_getElem_cons (by simpa using h), List.find?_cons]
  simp only [List.getElem_range]
  cases p m <;> rfl
theorem nxtI_some {n : Nat} {p : Nat → Bool} {y : Nat} (h : (List.range n).find? p = some y) : nxtI n p 0 = (y : Int) := by
  unfold nxtI
  rw [List.drop_zero, h]
/-- What a row in the making still lacks. -/
def FindR (n : Nat) (E : Edges) (v : Nat) (pre : List Nat) (y j : Nat) : Prop := y < n ∧ j ≤ 64 ∧ pre.length + j ≤ 64 ∧ farE n E v y = j + 1 ∧ findL n E = pre ++ pathF n E (farE n E v) y j
theorem FindR.start {n : Nat} {E : Edges} {v : Nat} (hn : n ≤ 64) (hv : v < n) (h : ∀ u, u < v → farA n E u u = 0) (h1 : farA n E v v ≠ 0) : FindR n E v [v] v (farA n E v v - 1) ∧ 1 ≤ farA n E v v := by
  have e : farA n E v v = farE n E v v := by unfold farA; rw [if_pos hv]
  have h2 : farE n E v v ≤ n := farK_lev hv
  have hf := findL_at hv h h1
  rw [e] at h1 ⊢
  exact ⟨⟨hv, by omega, by simp; omega, by omega, hf⟩, by omega⟩
theorem FindR.next {n : Nat} {E : Edges} {v : Nat} {pre : List Nat} {y j : Nat} (h : FindR n E v pre y (j + 1)) : ∃ z : Nat, nxtI n (fun z => E y z && decide (farE n E v z = j + 1)) 0 = (z : Int) ∧ FindR n E v (pre ++ [z]) z j := by
  obtain ⟨h1, h2, h3, h4, h5⟩ := h
  obtain ⟨z, g1, g2, g3, g4⟩ := nearE_some h4
  refine ⟨z, nxtI_some g1, g2, by omega, by simp; omega, g4, ?_⟩
  rw [h5, pathF_step g1, List.append_assoc]
  rfl
theorem FindR.done {n : Nat} {E : Edges} {v : Nat} {pre : List Nat} {y : Nat} (h : FindR n E v pre y 0) : findL n E = pre := by
  obtain ⟨h1, h2, h3, h4, h5⟩ := h
  rw [h5]
  simp [pathF]
set_option maxRecDepth 100000 in
theorem rfind15_any (n : Nat) (A : Option Addr) (c : Nat) (E : Edges) (K : Nat → Prop) (w : World) (h : GrS w K n A c E) (hK : ∀ b, K b → b < w.heap.size) :
    Calls Tryz.prog 71 #[.agg #[.int .i64 n, .slice A n c]] w (OutI w (intsN (findL n E))) := by
  obtain ⟨ii, hii, hi1, hi2, hi3⟩ := info_parts infoI10
  have hn64 := h.n64
  obtain ⟨W, hW⟩ : ∃ W, w.alloc (.cells #[.int .i64 n, .slice A n c] 124) = W := ⟨_, rfl⟩
  have hB := below_allocEq (Below.refl w.heap.size w) hW (Nat.le_refl _)
  have kG := Blk.newEq hW
  have hsz := hB.size
  have hsz1 := size_allocEq hW
  have hgr : Hid (∀ W', Below w.heap.size w W' → GrS W' K n A c E ∧ ∀ b, K b → b < W'.heap.size) := hide (fun W' hb => ⟨h.keep (Agree.below hb hK) (fun b h => h), fun b h => Nat.lt_of_lt_of_le (hK b h) hb.size⟩)
  have hno := hide (findL_no (n := n) (E := E))
  have c0 := kG.cell 0
  have c1 := kG.cell 1
  simp only [List.getElem?_toArray, List.getElem?_cons_zero, List.getElem?_cons_succ] at c0 c1
  clear h
  go_enter Tryz.func71, Tryz.ntmps71
  go_wp2_with fail
  try rw [hW]
  clear hW
  refine (rright12_any n A c E K W (hgr.out W hB).1 (hgr.out W hB).2).mono ?_
  rintro e w1 ⟨rfl, hb1⟩
  replace kG := kG.below hb1 kG.lt
  replace hB := hB.trans (hb1.mono hsz)
  clear hb1 c0 c1
  go_upto_region 5 with fail
  go_loopw [4] (fun s4 wr => ∃ v : Nat, v ≤ n ∧ s4 = .int .i64 v ∧ Hid (∀ u, u < v → farA n E u u = 0) ∧ Blk wr w.heap.size 124 #[.int .i64 n, .slice A n c] ∧ Below w.heap.size w wr) (fun s4 _ => n - (intOf s4).toNat)
  case atStart => exact ⟨0, Nat.zero_le _, by go_num, hide (fun u hu => absurd hu (Nat.not_lt_zero u)), kG, hB⟩
  case round =>
    clear kG hB
    obtain ⟨v, hv, rfl, hall, kr, hbw⟩ := hrel
    obtain ⟨Wv, rfl⟩ : ∃ Wv, Wv = wr := ⟨_, rfl⟩
    have hv0 : (0 : Int) ≤ (v : Int) := Int.natCast_nonneg _
    have c0 := kr.cell 0
    have c1 := kr.cell 1
    simp only [List.getElem?_toArray, List.getElem?_cons_zero, List.getElem?_cons_succ] at c0 c1
    by_cases hvt : v < n
    · have hv1 : (v : Int) < (n : Int) := by omega
      have hfr := hide (rfar15_any n A c E v K Wv (hgr.out Wv hbw).1 (hgr.out Wv hbw).2 hvt)
      go_wp2_with fail
      refine hfr.out.mono ?_
      rintro e w2 ⟨g, cap, rfl, hg, hR, hb2⟩
      have hbw2 := hbw.trans (hb2.mono hbw.size)
      replace kr := kr.below hb2 kr.lt
      have hgl := hR.lt
      have hsv := hbw.size
      obtain ⟨d0, -⟩ := hR.cell hvt
      clear hfr hbw hb2 c0 c1
      by_cases hz : farA n E v v = 0
      · have hzb : ((farA n E v v : Int) == 0) = true := by simp [hz]
        have hall2 : Hid (∀ u, u < v + 1 → farA n E u u = 0) := hide (fun u hu => by
          rcases Nat.lt_or_ge u v with q | q
          · exact hall.out u q
          · obtain rfl : u = v := by omega
            exact hz)
        clear hall hz
        go_wp2
        go_roundw
        case rel => exact ⟨v + 1, by omega, by go_num, hall2, kr, hbw2⟩
        case measure => simp [intOf]; omega
      · have hzb : ((farA n E v v : Int) == 0) = false := by rw [beq_eq_false_iff_ne]; omega
        obtain ⟨hst, h1⟩ := FindR.start hn64 hvt hall.out hz
        have hRE : RowD w2 g cap n (farE n E v) := hR.congr fun y hy => by unfold farA; rw [if_pos hy]
        replace hst := hide hst
        clear hall hz
        obtain ⟨Wz, hWz⟩ : ∃ Wz, w2.alloc (.cells #[.int .i64 (v : Int)] 3) = Wz := ⟨_, rfl⟩
        have kz := Blk.newEq hWz
        have hbz := (below_allocEq (Below.refl w2.heap.size w2) hWz (Nat.le_refl _))
        have hs2 := hbw2.size
        have ho0 : OwnI Wz w2.heap.size (.slice (some ⟨w2.heap.size, 0, none⟩) 1 1) (intsN [v]) := own_one kz (Nat.le_refl _)
        replace kr := kr.below hbz kr.lt
        have hR2 := hRE.below hbz hgl
        have hbw3 := hbw2.trans (hbz.mono hs2)
        have d1 := ((hR.below hbz hgl).cell hvt).1
        clear hR
        have hdv : ((farA n E v v : Int) - 1) = ((farA n E v v - 1 : Nat) : Int) := by omega
        go_wp2_with fail
        try rw [hWz]
        go_loopw [6, 7, 8] (fun s6 s7 s8 wr => ∃ (pre : List Nat) (y j : Nat), s7 = .int .i64 y ∧ s8 = .int .i64 j ∧ Hid (FindR n E v pre y j) ∧ OwnI wr w2.heap.size s6 (intsN pre) ∧ RowD wr g cap n (farE n E v) ∧ Blk wr w.heap.size 124 #[.int .i64 n, .slice A n c] ∧ Below w.heap.size w wr ∧ Below w2.heap.size w2 wr) (fun _ _ s8 _ => (intOf s8).toNat)
        case atStart => exact ⟨[v], v, farA n E v v - 1, by go_num, congrArg _ (Go.IntWalk.wrap64_in _ (by have := hst.out.2.1; omega)), hst, ho0, hR2, kr, hbw3, hbz⟩
        case round =>
          clear ho0 hR2 kr hbw3 hbz hst d1 d0 kz hWz
          obtain ⟨pre, y, j, rfl, rfl, hF, hown, hR, kr, hbw, hbz⟩ := hrel
          obtain ⟨Wy, rfl⟩ : ∃ Wy, Wy = wr := ⟨_, rfl⟩
          have hj0 : (0 : Int) ≤ (j : Int) := Int.natCast_nonneg _
          have hlen := intsN_len pre
          obtain ⟨Ao, co, rfl⟩ := OwnI.form hown
          rw [hlen] at hown ⊢
          have c0 := kr.cell 0
          have c1 := kr.cell 1
          simp only [List.getElem?_toArray, List.getElem?_cons_zero, List.getElem?_cons_succ] at c0 c1
          cases j with
          | zero =>
            have hfd := hide hF.out.done
            clear hF
            have hos : Hid (OwnI Wy w.heap.size (.slice Ao pre.length co) (intsN pre)) := hide (own_base' hown (by omega))
            go_wp2
            exact bodyPost_ret (v := .slice Ao pre.length co) (by simp [results, Tryz.results71, go_sem]) rfl ⟨_, rfl, by rw [hfd.out]; exact hos.out, hbw⟩
          | succ i =>
            obtain ⟨z, hz1, hF2⟩ := hF.out.next
            have hyn := hF.out.1
            have hpl := hF.out.2.2.1
            have hj2 : ((i + 1 : Nat) : Int) = (i : Int) + 1 := by omega
            rw [hj2]
            replace hF2 := hide hF2
            replace hz1 := hide hz1
            clear hF
            have hpm : pre.length + 1 ≤ maxLen := by unfold maxLen; omega
            have hpb : (pre.length + 1) * 8 ≤ 140737488355328 := by omega
            have hend := hide (nxtI_end n (fun z => E y z && decide (farE n E v z = i + 1)))
            go_wp2_with fail
            go_loopw [9, 10] (fun s9 s10 wr => ∃ m : Nat, m ≤ n ∧ s10 = .int .i64 ((m : Int) - 1) ∧ s9 = .int .i64 (nxtI n (fun z => E y z && decide (farE n E v z = i + 1)) m) ∧ OwnI wr w2.heap.size (.slice Ao pre.length co) (intsN pre) ∧ RowD wr g cap n (farE n E v) ∧ Blk wr w.heap.size 124 #[.int .i64 n, .slice A n c] ∧ Below w.heap.size w wr ∧ Below w2.heap.size w2 wr) (fun _ s10 _ => ((intOf s10) + 1).toNat)
            case atStart => exact ⟨n, Nat.le_refl _, by go_num, by rw [hend.out], hown, hR, kr, hbw, hbz⟩
            case round =>
              clear hown hR kr hbw hbz c0 c1
              obtain ⟨m, hm, rfl, rfl, hown, hR, kr, hbw, hbz⟩ := hrel
              obtain ⟨Wm, rfl⟩ : ∃ Wm, Wm = wr := ⟨_, rfl⟩
              have c0 := kr.cell 0
              have c1 := kr.cell 1
              simp only [List.getElem?_toArray, List.getElem?_cons_zero, List.getElem?_cons_succ] at c0 c1
              cases m with
              | zero =>
                rw [hz1.out]
                have hown2 := hide hown
                have hit : Hid (intsN pre ++ [(z : Int)] = intsN (pre ++ [z])) := hide (by unfold intsN; simp)
                have hlen2 := hide hlen
                generalize intsN pre = D at *
                have hsw : w2.heap.size ≤ Wm.heap.size := hbz.size
                have hgl2 : g < w2.heap.size := hgl
                have hlo := hide (fun b hb => (World.ownsRow.lt hown b hb).1)
                clear hlen c0 c1 hown
                go_wp2_with (at_builtin; go_loud (refine wpList_push (enc := Go.Inq.encI) rfl (.tmp 64) (.tmp 66) 27 rfl w2.heap.size 3 ii _ 1 8 Tryz.underlying27 hii hi1 hi2 hi3 rfl (by decide) (.slice Ao pre.length co) D rfl hown2.out (fun _ => rfl) (z : Int) _ rfl rfl Go.Inq.encI_one (by rw [hlen2.out]; exact hpm) (by rw [hlen2.out]; exact hpb) hsw w2 w2.heap.size (Nat.le_refl _) hbz ?_); intro v1 w6 hown1 hg1 hbz1 hat1)
                have hno : ∀ q, q < w2.heap.size → some q ≠ (Value.slice Ao pre.length co).ownBlock := fun q hq e => by have := hlo.out q e.symm; omega
                have kr2 := (kr.alloc (.cells #[.int .i64 (z : Int)] 3)).grown hg1 (hno _ (by omega))
                have hR2 : RowD w6 g cap n (farE n E v) := by
                  obtain ⟨cur, q1, q2⟩ := hR
                  exact ⟨cur, (q1.alloc (.cells #[.int .i64 (z : Int)] 3)).grown hg1 (hno _ hgl2), q2⟩
                have hbw6 : Below w.heap.size w w6 := hbw2.trans (hbz1.mono hs2)
                go_roundw
                case rel => exact ⟨pre ++ [z], z, i, rfl, by go_num, hF2, by rw [← hit.out]; exact hown1, hR2, kr2, hbw6, hbz1⟩
                case measure => simp [intOf] <;> omega
              | succ x =>
                have hx2 : (((x + 1 : Nat) : Int) - 1) = (x : Int) := by omega
                rw [hx2]
                have hx0 : (0 : Int) ≤ (x : Int) := Int.natCast_nonneg _
                have hx1 : (x : Int) < (n : Int) := by omega
                have hxn : x < n := by omega
                have hnx := hide (nxtI_step (p := fun z => E y z && decide (farE n E v z = i + 1)) hxn)
                have hhc := hide (rhas12_any n A c E y x K Wm (hgr.out Wm hbw).1 (hgr.out Wm hbw).2 hyn hxn)
                obtain ⟨b, hb⟩ : ∃ b, E y x = b := ⟨_, rfl⟩
                rw [hb] at hhc hnx
                go_wp2_with fail
                refine hhc.out.mono ?_
                rintro e w5 ⟨rfl, hb5⟩
                have hbw5 := hbw.trans (hb5.mono hbw.size)
                have hbz5 := hbz.trans (hb5.mono hbz.size)
                replace kr := kr.below hb5 kr.lt
                replace hR := hR.below hb5 hR.lt
                have hown5 := own_below hown hb5 (Nat.le_refl _)
                obtain ⟨dx, -⟩ := hR.cell hxn
                clear hhc hown hbw hbz hb5 c0 c1
                cases b with
                | false =>
                  have hn2 : Hid (nxtI n (fun z => E y z && decide (farE n E v z = i + 1)) (x + 1) = nxtI n (fun z => E y z && decide (farE n E v z = i + 1)) x) := hide (by rw [hnx.out]; rfl)
                  rw [hn2.out]
                  clear hnx
                  go_wp2
                  go_roundw
                  case rel => exact ⟨x, by omega, by go_num, rfl, hown5, hR, kr, hbw5, hbz5⟩
                  case measure => simp [intOf] <;> omega
                | true =>
                  rw [Bool.true_and] at hnx
                  by_cases hq : farE n E v x = i + 1
                  · have hqb : ((farE n E v x : Int) == (i : Int) + 1) = true := by rw [beq_iff_eq]; omega
                    have hn2 : Hid ((x : Int) = nxtI n (fun z => E y z && decide (farE n E v z = i + 1)) x) := hide (by rw [hnx.out, if_pos (decide_eq_true hq)])
                    clear hnx hq
                    go_wp2
                    go_roundw
                    case rel => exact ⟨x, by omega, by go_num, by rw [← hn2.out], hown5, hR, kr, hbw5, hbz5⟩
                    case measure => simp [intOf] <;> omega
                  · have hqb : ((farE n E v x : Int) == (i : Int) + 1) = false := by rw [beq_eq_false_iff_ne]; omega
                    have hn2 : Hid (nxtI n (fun z => E y z && decide (farE n E v z = i + 1)) (x + 1) = nxtI n (fun z => E y z && decide (farE n E v z = i + 1)) x) := hide (by rw [hnx.out, if_neg (by simp [hq])])
                    rw [hn2.out]
                    clear hnx hq
                    go_wp2
                    go_roundw
                    case rel => exact ⟨x, by omega, by go_num, rfl, hown5, hR, kr, hbw5, hbz5⟩
                    case measure => simp [intOf] <;> omega
    · obtain rfl : v = n := by omega
      have hnl := hide (hno.out fun u hu => hall.out u hu)
      go_wp2
      exact bodyPost_ret (v := .slice none 0 0) (by simp [results, Tryz.results71, go_sem]) rfl ⟨_, rfl, by rw [hnl.out]; exact OwnI.nil _ _, hbw⟩
end Go.Proofs.YtjomijnbnbideaaGreatDoor
