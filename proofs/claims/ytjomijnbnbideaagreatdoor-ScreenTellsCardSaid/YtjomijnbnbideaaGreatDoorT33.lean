/-
  Walks: is a number among some? (the references of layers 16 and 30)
-/
import Derived.Test.YtjomijnbnbideaaGreatDoorT04
import Derived.Test.YtjomijnbnbideaaGreatDoorT14
import Derived.Test.YtjomijnbnbideaaGreatDoorT25
set_option linter.unusedVariables false
set_option linter.unusedSimpArgs false
namespace Go.Proofs.YtjomijnbnbideaaGreatDoor
open Go.RowKit Go.Inq
set_option maxHeartbeats 1000000
attribute [local go_sem ↓] Go.wp_at_zero Go.wp_at_succ

theorem rin16_any (A : Option Addr) (c : Nat) (l : List Int) (x : Int) (K : Nat → Prop) (w : World) (h : IntS w K (.slice A l.length c) l) (hn : l.length ≤ 1000000000) :
    Calls Tryz.prog 187 #[.slice A l.length c, .int .i64 x] w fun e w' => e = .returned (.bool (l.contains x)) ∧ w = w' := by
  replace h := hide h
  generalize hq : l.contains x = r
  replace hq := hide hq
  go_enter Tryz.func187, Tryz.ntmps187
  go_wp2
  go_loop [5] (fun s5 => ∃ k : Nat, k ≤ l.length ∧ s5 = .int .i64 k ∧ Hid ((l.take k).contains x = false)) (fun s5 => l.length - (intOf s5).toNat)
  case atStart => exact ⟨0, Nat.zero_le _, by go_num, hide rfl⟩
  case round =>
    obtain ⟨k, hk, rfl, hc⟩ := hrel
    have hk1 : (0 : Int) ≤ (k : Int) := Int.natCast_nonneg _
    by_cases hlt : k < l.length
    · have hki : (k : Int) < (l.length : Int) := by omega
      obtain ⟨b, off, rfl, -, x1⟩ := h.out.at_ hlt
      have hst : Hid ((l.take (k + 1)).contains x = ((l.take k).contains x || l[k] == x)) := hide (by rw [take_snoc' hlt, List.contains_append]; congr 1; rw [List.contains_cons, List.contains_nil, Bool.or_false]; rw [Bool.eq_iff_iff, beq_iff_eq, beq_iff_eq]; exact eq_comm)
      have hin : Hid ((l[k] == x) = true → r = true) := hide (fun e => by rw [← hq.out, List.contains_iff_mem]; have := eq_of_beq e; subst this; exact List.getElem_mem hlt)
      generalize l[k] = y at *
      cases hy : (y == x) with
      | true =>
        have hr := hide (hin.out hy)
        clear hin hst
        replace hc := hide hc
        go_wp2
        go_ret
        exact ⟨by rw [hr.out]; rfl, rfl⟩
      | false =>
        have hr : Hid ((l.take (k + 1)).contains x = false) := hide (by rw [hst.out, hc.out, hy]; rfl)
        clear hin hst
        replace hc := hide hc
        go_wp2
        go_round
        case rel => exact ⟨k + 1, by omega, by go_num, hr⟩
        case measure => simp [intOf]; omega
    · obtain rfl : k = l.length := by omega
      have hr : Hid (r = false) := hide (by have := hc.out; rw [List.take_length] at this; rw [← hq.out]; exact this)
      replace hc := hide hc
      go_wp2
      go_ret
      exact ⟨by rw [hr.out]; rfl, rfl⟩
end Go.Proofs.YtjomijnbnbideaaGreatDoor

namespace Go.Proofs.YtjomijnbnbideaaGreatDoor
open Go.RowKit Go.Inq
set_option maxHeartbeats 4000000
attribute [local go_sem ↓] Go.wp_at_zero Go.wp_at_succ

/-- Is a node led to by one that is not done, below j? -/
def ledTo (E : Edges) (l : List Int) (v j : Nat) : Bool := (List.range j).any fun x => E x v && !l.contains (x : Int)
theorem ledTo_succ (E : Edges) (l : List Int) (v j : Nat) : ledTo E l v (j + 1) = (ledTo E l v j || (E j v && !l.contains (j : Int))) := by
  unfold ledTo
  rw [List.range_succ, List.any_append]
  simp
def freeB (n : Nat) (E : Edges) (l : List Int) (v : Nat) : Bool := !l.contains (v : Int) && !ledTo E l v n
/-- The least free node, or -1. -/
def freeI (n : Nat) (E : Edges) (l : List Int) : Int := match (List.range n).find? (freeB n E l) with
  | some v => (v : Int)
  | none => -1
theorem freeI_some {n : Nat} {E : Edges} {l : List Int} {i : Nat} (hi : i < n) (h0 : ∀ v, v < i → freeB n E l v = false) (h : freeB n E l i = true) : freeI n E l = i := by
  unfold freeI
  have : (List.range n).find? (freeB n E l) = some i := by
    rw [List.find?_range_eq_some]
    exact ⟨h, by simpa using hi, fun v hv => by simp [h0 v hv]⟩
  rw [this]
theorem freeI_none {n : Nat} {E : Edges} {l : List Int} (h0 : ∀ v, v < n → freeB n E l v = false) : freeI n E l = -1 := by
  unfold freeI
  have : (List.range n).find? (freeB n E l) = none := by
    rw [List.find?_eq_none]
    intro v hv
    simp [h0 v (by simpa using hv)]
  rw [this]
set_option maxRecDepth 100000 in
theorem rfree16_any (n : Nat) (A : Option Addr) (c : Nat) (E : Edges) (Al : Option Addr) (cl : Nat) (l : List Int) (K : Nat → Prop) (w : World) (h : GrS w K n A c E) (hl : IntS w K (.slice Al l.length cl) l) (hK : ∀ b, K b → b < w.heap.size) (hll : l.length ≤ 1000000000) :
    Calls Tryz.prog 131 #[.agg #[.int .i64 n, .slice A n c], .slice Al l.length cl] w fun e w' => e = .returned (.int .i64 (freeI n E l)) ∧ Below w.heap.size w w' := by
  have hB : Below w.heap.size w (w.alloc (.cells #[.int .i64 n, .slice A n c] 124)) := (Below.refl _ _).alloc (Nat.le_refl _) _
  have kG := Blk.new w 124 #[.int .i64 n, .slice A n c]
  have hg := hide (h.keep (Agree.below hB hK) (fun b hb => hb))
  have hl0 := hide (hl.keep (Agree.below hB hK) (fun b hb => hb))
  have hsz := hB.size
  have hK0 : ∀ b, K b → b < (w.alloc (.cells #[.int .i64 n, .slice A n c] 124)).heap.size := fun b hb => Nat.lt_of_lt_of_le (hK b hb) hsz
  clear h hl
  have hn64 := hg.out.n64
  go_enter Tryz.func131, Tryz.ntmps131
  go_upto_region 1 with fail
  generalize w.alloc (.cells #[.int .i64 n, .slice A n c] 124) = W at *
  go_wp2_with fail
  go_loopw [5] (fun s5 wr => ∃ i : Nat, i ≤ n ∧ s5 = .int .i64 i ∧ Hid (∀ v, v < i → freeB n E l v = false) ∧ Below W.heap.size W wr) (fun s5 _ => n - (intOf s5).toNat)
  case atStart => exact ⟨0, Nat.zero_le _, by go_num, fun v hv => absurd hv (by omega), Below.refl _ _⟩
  case round =>
    obtain ⟨i, hi, rfl, hall, hbr⟩ := hrel
    obtain ⟨Wr, rfl⟩ : ∃ Wr, Wr = wr := ⟨_, rfl⟩
    have hi1 : (0 : Int) ≤ (i : Int) := Int.natCast_nonneg _
    have kr := kG.below hbr kG.lt
    have c0 := kr.cell 0
    simp only [List.getElem?_toArray, List.getElem?_cons_zero, List.getElem?_cons_succ] at c0
    have hlr := hide (hl0.out.keep (Agree.below hbr hK0) (fun b hb => hb))
    by_cases hlt : i < n
    · have hi2 : (i : Int) < (n : Int) := by omega
      have hst : Hid (freeB n E l i = false → ∀ v, v < i + 1 → freeB n E l v = false) := hide (fun g v hv => by
        by_cases e : v = i
        · subst e; exact g
        · exact hall v (by omega))
      have hyes : Hid (freeB n E l i = true → freeI n E l = i) := hide (fun g => freeI_some hlt hall g)
      have hfr : Hid (freeB n E l i = (!l.contains (i : Int) && !ledTo E l i n)) := hide rfl
      generalize freeB n E l i = fb at *
      have hin := rin16_any Al cl l (i : Int) K Wr hlr.out hll
      generalize l.contains (i : Int) = ct at *
      replace hall := hide hall
      go_wp2_with fail
      refine hin.mono ?_
      rintro e w1 ⟨rfl, rfl⟩
      clear hin
      cases ct with
      | true =>
        have hr := hide (hst.out (by rw [hfr.out]; rfl))
        clear hst hyes hfr
        go_wp2
        go_roundw
        case rel => exact ⟨i + 1, by omega, by go_num, hr.out, hbr⟩
        case measure => simp [intOf]; omega
      | false =>
        go_wp2_with fail
        go_loopw [7, 8] (fun s7 s8 wq => ∃ j : Nat, j ≤ n ∧ s8 = .int .i64 j ∧ s7 = .bool (ledTo E l i j) ∧ Below W.heap.size W wq) (fun _ s8 _ => n - (intOf s8).toNat)
        case atStart => exact ⟨0, Nat.zero_le _, by go_num, rfl, hbr⟩
        case round =>
          obtain ⟨j, hj, rfl, rfl, hbq⟩ := hrel
          obtain ⟨Wq, rfl⟩ : ∃ Wq, Wq = wr := ⟨_, rfl⟩
          have hj1 : (0 : Int) ≤ (j : Int) := Int.natCast_nonneg _
          clear c0
          have kq := kG.below hbq kG.lt
          have c0 := kq.cell 0
          have c1 := kq.cell 1
          simp only [List.getElem?_toArray, List.getElem?_cons_zero, List.getElem?_cons_succ] at c0 c1
          have hlq := hide (hl0.out.keep (Agree.below hbq hK0) (fun b hb => hb))
          have hgq := hide (hg.out.keep (Agree.below hbq hK0) (fun b hb => hb))
          by_cases hjl : j < n
          · have hj2 : (j : Int) < (n : Int) := by omega
            have hsu := hide (ledTo_succ E l i j)
            have hin := rin16_any Al cl l (j : Int) K Wq hlq.out hll
            have hha := hide (rhas12_any n A c E j i K Wq hgq.out (fun b hb => Nat.lt_of_lt_of_le (hK0 b hb) hbq.size) hjl hlt)
            generalize l.contains (j : Int) = cj at *
            generalize E j i = ej at *
            generalize ledTo E l i j = lj at *
            go_wp2_with fail
            refine hin.mono ?_
            rintro e w1 ⟨rfl, rfl⟩
            clear hin
            go_wp2_with fail
            refine hha.out.mono ?_
            rintro e w2 ⟨rfl, hb2⟩
            have hb3 := hbq.trans (hb2.mono hbq.size)
            clear hha c0 c1
            cases lj <;> cases ej <;> cases cj
            all_goals
              go_wp2
              go_roundw
              case rel => exact ⟨j + 1, by omega, by go_num, by rw [hsu.out]; rfl, hb3⟩
              case measure => simp [intOf]; omega
          · obtain rfl : j = n := by omega
            generalize ledTo E l i j = lj at *
            cases lj with
            | true =>
              have hr := hide (hst.out (by rw [hfr.out]; rfl))
              clear hst hyes hfr
              go_wp2
              go_roundw
              case rel => exact ⟨i + 1, by omega, by go_num, hr.out, hbq⟩
              case measure => simp [intOf]; omega
            | false =>
              have hr := hide (hyes.out (by rw [hfr.out]; rfl))
              clear hst hyes hfr
              go_wp2
              go_ret
              exact ⟨by rw [hr.out]; rfl, hB.trans (hbq.mono hsz)⟩
    · obtain rfl : i = n := by omega
      have hr := hide (freeI_none hall)
      replace hall := hide hall
      go_wp2
      go_ret
      exact ⟨by rw [hr.out]; rfl, hB.trans (hbr.mono hsz)⟩
end Go.Proofs.YtjomijnbnbideaaGreatDoor

namespace Go.Proofs.YtjomijnbnbideaaGreatDoor
open Go.RowKit Go.Inq
set_option maxHeartbeats 4000000
attribute [local go_sem ↓] Go.wp_at_zero Go.wp_at_succ

theorem intsN_contains (L : List Nat) (v : Nat) : (intsN L).contains (v : Int) = L.contains v := by
  unfold intsN
  rw [Bool.eq_iff_iff, List.contains_iff_mem, List.contains_iff_mem, List.mem_map]
  exact ⟨fun ⟨a, h, e⟩ => by rw [← Int.ofNat_inj.1 e]; exact h, fun h => ⟨v, h, rfl⟩⟩
theorem freeB_next {n : Nat} {E : Edges} {L : List Nat} (v : Nat) : freeB n E (intsN L) v = (!L.contains v && (List.range n).all fun x => !E x v || L.contains x) := by
  unfold freeB ledTo
  rw [intsN_contains, List.not_any_eq_all_not]
  congr 2
  funext x
  rw [intsN_contains, Bool.not_and, Bool.not_not]
theorem freeI_next (n : Nat) (E : Edges) (L : List Nat) : freeI n E (intsN L) = match nextT n E L with | some v => (v : Int) | none => -1 := by
  unfold freeI nextT
  have : freeB n E (intsN L) = fun v => !L.contains v && (List.range n).all fun x => !E x v || L.contains x := funext fun v => freeB_next v
  rw [this]
  all_goals (cases List.find? (fun v => !L.contains v && (List.range n).all fun x => !E x v || L.contains x) (List.range n) <;> rfl)
set_option maxRecDepth 100000 in
theorem rorder16_any (n : Nat) (A : Option Addr) (c : Nat) (E : Edges) (K : Nat → Prop) (w : World) (h : GrS w K n A c E) (hK : ∀ b, K b → b < w.heap.size) :
    Calls Tryz.prog 72 #[.agg #[.int .i64 n, .slice A n c]] w (OrdOut w (orderT n E)) := by
  obtain ⟨ii, hii, hi1, hi2, hi3⟩ := info_parts infoI10
  have hn64 := h.n64
  have hB : Below w.heap.size w (w.alloc (.cells #[.int .i64 n, .slice A n c] 124)) := (Below.refl _ _).alloc (Nat.le_refl _) _
  have kG := Blk.new w 124 #[.int .i64 n, .slice A n c]
  have hsz := hB.size
  have hg := hide (h.keep (Agree.below hB hK) (fun b hb => hb))
  have hK0 : ∀ b, K b → b < (w.alloc (.cells #[.int .i64 n, .slice A n c] 124)).heap.size := fun b hb => Nat.lt_of_lt_of_le (hK b hb) hsz
  clear h
  go_enter Tryz.func72, Tryz.ntmps72
  go_upto_region 1 with fail
  generalize w.alloc (.cells #[.int .i64 n, .slice A n c] 124) = W at *
  have c0 := kG.cell 0
  have c1 := kG.cell 1
  simp only [List.getElem?_toArray, List.getElem?_cons_zero, List.getElem?_cons_succ] at c0 c1
  go_wp2_with fail
  refine (rright12_any n A c E K W hg.out hK0).mono ?_
  rintro e w1 ⟨rfl, hb1⟩
  clear c0 c1
  have k1 := kG.below hb1 kG.lt
  have c0 := k1.cell 0
  simp only [List.getElem?_toArray, List.getElem?_cons_zero, List.getElem?_cons_succ] at c0
  have hs1 := hb1.size
  go_wp2_with fail
  go_loopw [5] (fun s5 wr => ∃ (k : Nat) (L : List Nat), k ≤ n ∧ Hid (orderTo n E k = some L) ∧ OwnI wr w1.heap.size s5 (intsN L) ∧ Below w1.heap.size w1 wr) (fun s5 _ => n - (match s5 with | .slice _ m _ => m | _ => 0))
  case atStart => exact ⟨0, [], Nat.zero_le _, hide rfl, OwnI.nil _ _, Below.refl _ _⟩
  case round =>
    obtain ⟨k, L, hk, hL, hown, hbr⟩ := hrel
    obtain ⟨Wr, rfl⟩ : ∃ Wr, Wr = wr := ⟨_, rfl⟩
    have hLk := orderTo_len hL.out
    have hlen : (intsN L).length = k := by unfold intsN; simpa using hLk
    obtain ⟨Ao, co, rfl⟩ := OwnI.form hown
    clear c0
    have kr := k1.below hbr k1.lt
    have c0 := kr.cell 0
    have c1 := kr.cell 1
    simp only [List.getElem?_toArray, List.getElem?_cons_zero, List.getElem?_cons_succ] at c0 c1
    have hbw := hb1.trans (hbr.mono hs1)
    have hgr := hide (hg.out.keep (Agree.below hbw hK0) (fun b hb => hb))
    have hKr : ∀ b, K b → b < Wr.heap.size := fun b hb => Nat.lt_of_lt_of_le (hK0 b hb) hbw.size
    have hfx := hide (freeI_next n E L)
    have hsl := hide (OwnI.sl (K := Old Wr) hown (fun g _ h => h))
    have hlo := hide hlen
    rw [hlen] at hown hsl
    replace hown := hide hown
    clear hlen
    by_cases hlt : k < n
    · have hlt2 : decide ((k : Int) < (n : Int)) = true := by simpa using hlt
      have hlt3 : decide (k < n) = true := by simpa using hlt
      rw [hlo.out]
      have hfc := hide (rfree16_any n A c E Ao co (intsN L) (fun b => K b ∨ b < Wr.heap.size) Wr (hgr.out.keep (Agree.refl _ _) (fun b h => .inl h)) (by rw [hlo.out]; exact hsl.out.keep (Agree.refl _ _) (fun b h => .inr h)) (fun b hb => by rcases hb with h | h; exact hKr b h; exact h) (by rw [hlo.out]; omega))
      rw [hlo.out, hfx.out] at hfc
      go_wp2_with fail
      refine hfc.out.mono ?_
      clear hfc
      rintro e w2 ⟨rfl, hb2⟩
      have hbr2 := hbr.trans (hb2.mono hbr.size)
      have hown2 := own_below hown.out hb2 (Nat.le_refl _)
      cases hnt : nextT n E L with
      | none =>
        have hf := hide (orderT_fail hlt hL.out hnt)
        have hbz := hB.trans ((hb1.trans (hbr2.mono hs1)).mono hsz)
        clear hnt hfx
        dsimp only
        go_wp2
        exact bodyPost_ret (v := .tuple #[.slice none 0 0, .bool false]) (by simp [results, Tryz.results72, go_sem]) rfl (by rw [hf.out]; exact OrdOut.no hbz)
      | some v =>
        have hL2 := hide (orderTo_some hL.out hnt)
        have hvn := nextT_lt hnt
        clear hnt hfx
        dsimp only
        have hv0 : decide ((v : Int) < 0) = false := by simp
        have hit : Hid (intsN L ++ [(v : Int)] = intsN (L ++ [v])) := hide (by unfold intsN; simp)
        have hown3 : Hid (w2.ownsRow w1.heap.size 3 1 (.slice Ao (intsN L).length co) (intsN L).length ((intsN L).map Go.Inq.encI).flatten) := hide (by
          have := hown2
          unfold OwnI at this
          rw [hlo.out] at this ⊢
          exact this)
        have hlk : Hid ((L ++ [v]).length = k + 1) := hide (orderTo_len hL2.out)
        have hDl : (intsN L).length ≤ 64 := by rw [hlo.out]; omega
        rw [← hlo.out]
        generalize hD : intsN L = D at *
        have hkD : D.length + 1 ≤ maxLen := by unfold maxLen; omega
        have hkb : (D.length + 1) * 8 ≤ 140737488355328 := by omega
        have hsw : w1.heap.size ≤ w2.heap.size := hbr2.size
        replace hD := hide hD
        go_wp2_with (at_builtin; go_loud (refine wpList_push (enc := Go.Inq.encI) rfl (.tmp 21) (.tmp 23) 27 rfl w1.heap.size 3 ii _ 1 8 Tryz.underlying27 hii hi1 hi2 hi3 rfl (by decide) (.slice Ao D.length co) D rfl hown3.out (fun _ => rfl) (v : Int) _ rfl rfl Go.Inq.encI_one hkD hkb hsw w1 w1.heap.size (Nat.le_refl _) hbr2 ?_); intro v1 w6 hown1 hg1 hbz hat1)
        go_roundw
        case rel => exact ⟨k + 1, L ++ [v], by omega, hL2, by rw [← hit.out]; exact hown1, hbz⟩
        case measure =>
          obtain ⟨A6, c6, e6⟩ := own_slice hown1
          rw [e6]
          have := hlo.out
          simp
          omega
    · obtain rfl : k = n := by omega
      have hf : Hid (orderT k E = some L) := hide hL.out
      have hbz := hB.trans ((hb1.trans (hbr.mono hs1)).mono hsz)
      have hos : Hid (OwnI Wr w.heap.size (.slice Ao k co) (intsN L)) := hide (own_base' hown.out (Nat.le_trans hsz hs1))
      have hlt2 : decide ((k : Int) < (k : Int)) = false := by simp
      rw [hlo.out]
      go_wp2
      exact bodyPost_ret (v := .tuple #[.slice Ao k co, .bool true]) (by simp [results, Tryz.results72, go_sem]) rfl (by rw [hf.out]; exact OrdOut.yes hos.out hbz)
end Go.Proofs.YtjomijnbnbideaaGreatDoor
