/-
  Walks: HistLess.
-/
import Derived.Test.YtphcebgpllecjaaDoorC30
import Derived.Test.YtphcebgpllecjaaDoorC16
set_option linter.unusedVariables false
set_option linter.unusedSimpArgs false
namespace Go.Proofs.YtphcebgpllecjaaDoor
open Go.RowKit Go.Inq
set_option maxHeartbeats 4000000
attribute [local go_sem ↓] Go.wp_at_zero Go.wp_at_succ

def hitsN (n : Nat) (t : Txn) : Bool := t.reads.any fun x => x.b == (n : Int)
def hitsTo (H : List Txn) (n i : Nat) : Bool := (H.take i).any (hitsN n)
theorem hits_all (H : List Txn) (n : Nat) : hitsTo H n n = readsN H n := rfl
theorem hits_step {H : List Txn} {n i : Nat} (h : i < H.length) : hitsTo H n (i + 1) = (hitsTo H n i || hitsN n H[i]) := by
  unfold hitsTo; rw [List.take_succ_eq_append_getElem h, List.any_append]; simp
def hitsK (l : List It) (n k : Nat) : Bool := (l.take k).any fun x => x.b == (n : Int)
theorem hitsK_step {l : List It} {n k : Nat} (h : k < l.length) : hitsK l n (k + 1) = (hitsK l n k || l[k].b == (n : Int)) := by
  unfold hitsK; rw [List.take_succ_eq_append_getElem h, List.any_append]; simp
theorem hitsK_all (t : Txn) (n : Nat) : hitsK t.reads n t.reads.length = hitsN n t := by unfold hitsK hitsN; rw [List.take_length]
theorem small_more {H : List Txn} (h : SmallH H) (hl : H.length ≤ 40) : SmallH (H ++ [⟨3, [], []⟩]) := by
  refine ⟨by simp; omega, fun t ht => ?_⟩
  rcases List.mem_append.1 ht with ht | ht
  · exact h.2 t ht
  · simp at ht; subst ht; simp
theorem small_take {H : List Txn} (h : SmallH H) (n : Nat) : SmallH (H.take n) := ⟨by rw [List.length_take]; have := h.1; omega, fun t ht => h.2 t (List.mem_of_mem_take ht)⟩

set_option maxRecDepth 100000 in
theorem histLess_any (A : Option Addr) (c : Nat) (H : List Txn) (w : World) (h : TxnS w (Old w) (.slice A H.length c) H) (hn : H.length ≤ maxLen) (hns : ∀ t ∈ H, t.writes.length ≤ maxLen ∧ t.reads.length ≤ maxLen) (henv : Env w) :
    Calls Tryd.prog 6 #[.agg #[.slice A H.length c]] w fun e w' => e = .returned (.bool true) ∧ Below w.heap.size w w' := by
  obtain ⟨ix, hix, hix1, hix2, hix3⟩ := info_parts infoX7
  have hA : Below w.heap.size w (w.alloc (.cells #[.slice A H.length c] 24)) := (Below.refl _ _).alloc (Nat.le_refl _) _
  have k0 : Blk (w.alloc (.cells #[.slice A H.length c] 24)) w.heap.size 24 #[.slice A H.length c] := Blk.new _ _ _
  have h0 := h
  have e0 := henv.below hA
  clear h henv
  go_enter Tryd.func6, Tryd.ntmps6
  go_wp2_with fail
  refine (awake8_any _ e0).mono ?_
  rintro e w1 ⟨rfl, hb1⟩
  have k1 := k0.below hb1 k0.lt
  have B1 := hA.trans (hb1.mono hA.size)
  have h1 := TxnS.keep h0 (Agree.below B1 (fun b h => h)) (fun b h => h)
  clear k0 e0 hA hb1
  have y0 := k1.cell 0
  simp only [List.getElem?_toArray, List.getElem?_cons_zero] at y0
  go_wp2_with fail
  refine (few8_any A c H w1 (TxnS.fit h1 (fun b h => Nat.lt_of_lt_of_le h B1.size)) hn hns).mono ?_
  rintro e w2 ⟨rfl, hb2⟩
  have k2 := k1.below hb2 k1.lt
  have B2 := B1.trans (hb2.mono B1.size)
  have h2 := TxnS.keep h0 (Agree.below B2 (fun b h => h)) (fun b h => h)
  clear k1 h1 B1 hb2 y0
  have y0 := k2.cell 0
  simp only [List.getElem?_toArray, List.getElem?_cons_zero] at y0
  dsimp only
  cases hf : fewH H with
  | false =>
    go_wp2
    go_ret
    exact ⟨rfl, B2⟩
  | true =>
    have hs := fewH_small hf
    have h40 : H.length ≤ 40 := by unfold fewH at hf; simp at hf; exact hf.1
    clear hf hns hn
    have hc := right8_any A c H w2 (TxnS.fit h2 (fun b h => Nat.lt_of_lt_of_le h B2.size)) hs
    go_wp2_with fail
    refine hc.mono ?_
    rintro e w3 ⟨rfl, hb3⟩
    have k3 := k2.below hb3 k2.lt
    have B3 := B2.trans (hb3.mono B2.size)
    have h3 := TxnS.keep h0 (Agree.below B3 (fun b h => h)) (fun b h => h)
    clear k2 h2 B2 hb3 y0 hc
    have y0 := k3.cell 0
    simp only [List.getElem?_toArray, List.getElem?_cons_zero] at y0
    dsimp only
    cases hr : rightH H with
    | false =>
      go_wp2
      go_ret
      exact ⟨rfl, B3⟩
    | true =>
      have hmore := hide (right_more hr)
      have hless := hide (fun n hn => right_less (n := n) hr hn)
      clear hr
      have hN := k3.lt
      have B4l := B3.size
      have B4 := B3.alloc B3.size (.cells #[.slice none 0 0] 24)
      have k4 := k3.alloc (.cells #[.slice none 0 0] 24)
      have m4 := Blk.new w3 24 #[.slice none 0 0]
      have h4 := TxnS.keep h0 (Agree.below B4 (fun b h => h)) (fun b h => h)
      have hsz4 : w3.heap.size + 1 ≤ (w3.alloc (.cells #[.slice none 0 0] 24)).heap.size := by simp
      clear k3 B3 h3 y0
      have y0 := k4.cell 0
      have y1 := m4.cell 0
      have z1 := m4.frozen 0
      simp only [List.getElem?_toArray, List.getElem?_cons_zero] at y0 y1
      go_upto_region 9 with (at_builtin; refine wpList_append_list (R := TxnR) rfl (.tmp 23) (.tmp 25) 22 rfl (w3.heap.size + 1) 47 ix _ 3 56 Tryd.underlying22 hix hix1 hix2 hix3 rfl (by decide) (.slice none 0 0) (Old w) [] rfl (OwnR.nil _ _ _ _ _ _) (.slice A H.length c) H rfl h4 (fun cs x h => TxnR.one h) (by simp [maxLen]; omega) (by simp; omega) hsz4 (fun w' hg cs x hx => TxnR.stab _ _ _ _ _ _ hx (Agree.grown hg (fun b hb => ⟨Nat.lt_of_lt_of_le hb B4.size, fun e => by cases e⟩)) (fun _ h => h)) ?_; intro v5 W5 hown5 hgrow5 hat5; obtain ⟨A5, c5, rfl⟩ := hown5.form; rw [List.nil_append] at hown5; have k5 := k4.grown hgrow5 (fun e => by cases e); have m5 := m4.grown hgrow5 (fun e => by cases e); have B5 := B4.grown hgrow5 B4.size (fun k e => by cases e); have u1 := m5.cell 0; have v1 := m5.frozen 0; simp only [List.getElem?_toArray, List.getElem?_cons_zero] at u1; have tok1 : True := trivial)
      have hrow5 := hide (fun g hg => hown5.lt g hg)
      have B6 := B5.setCell (p := ⟨w3.heap.size, 0, none⟩) B4l (.slice A5 H.length c5)
      have k6 := k5.far (p := ⟨w3.heap.size, 0, none⟩) (by show w.heap.size ≠ w3.heap.size; omega) (.slice A5 H.length c5)
      have m6 := m5.set_ 0 (.slice A5 H.length c5)
      have o6 := OwnR.keep (K' := Old w) TxnR.stab hown5 (Agree.setCell (K := Old w) ⟨w3.heap.size, 0, none⟩ (by show ¬ w3.heap.size < w.heap.size; omega) (.slice A5 H.length c5)) (fun b h => h) (fun g hg => Below.heap_setCell W5 ⟨w3.heap.size, 0, none⟩ (.slice A5 H.length c5) g (by have := (hrow5.out g hg).1; show g ≠ w3.heap.size; omega))
      have hs6 : w3.heap.size + 1 ≤ (W5.setCell ⟨w3.heap.size, 0, none⟩ (.slice A5 H.length c5)).heap.size := by rw [World.size_setCell]; exact m5.lt
      replace m6 : Blk (W5.setCell ⟨w3.heap.size, 0, none⟩ (.slice A5 H.length c5)) w3.heap.size 24 #[.slice A5 H.length c5] := m6
      have hr6 := hide (fun g hg => o6.lt g hg)
      clear hgrow5 hat5 hown5 k5 m5 B5 u1 v1 k4 m4 B4 h4 y0 y1 z1 hrow5
      generalize W5.setCell ⟨w3.heap.size, 0, none⟩ (.slice A5 H.length c5) = W6 at *
      have oB := OwnR.keep (K' := fun b => b < w.heap.size ∨ b = W6.heap.size) TxnR.stab o6 (Agree.alloc (K := Old w) (fun b hb => by have : b < w.heap.size := hb; omega) (.cells #[.int .i64 3, .slice none 0 0, .slice none 0 0] 47)) (fun b h => .inl h) (fun g hg => Below.heap_alloc W6 (.cells #[.int .i64 3, .slice none 0 0, .slice none 0 0] 47) g (hr6.out g hg).2)
      have sB := hide (show SlR 3 TxnR (W6.alloc (.cells #[.int .i64 3, .slice none 0 0, .slice none 0 0] 47)) (fun b => b < w.heap.size ∨ b = W6.heap.size) (.slice (some ⟨W6.heap.size, 0, none⟩) 1 1) [(⟨3, [], []⟩ : Txn)] from SlR.one (Blk.new W6 47 #[.int .i64 3, .slice none 0 0, .slice none 0 0]) rfl ⟨_, _, rfl, SlR.nil _ _ _ _ _ _, SlR.nil _ _ _ _ _ _⟩ (.inr rfl))
      have BB := B6.alloc B6.size (.cells #[.int .i64 3, .slice none 0 0, .slice none 0 0] 47)
      have kB := k6.alloc (.cells #[.int .i64 3, .slice none 0 0, .slice none 0 0] 47)
      have mB := m6.alloc (.cells #[.int .i64 3, .slice none 0 0, .slice none 0 0] 47)
      have hsB : w3.heap.size + 1 ≤ (W6.alloc (.cells #[.int .i64 3, .slice none 0 0, .slice none 0 0] 47)).heap.size := by simp; omega
      have hszB : (W6.alloc (.cells #[.int .i64 3, .slice none 0 0, .slice none 0 0] 47)).heap.size = W6.heap.size + 1 := by simp
      replace hszB := hide hszB
      have y0 := m6.cell 0
      simp only [List.getElem?_toArray, List.getElem?_cons_zero] at y0
      clear k6 B6 o6
      go_upto_region 10 with (at_builtin; refine wpList_append_list (R := TxnR) rfl (.tmp 29) (.tmp 31) 22 rfl (w3.heap.size + 1) 47 ix _ 3 56 Tryd.underlying22 hix hix1 hix2 hix3 rfl (by decide) (.slice A5 H.length c5) (fun b => b < w.heap.size ∨ b = W6.heap.size) H rfl oB _ [(⟨3, [], []⟩ : Txn)] rfl sB.out (fun cs x h => TxnR.one h) (by simp [maxLen]; omega) (by simp; omega) hsB (fun w' hg cs x hx => TxnR.stab _ _ _ _ _ _ hx (Agree.grown hg (fun b hb => by have hb : b < w.heap.size ∨ b = W6.heap.size := hb; rw [hszB.out]; refine ⟨by omega, fun e => ?_⟩; have := hr6.out b e.symm; omega)) (fun _ h => h)) ?_; intro v7 W7 hown7 hgrow7 hat7; obtain ⟨A7, c7, rfl⟩ := hown7.form; have m7 := mB.grown hgrow7 (fun e => by have := (hr6.out _ e.symm).1; omega); have u1 := m7.cell 0; have v1 := m7.frozen 0; simp only [List.getElem?_toArray, List.getElem?_cons_zero] at u1)
      rw [show (H ++ [(⟨3, [], []⟩ : Txn)]).length = H.length + 1 by simp] at hown7
      have hr7 := hide (fun g hg => hown7.lt g hg)
      have hg7 := hgrow7.size
      rw [hszB.out] at hg7
      have k7 := kB.grown hgrow7 (fun e => by have := (hr6.out _ e.symm).1; omega)
      have B7 := BB.grown hgrow7 BB.size (fun k e => by have := (hr6.out _ e).1; omega)
      have B8 := B7.setCell (p := ⟨w3.heap.size, 0, none⟩) B4l (.slice A7 (H.length + 1) c7)
      have k8 := k7.far (p := ⟨w3.heap.size, 0, none⟩) (by show w.heap.size ≠ w3.heap.size; omega) (.slice A7 (H.length + 1) c7)
      have m8 : Blk (W7.setCell ⟨w3.heap.size, 0, none⟩ (.slice A7 (H.length + 1) c7)) w3.heap.size 24 #[.slice A7 (H.length + 1) c7] := m7.set_ 0 (.slice A7 (H.length + 1) c7)
      have o8 := OwnR.keep (K' := Old (W7.setCell ⟨w3.heap.size, 0, none⟩ (.slice A7 (H.length + 1) c7))) TxnR.stab hown7 (Agree.setCell (K := fun b => b < w.heap.size ∨ b = W6.heap.size) ⟨w3.heap.size, 0, none⟩ (by show ¬ (w3.heap.size < w.heap.size ∨ w3.heap.size = W6.heap.size); omega) (.slice A7 (H.length + 1) c7)) (fun b h => by show b < _; rw [World.size_setCell]; have h : b < w.heap.size ∨ b = W6.heap.size := h; omega) (fun g hg => Below.heap_setCell W7 ⟨w3.heap.size, 0, none⟩ (.slice A7 (H.length + 1) c7) g (by have := (hr7.out g hg).1; show g ≠ w3.heap.size; omega))
      have s8 := o8.sl (fun g hg => (o8.lt g hg).2)
      clear hown7 hgrow7 hat7 hr7 m7 u1 v1 k7 B7 o8 oB sB BB kB mB hsB hszB y0 m6 hr6 hs6 hsz4
      generalize W7.setCell ⟨w3.heap.size, 0, none⟩ (.slice A7 (H.length + 1) c7) = W8 at *
      have hsm := small_more hs h40
      obtain ⟨b0, hb0⟩ : ∃ b, decide (H.length < 32) = b := ⟨_, rfl⟩
      have hbI : decide ((H.length : Int) < 32) = b0 := by rw [← hb0, Bool.eq_iff_iff]; simp; omega
      have hm2 := hmore.out
      rw [hb0] at hm2
      clear hmore hb0
      have hcr : ∀ W, Below W8.heap.size W8 W → Calls Tryd.prog 10 #[.agg #[.slice A7 (H.length + 1) c7]] W fun e w' => e = .returned (.bool b0) ∧ Below W.heap.size W w' := fun W hW => by
        have := right8_any A7 c7 (H ++ [⟨3, [], []⟩]) W (by rw [show (H ++ [(⟨3, [], []⟩ : Txn)]).length = H.length + 1 by simp]; exact TxnS.keep s8 (Agree.below hW (fun b h => h)) (fun b h => Nat.lt_of_lt_of_le h hW.size)) hsm
        rw [hm2, show (H ++ [(⟨3, [], []⟩ : Txn)]).length = H.length + 1 by simp] at this
        exact this
      have hd0 : ∀ W, Below W8.heap.size W8 W → W.cell? ⟨w3.heap.size, 0, none⟩ = some (.slice A7 (H.length + 1) c7) := fun W hW => (m8.below hW m8.lt).cell 0
      have hd1 : ∀ W, Below W8.heap.size W8 W → W.cell? ⟨w.heap.size, 0, none⟩ = some (.slice A H.length c) := fun W hW => (k8.below hW k8.lt).cell 0
      refine wp_region_float (fun W => Below W8.heap.size W8 W) (by kernel_rfl) (by kernel_rfl) (Below.refl _ _).drew ?_
      refine ⟨.agg #[.slice A7 (H.length + 1) c7], fun W hW => (by have c0 := hd0 W hW; go_wp2), ?_⟩
      refine ⟨.bool b0, fun W hW => (by go_wp2_with (go_at_call 10; refine (hcr W hW).mono ?_; rintro e w' ⟨rfl, hb⟩; replace hW := hW.trans (hb.mono hW.size))), ?_⟩
      refine ⟨.pointer (some ⟨w.heap.size, 0, none⟩), fun W hW => (by go_wp2), ?_⟩
      refine ⟨.slice A H.length c, fun W hW => (by have c0 := hd1 W hW; go_wp2), ?_⟩
      refine ⟨.int .i64 H.length, fun W hW => (by go_wp2), ?_⟩
      refine ⟨.bool b0, fun W hW => (by go_wp2), ?_⟩
      refine ⟨.bool false, fun W hW => (by cases b0 <;> go_wp2), ?_⟩
      intro W9 hw9
      simp only [Act.put, List.setIfInBounds_toArray, List.set_cons_zero, List.set_cons_succ]
      have B9 := B8.trans (hw9.mono B8.size)
      have k9 := k8.below hw9 k8.lt
      have h9 := TxnS.keep h0 (Agree.below B9 (fun b h => h)) (fun b h => h)
      have hs40 : H.length ≤ 9223372036854775807 := by omega
      clear hcr hd0 hd1 k8 m8 s8 hsm hbI hm2 hw9 B8
      have y0 := k9.cell 0
      simp only [List.getElem?_toArray, List.getElem?_cons_zero] at y0
      by_cases hz : H.length = 0
      · have hz1 : decide ((H.length : Int) - 1 < 0) = true := by simp; omega
        have hz2 : IntKind.i64.wrap ((H.length : Int) - 1) = (H.length : Int) - 1 := by rw [IntKind.wrap_i64]; omega
        replace hz := hide hz
        go_wp2
        go_ret
        exact ⟨rfl, B9⟩
      · obtain ⟨n, hn⟩ : ∃ n, n + 1 = H.length := ⟨H.length - 1, by omega⟩
        have hz1 : decide ((n : Int) < 0) = false := by simp
        have hz2 : (H.length : Int) - 1 = (n : Int) := by omega
        have hle := hless.out n hn
        have hnl : n ≤ H.length := by omega
        have hst := hide (fun i => hits_step (H := H) (n := n) (i := i))
        replace hle := hide hle
        clear hz hless
        have hn1 : (0 : Int) ≤ (n : Int) := Int.natCast_nonneg _
        replace hn := hide hn
        go_wp2
        clear hz1 hz2
        go_loop [7, 8, 9] (fun s7 s8 s9 => ∃ i : Nat, i ≤ n ∧ s8 = .int .i64 i ∧ s7 = .bool (hitsTo H n i)) (fun _ s8 _ => n - (intOf s8).toNat)
        case atStart => exact ⟨0, Nat.zero_le _, by go_num, rfl⟩
        case round =>
          obtain ⟨i, hi, rfl, rfl⟩ := hrel
          have hi1 : (0 : Int) ≤ (i : Int) := Int.natCast_nonneg _
          by_cases hlt : i < n
          · have hi2 : (i : Int) < (n : Int) := by omega
            have hiH : i < H.length := by omega
            have hi3 : (i : Int) < (H.length : Int) := by omega
            obtain ⟨b, off, Aw, cw, Ar, cr, rfl, hbK, d0, d1, d2, hws, hrs⟩ := TxnS.at_ h9 hiH
            have hst2 := hide (hst.out i hiH)
            have hsm := (hs.2 _ (List.getElem_mem hiH)).2
            have hall := hide (hitsK_all H[i] n)
            generalize H[i] = t at *
            obtain ⟨ts, ws, rs⟩ := t
            dsimp only at d0 d1 d2 hrs hsm hall
            generalize hitsTo H n i = b0 at *
            go_wp2
            go_loop [7, 9] (fun s7 s9 => ∃ k : Nat, k ≤ rs.length ∧ s9 = .int .i64 k ∧ s7 = .bool (b0 || hitsK rs n k)) (fun _ s9 => rs.length - (intOf s9).toNat)
            case atStart => exact ⟨0, Nat.zero_le _, by go_num, by simp [hitsK]⟩
            case round =>
              obtain ⟨k, hk, rfl, rfl⟩ := hrel
              have hk1 : (0 : Int) ≤ (k : Int) := Int.natCast_nonneg _
              by_cases hkl : k < rs.length
              · have hk2 : (k : Int) < (rs.length : Int) := by omega
                obtain ⟨br, or_, rfl, hbr, ec0, ec1⟩ := ItS.at_ hrs hkl
                have hkst := hide (hitsK_step (n := n) hkl)
                generalize rs[k] = x at *
                obtain ⟨xa, xb⟩ := x
                dsimp only at ec0 ec1 hkst
                generalize hb1 : (b0 || hitsK rs n k) = b1 at *
                replace hb1 := hide hb1
                cases b1 with
                | true =>
                  go_wp2
                  go_round
                  case rel => exact ⟨k + 1, by omega, by go_num, by rw [hkst.out, ← Bool.or_assoc, hb1.out]; rfl⟩
                  case measure => simp [intOf]; omega
                | false =>
                  obtain ⟨b2, hb2⟩ : ∃ b2, (xb == (n : Int)) = b2 := ⟨_, rfl⟩
                  have hfin : Hid ((b0 || hitsK rs n (k + 1)) = b2) := by show (b0 || hitsK rs n (k + 1)) = b2; rw [hkst.out, ← Bool.or_assoc, hb1.out, hb2]; simp
                  go_wp2
                  go_round
                  case rel => exact ⟨k + 1, by omega, by go_num, by rw [hfin.out]⟩
                  case measure => simp [intOf]; omega
              · obtain rfl : k = rs.length := by omega
                have hfin := hide (show (b0 || hitsK rs n rs.length) = hitsTo H n (i + 1) by rw [hall.out, hst2.out])
                go_wp2
                go_round
                case rel => exact ⟨i + 1, by omega, by go_num, by rw [hfin.out]⟩
                case measure => simp [intOf]; omega
          · obtain rfl : i = n := by omega
            have hcap : H.length ≤ c := by
              obtain ⟨A', c', hv, hc⟩ := SlR.len h9
              injection hv with _ _ hv
              omega
            have hic : (i : Int) ≤ (c : Int) := by omega
            have hlt' : (H.take i).length = i := by rw [List.length_take]; omega
            have hT : TxnS W9 (Old w) (.slice A i c) (H.take i) := SlR.take h9 hnl
            have hc := right8_any A c (H.take i) W9 (by rw [hlt']; exact TxnS.fit hT (fun b h => Nat.lt_of_lt_of_le h B9.size)) (small_take hs i)
            rw [hlt', hle.out] at hc
            rw [hits_all]
            clear hT hlt' hst hle hn h9 hs h40 h0
            generalize readsN H i = b0 at *
            go_wp2_with fail
            refine hc.mono ?_
            rintro e w8 ⟨rfl, hb8⟩
            cases b0 with
            | true =>
              go_wp2
              go_ret
              exact ⟨rfl, B9.trans (hb8.mono B9.size)⟩
            | false =>
              go_wp2
              go_ret
              exact ⟨rfl, B9.trans (hb8.mono B9.size)⟩
end Go.Proofs.YtphcebgpllecjaaDoor

namespace Go.Proofs.YtphcebgpllecjaaDoor
open Go.ChangeShapes Go.WideShapes Go.ChangeAt Go.RowKit Go.Inq

set_option maxRecDepth 100000 in
theorem histLess_lifted (os : Os) (started : os.Started) (H : Type) (enc : TypeId × Value → H) :
    ReturnsInHanded {} Tryd.checked os 6 .any (fun w args => (Rows.histLessSpec.pre enc Tryd.prog Tryd.f6 Rows.histLessRow.domain false w args ∧ laidMetH Tryd.prog Rows.histLessRow.laid w) ∧ sizedMet enc Tryd.prog Tryd.f6 (OpenSpec.ofChange Rows.histLessSpec) false w args)
      (Rows.histLessSpec.post enc Tryd.prog Tryd.f6 false true false false) := by
  refine returnsInHanded_shaped_and (C := Tryd.checked) (X := fun w _ => laidMetH Tryd.prog Rows.histLessRow.laid w) (fun _ _ _ hh h => h.of_heap hh) own started (by kernel_rfl) Tryd.func6
    (ChangeSpec.witness_shaped (enc := enc) (C := Tryd.checked) (os := os) (X := fun w _ => laidMetH Tryd.prog Rows.histLessRow.laid w) false (World.laidAll Tryd.prog os Rows.histLessRow.laid) #[.agg #[.slice none 0 0]] 8 (World.laidAll_os _ _ _)
      (World.shaped_of_ZipB (by kernel_rfl) (by kernel_rfl)) (by kernel_rfl) (by kernel_rfl) (by kernel_rfl)
      (by rw [MakeChecks.laidMetH_plain _ _ _ (by kernel_rfl)]; exact laidMet_laidAll _ (by kernel_rfl) (by kernel_rfl))) ?_
  intro W base args ds gs before hval0 hW hL hsh
  have hval : ∀ (j : Nat) t v, Tryd.f6.params[j]? = some t → args[j]? = some v → Value.okWide Tryd.prog W .any base t v := hval0
  have hW' := hW
  obtain ⟨p, q, hA0, hV, rfl, hfz, hnd⟩ := hW
  have hlt : ∀ x ∈ p ++ q, x.block < W.heap.size := fun x hx => hW'.lt x hx
  have hA : DataW.TrodAll enc Tryd.prog W 0 (fun _ => true) true Tryd.f6.params.toList args.toList ds p := hA0
  rw [Tryd.params6] at hA hval
  obtain ⟨v0, d0, rfl, rfl, h0⟩ := trodAll_one hA
  obtain ⟨rfl, rfl⟩ := trodVars_none hV
  obtain ⟨n0, t0⟩ := h0
  obtain ⟨cs0, rfl, hz0⟩ := okWide_struct Tryd.underlying24 (hval 0 24 v0 rfl rfl)
  obtain ⟨a0, cap0, l0, he0, hl0, hn0, hm0⟩ := open_hist (by kernel_rfl) t0
  obtain rfl : cs0 = #[.slice a0 l0.length cap0] := Array.toList_inj.1 he0
  refine (histLess_any a0 cap0 l0 W hl0 hn0 hm0 (Env.of hsh hL (MakeChecks.laidMetH_plain _ _ _ (by kernel_rfl)) (.tail _ (.tail _ (.head _))) (.tail _ (.tail _ (.tail _ (.tail _ (.head _))))))).mono fun e W2 he => ?_
  obtain ⟨he, hb⟩ := he
  subst he
  exact ⟨_, rfl, [d0], [], p ++ [], [], p, [], hW', trodAll_mk1 (shut_bool Tryd.underlying4 true), Below.trodAll hb (by kernel_rfl) hA (fun x hx => hlt x (List.mem_append.2 (.inl hx))), rfl, hb.frame _, fun h => by cases h⟩

theorem histLess_holds : Rows.HistLessSaid :=
  OpenClaim.holds_of_wide 6 Tryd.f6 rfl rfl rfl rfl rfl rfl rfl ⟨rfl, rfl, rfl, rfl, rfl⟩ rfl rfl rfl rfl rfl (by kernel_rfl) Tryd.func6 (by kernel_rfl)
    (of_decide_eq_true (by kernel_rfl)) (by unfold Func.isWrapper; first | (rw [if_pos (by decide +kernel)]; kernel_rfl) | (rw [if_neg (by decide +kernel)]; exact ⟨rfl, rfl⟩))
    (fun os started H enc _ => histLess_lifted os started H enc)
theorem histLess_card_holds : Rows.HistLessCardSaid :=
  Claim7.holds_tied_plain_at .later [] [.data, .data, .data, .data, .data, .pinned] true (true, "933f6c9056a38844fa0b79a43b83a0353e02b1256637b1455fcfd22ee878c74d") true histLess_holds (fun _ h => by cases h) (by kernel_rfl) (fun _ h => by cases h) histLess_row_tie rfl ⟨rfl, rfl⟩ (by kernel_rfl) rfl
    (fun f fn hf hfn => by
      obtain rfl : f = 6 := Option.some.inj ((show Tryd.prog.funcNamed Rows.histLessRow.func = some 6 by kernel_rfl).symm.trans hf) |>.symm
      obtain rfl : fn = Tryd.f6 := (Option.some.inj (Tryd.func6.symm.trans hfn)).symm
      exact ⟨by kernel_rfl, fun j t ht => by
        rw [Tryd.params6] at ht
        have hm : t ∈ [24] := by simpa using Array.mem_of_getElem? ht
        have hall : ([24].all fun u => !Tryd.prog.wantsStandIn u) = true := by kernel_rfl
        exact (show Tryd.prog.wantsStandIn t = false by simpa using List.all_eq_true.1 hall t hm)⟩)
    (by kernel_rfl)
#print axioms histLess_card_holds
end Go.Proofs.YtphcebgpllecjaaDoor
