/-
  Walks: slices.IndexFunc, ContainsFunc at takes, at choices that are written, at kinds of edges.
-/
import Derived.Test.YtjomijnbnbideaaGreatDoorT08
import Derived.Test.YtjomijnbnbideaaGreatDoorT04
import Derived.Test.YtjomijnbnbideaaGreatDoorT14
set_option linter.unusedVariables false
set_option linter.unusedSimpArgs false
namespace Go.Proofs.YtjomijnbnbideaaGreatDoor
open Go.RowKit Go.Inq
set_option maxHeartbeats 2000000
attribute [local go_sem ↓] Go.wp_at_zero Go.wp_at_succ

/-- Values, each with what is asked of it. -/
def KndS (w : World) (K : Nat → Prop) (v : Value) (l : List (Value × Bool)) : Prop := SlR 1 (Flat fun x : Value × Bool => [x.1]) w K v l
theorem KndS.below {w w' : World} {v : Value} {l : List (Value × Bool)} (h : KndS w (Old w) v l) (hb : Below w.heap.size w w') : KndS w' (Old w') v l := SlR.below (Flat.stab _) h hb
theorem KndS.at_ {w : World} {K : Nat → Prop} {A : Option Addr} {n c : Nat} {l : List (Value × Bool)} (h : KndS w K (.slice A n c) l) {i : Nat} (hi : i < l.length) :
    ∃ b off, A = some ⟨b, off, none⟩ ∧ K b ∧ w.cell? ⟨b, off + i, none⟩ = some l[i].1 := by
  obtain ⟨b, off, cs, hA, hK, _, hR, hc⟩ := SlR.at_ h hi
  unfold Flat at hR
  subst hR
  have := hc 0 _ rfl
  rw [Nat.mul_one, Nat.add_zero] at this
  exact ⟨b, off, hA, hK, this⟩
set_option maxRecDepth 100000 in
theorem indexTk_any (f : Nat) (hf : ∀ args w, (callFunc f args).run Tryz.prog w = .ok (.enter f args) w) (lb : Array Value) (p : It → Bool) (A : Option Addr) (c : Nat) (l : List (It)) (w : World) (h : ItS w (Old w) (.slice A l.length c) l) (hl : l.length ≤ 1000000000)
    (hp : ∀ W, Below w.heap.size w W → ∀ x ∈ l, Calls Tryz.prog f (#[.agg #[.int .i64 x.a, .int .i64 x.b]] ++ lb) W fun e W' => e = .returned (.bool (p x)) ∧ Below W.heap.size W W') :
    Calls Tryz.prog 273 #[.slice A l.length c, .func (.func f) #[] lb] w fun e w' => e = .returned (.int .i64 (idxP p l)) ∧ Below w.heap.size w w' := by
  have hhit := hide (fun k => idxP_hit (p := p) (l := l) (k := k))
  have hnone := hide (idxP_none (p := p) (l := l))
  replace h := hide h
  replace hp := hide hp
  go_enter Tryz.func273, Tryz.ntmps273
  go_wp2_with fail
  go_loopw [8] (fun s8 wr => ∃ k : Nat, k ≤ l.length ∧ s8 = .int .i64 k ∧ Hid (∀ j (hj : j < l.length), j < k → p l[j] = false) ∧ Below w.heap.size w wr) (fun s8 _ => l.length - (intOf s8).toNat)
  case atStart => exact ⟨0, Nat.zero_le _, by go_num, fun j hj h => absurd h (by omega), Below.refl _ _⟩
  case round =>
    obtain ⟨k, hk, rfl, hall, hb⟩ := hrel
    have hk1 : (0 : Int) ≤ (k : Int) := Int.natCast_nonneg _
    by_cases hlt : k < l.length
    · have hi2 : (k : Int) < (l.length : Int) := by omega
      obtain ⟨b, off, rfl, _, d0, d1⟩ := (h.out.below hb).at_ hlt
      have hcall := hide (hp.out _ hb _ (List.getElem_mem hlt))
      have hh := hide (fun g => hhit.out k hlt g hall.out)
      have hst : Hid (p l[k] = false → ∀ j (hj : j < l.length), j < k + 1 → p l[j] = false) := fun g j hj hjk => by
        by_cases e : j = k
        · subst e; exact g
        · exact hall.out j hj (by omega)
      clear hall
      generalize l[k] = x at *
      go_wp2_with fail
      refine hcall.out.mono ?_
      rintro e W2 ⟨rfl, hb2⟩
      have hb3 := hb.trans (hb2.mono hb.size)
      cases hpx : p x with
      | true =>
        have hr := hide (hh.out hpx)
        clear hpx hh hst hcall
        go_wp2
        go_ret
        exact ⟨ret_int hr.out.symm, hb3⟩
      | false =>
        have hr := hide (hst.out hpx)
        clear hpx hh hst hcall
        go_wp2
        go_roundw
        case rel => exact ⟨k + 1, by omega, by go_num, hr, hb3⟩
        case measure => simp [intOf]; omega
    · have hr := hide (hnone.out fun j hj => hall.out j hj (by omega))
      go_wp2
      go_ret
      exact ⟨ret_int hr.out.symm, hb⟩
theorem containsTk_any (f : Nat) (hf : ∀ args w, (callFunc f args).run Tryz.prog w = .ok (.enter f args) w) (lb : Array Value) (p : It → Bool) (A : Option Addr) (c : Nat) (l : List (It)) (w : World) (h : ItS w (Old w) (.slice A l.length c) l) (hl : l.length ≤ 1000000000)
    (hp : ∀ W, Below w.heap.size w W → ∀ x ∈ l, Calls Tryz.prog f (#[.agg #[.int .i64 x.a, .int .i64 x.b]] ++ lb) W fun e W' => e = .returned (.bool (p x)) ∧ Below W.heap.size W W') :
    Calls Tryz.prog 271 #[.slice A l.length c, .func (.func f) #[] lb] w fun e w' => e = .returned (.bool (l.any p)) ∧ Below w.heap.size w w' := by
  have hd := hide (idxP_any p l)
  have hcall := hide (indexTk_any f hf lb p A c l w h hl hp)
  clear hp hf h
  go_enter Tryz.func271, Tryz.ntmps271
  go_wp2_with fail
  refine hcall.out.mono ?_
  rintro e w1 ⟨rfl, hb⟩
  clear hcall
  go_wp2
  go_ret
  exact ⟨by rw [← hd.out]; rfl, hb⟩
set_option maxRecDepth 100000 in
theorem indexWr_any (f : Nat) (hf : ∀ args w, (callFunc f args).run Tryz.prog w = .ok (.enter f args) w) (lb : Array Value) (p : Cho → Bool) (A : Option Addr) (c : Nat) (l : List (Cho)) (w : World) (h : ChoS w (Old w) (.slice A l.length c) l) (hl : l.length ≤ 1000000000)
    (hp : ∀ W, Below w.heap.size w W → ∀ x ∈ l, Calls Tryz.prog f (#[.agg #[.int .i64 x.key, .int .i64 x.a, .int .i64 x.b]] ++ lb) W fun e W' => e = .returned (.bool (p x)) ∧ Below W.heap.size W W') :
    Calls Tryz.prog 278 #[.slice A l.length c, .func (.func f) #[] lb] w fun e w' => e = .returned (.int .i64 (idxP p l)) ∧ Below w.heap.size w w' := by
  have hhit := hide (fun k => idxP_hit (p := p) (l := l) (k := k))
  have hnone := hide (idxP_none (p := p) (l := l))
  replace h := hide h
  replace hp := hide hp
  go_enter Tryz.func278, Tryz.ntmps278
  go_wp2_with fail
  go_loopw [8] (fun s8 wr => ∃ k : Nat, k ≤ l.length ∧ s8 = .int .i64 k ∧ Hid (∀ j (hj : j < l.length), j < k → p l[j] = false) ∧ Below w.heap.size w wr) (fun s8 _ => l.length - (intOf s8).toNat)
  case atStart => exact ⟨0, Nat.zero_le _, by go_num, fun j hj h => absurd h (by omega), Below.refl _ _⟩
  case round =>
    obtain ⟨k, hk, rfl, hall, hb⟩ := hrel
    have hk1 : (0 : Int) ≤ (k : Int) := Int.natCast_nonneg _
    by_cases hlt : k < l.length
    · have hi2 : (k : Int) < (l.length : Int) := by omega
      obtain ⟨b, off, rfl, _, d0, d1, d2⟩ := (h.out.below hb).at_ hlt
      have hcall := hide (hp.out _ hb _ (List.getElem_mem hlt))
      have hh := hide (fun g => hhit.out k hlt g hall.out)
      have hst : Hid (p l[k] = false → ∀ j (hj : j < l.length), j < k + 1 → p l[j] = false) := fun g j hj hjk => by
        by_cases e : j = k
        · subst e; exact g
        · exact hall.out j hj (by omega)
      clear hall
      generalize l[k] = x at *
      go_wp2_with fail
      refine hcall.out.mono ?_
      rintro e W2 ⟨rfl, hb2⟩
      have hb3 := hb.trans (hb2.mono hb.size)
      cases hpx : p x with
      | true =>
        have hr := hide (hh.out hpx)
        clear hpx hh hst hcall
        go_wp2
        go_ret
        exact ⟨ret_int hr.out.symm, hb3⟩
      | false =>
        have hr := hide (hst.out hpx)
        clear hpx hh hst hcall
        go_wp2
        go_roundw
        case rel => exact ⟨k + 1, by omega, by go_num, hr, hb3⟩
        case measure => simp [intOf]; omega
    · have hr := hide (hnone.out fun j hj => hall.out j hj (by omega))
      go_wp2
      go_ret
      exact ⟨ret_int hr.out.symm, hb⟩
theorem containsWr_any (f : Nat) (hf : ∀ args w, (callFunc f args).run Tryz.prog w = .ok (.enter f args) w) (lb : Array Value) (p : Cho → Bool) (A : Option Addr) (c : Nat) (l : List (Cho)) (w : World) (h : ChoS w (Old w) (.slice A l.length c) l) (hl : l.length ≤ 1000000000)
    (hp : ∀ W, Below w.heap.size w W → ∀ x ∈ l, Calls Tryz.prog f (#[.agg #[.int .i64 x.key, .int .i64 x.a, .int .i64 x.b]] ++ lb) W fun e W' => e = .returned (.bool (p x)) ∧ Below W.heap.size W W') :
    Calls Tryz.prog 275 #[.slice A l.length c, .func (.func f) #[] lb] w fun e w' => e = .returned (.bool (l.any p)) ∧ Below w.heap.size w w' := by
  have hd := hide (idxP_any p l)
  have hcall := hide (indexWr_any f hf lb p A c l w h hl hp)
  clear hp hf h
  go_enter Tryz.func275, Tryz.ntmps275
  go_wp2_with fail
  refine hcall.out.mono ?_
  rintro e w1 ⟨rfl, hb⟩
  clear hcall
  go_wp2
  go_ret
  exact ⟨by rw [← hd.out]; rfl, hb⟩
set_option maxRecDepth 100000 in
theorem indexKd_any (f : Nat) (hf : ∀ args w, (callFunc f args).run Tryz.prog w = .ok (.enter f args) w) (lb : Array Value) (p : Value × Bool → Bool) (A : Option Addr) (c : Nat) (l : List (Value × Bool)) (w : World) (h : KndS w (Old w) (.slice A l.length c) l) (hl : l.length ≤ 1000000000)
    (hp : ∀ W, Below w.heap.size w W → ∀ x ∈ l, Calls Tryz.prog f (#[x.1] ++ lb) W fun e W' => e = .returned (.bool (p x)) ∧ Below W.heap.size W W') :
    Calls Tryz.prog 251 #[.slice A l.length c, .func (.func f) #[] lb] w fun e w' => e = .returned (.int .i64 (idxP p l)) ∧ Below w.heap.size w w' := by
  have hhit := hide (fun k => idxP_hit (p := p) (l := l) (k := k))
  have hnone := hide (idxP_none (p := p) (l := l))
  replace h := hide h
  replace hp := hide hp
  go_enter Tryz.func251, Tryz.ntmps251
  go_wp2_with fail
  go_loopw [8] (fun s8 wr => ∃ k : Nat, k ≤ l.length ∧ s8 = .int .i64 k ∧ Hid (∀ j (hj : j < l.length), j < k → p l[j] = false) ∧ Below w.heap.size w wr) (fun s8 _ => l.length - (intOf s8).toNat)
  case atStart => exact ⟨0, Nat.zero_le _, by go_num, fun j hj h => absurd h (by omega), Below.refl _ _⟩
  case round =>
    obtain ⟨k, hk, rfl, hall, hb⟩ := hrel
    have hk1 : (0 : Int) ≤ (k : Int) := Int.natCast_nonneg _
    by_cases hlt : k < l.length
    · have hi2 : (k : Int) < (l.length : Int) := by omega
      obtain ⟨b, off, rfl, _, d0⟩ := (h.out.below hb).at_ hlt
      have hcall := hide (hp.out _ hb _ (List.getElem_mem hlt))
      have hh := hide (fun g => hhit.out k hlt g hall.out)
      have hst : Hid (p l[k] = false → ∀ j (hj : j < l.length), j < k + 1 → p l[j] = false) := fun g j hj hjk => by
        by_cases e : j = k
        · subst e; exact g
        · exact hall.out j hj (by omega)
      clear hall
      generalize l[k] = x at *
      go_wp2_with fail
      refine hcall.out.mono ?_
      rintro e W2 ⟨rfl, hb2⟩
      have hb3 := hb.trans (hb2.mono hb.size)
      cases hpx : p x with
      | true =>
        have hr := hide (hh.out hpx)
        clear hpx hh hst hcall
        go_wp2
        go_ret
        exact ⟨ret_int hr.out.symm, hb3⟩
      | false =>
        have hr := hide (hst.out hpx)
        clear hpx hh hst hcall
        go_wp2
        go_roundw
        case rel => exact ⟨k + 1, by omega, by go_num, hr, hb3⟩
        case measure => simp [intOf]; omega
    · have hr := hide (hnone.out fun j hj => hall.out j hj (by omega))
      go_wp2
      go_ret
      exact ⟨ret_int hr.out.symm, hb⟩
theorem containsKd_any (f : Nat) (hf : ∀ args w, (callFunc f args).run Tryz.prog w = .ok (.enter f args) w) (lb : Array Value) (p : Value × Bool → Bool) (A : Option Addr) (c : Nat) (l : List (Value × Bool)) (w : World) (h : KndS w (Old w) (.slice A l.length c) l) (hl : l.length ≤ 1000000000)
    (hp : ∀ W, Below w.heap.size w W → ∀ x ∈ l, Calls Tryz.prog f (#[x.1] ++ lb) W fun e W' => e = .returned (.bool (p x)) ∧ Below W.heap.size W W') :
    Calls Tryz.prog 241 #[.slice A l.length c, .func (.func f) #[] lb] w fun e w' => e = .returned (.bool (l.any p)) ∧ Below w.heap.size w w' := by
  have hd := hide (idxP_any p l)
  have hcall := hide (indexKd_any f hf lb p A c l w h hl hp)
  clear hp hf h
  go_enter Tryz.func241, Tryz.ntmps241
  go_wp2_with fail
  refine hcall.out.mono ?_
  rintro e w1 ⟨rfl, hb⟩
  clear hcall
  go_wp2
  go_ret
  exact ⟨by rw [← hd.out]; rfl, hb⟩
end Go.Proofs.YtjomijnbnbideaaGreatDoor

namespace Go.Proofs.YtjomijnbnbideaaGreatDoor
open Go.RowKit Go.Inq
set_option maxHeartbeats 8000000
attribute [local go_sem ↓] Go.wp_at_zero Go.wp_at_succ

set_option maxRecDepth 100000 in
theorem writes19_any (A : Option Addr) (c : Nat) (H : List Txn) (t : Nat) (key : Int) (w : World) (h : TxnS w (Old w) (.slice A H.length c) H) (hn : SmallH H) (ht : t < H.length) :
    Calls Tryz.prog 277 #[.agg #[.slice A H.length c], .int .i64 (t : Int), .int .i64 key] w fun e w' => e = .returned (.bool ((txnAt H t).writes.contains key)) ∧ Below w.heap.size w w' := by
  obtain ⟨W0, hW0⟩ : ∃ W0, w.alloc (.cells #[.slice A H.length c] 24) = W0 := ⟨_, rfl⟩
  have hB := below_allocEq (Below.refl w.heap.size w) hW0 (Nat.le_refl _)
  have k0 := Blk.newEq hW0
  have hT := h.below hB
  have ht0 : (0 : Int) ≤ (t : Int) := Int.natCast_nonneg _
  have ht1 : (t : Int) < (H.length : Int) := by omega
  obtain ⟨b, off, Aw, cw, Ar, cr, rfl, _, d0, d1, d2, hws, _⟩ := TxnS.at_ hT ht
  have hwl : H[t].writes.length ≤ maxLen := by have := (hn.2 _ (List.getElem_mem ht)).1; unfold maxLen; omega
  have hc := hide (contains_int Aw cw H[t].writes key (Old W0) W0 hws hwl)
  rw [txnAt_of ht]
  generalize H[t].writes = L at *
  generalize L.contains key = q at *
  have c0 := k0.cell 0
  simp only [List.getElem?_toArray, List.getElem?_cons_zero, List.getElem?_cons_succ] at c0
  replace hn := hide hn
  clear h hT hws
  go_enter Tryz.func277, Tryz.ntmps277
  go_wp2_with fail
  clear hW0 c0 d0 d1 d2
  refine hc.out.mono ?_
  rintro e w1 ⟨rfl, rfl⟩
  go_wp2
  go_ret
  exact ⟨rfl, hB⟩
set_option maxRecDepth 100000 in
theorem sess19_any (A : Option Addr) (c : Nat) (H : List Txn) (x y : Nat) (v : Value) (w : World) (h : TxnS w (Old w) (.slice A H.length c) H) (hx : x < H.length) (hy : y < H.length) :
    Calls Tryz.prog 269 #[.agg #[], .agg #[.slice A H.length c], .int .i64 (x : Int), .int .i64 (y : Int)] w fun e w' => e = .returned (.bool (soE H x y)) ∧ Below w.heap.size w w' := by
  have hx0 : (0 : Int) ≤ (x : Int) := Int.natCast_nonneg _
  have hx1 : (x : Int) < (H.length : Int) := by omega
  have hy0 : (0 : Int) ≤ (y : Int) := Int.natCast_nonneg _
  have hy1 : (y : Int) < (H.length : Int) := by omega
  have hso : soE H x y = (decide (x < y) && decide (H[x].sess = H[y].sess)) := by unfold soE; rw [txnAt_of hx, txnAt_of hy]
  obtain ⟨W0, hW0⟩ : ∃ W0, (w.alloc (.cells #[] 267)).alloc (.cells #[.slice A H.length c] 24) = W0 := ⟨_, rfl⟩
  have hB := below_two hW0
  have k1 := Blk.two2 hW0
  have hT := h.below hB
  obtain ⟨b, off, Aw, cw, Ar, cr, rfl, _, d0, -, -, -, -⟩ := TxnS.at_ hT hx
  obtain ⟨b', off', Aw', cw', Ar', cr', e', _, d1, -, -, -, -⟩ := TxnS.at_ hT hy
  injection e' with e'
  injection e' with e1 e2
  subst e1 e2
  have c0 := k1.cell 0
  simp only [List.getElem?_toArray, List.getElem?_cons_zero, List.getElem?_cons_succ] at c0
  rw [hso]
  generalize H[x].sess = sx at *
  generalize H[y].sess = sy at *
  have hbz := hide (fun (nq : Nat) => (hB.trans ⟨rfl, rfl, rfl, Nat.le_refl _, fun _ _ => rfl⟩ : Below w.heap.size w (W0.drewN nq)))
  clear h hT hso
  by_cases hlt : x < y
  · have g1 : decide (x < y) = true := by simpa using hlt
    rw [g1, Bool.true_and]
    by_cases he : sx = sy
    · subst he
      have g2 : decide (sx = sx) = true := by simp
      rw [g2]
      go_enter Tryz.func269, Tryz.ntmps269
      go_wp2
      go_quiet (fail)
      go_wp2
      go_ret
      exact ⟨rfl, hbz.out _⟩
    · have g2 : (sx == sy) = false := by simpa using he
      have g3 : decide (sx = sy) = false := by simpa using he
      rw [g3]
      clear he g3
      go_enter Tryz.func269, Tryz.ntmps269
      go_wp2
      go_quiet (fail)
      go_wp2
      go_ret
      exact ⟨rfl, hbz.out _⟩
  · have g1 : decide (x < y) = false := by simpa using hlt
    rw [g1, Bool.false_and]
    clear hlt
    go_enter Tryz.func269, Tryz.ntmps269
    go_wp2
    go_quiet (fail)
    go_wp2
    go_ret
    exact ⟨rfl, hbz.out _⟩
/-- The closure of 'read'. -/
theorem rdc19_any (r : It) (x : Nat) (bx : Nat) (w : World) (hbx : w.cell? ⟨bx, 0, none⟩ = some (.int .i64 (x : Int))) :
    Calls Tryz.prog 272 #[.agg #[.int .i64 r.a, .int .i64 r.b], .pointer (some ⟨bx, 0, none⟩)] w fun e w' => e = .returned (.bool (decide (r.b = (x : Int)))) ∧ Below w.heap.size w w' := by
  obtain ⟨ra, rb⟩ := r
  dsimp only
  obtain ⟨W0, hW0⟩ : ∃ W0, w.alloc (.cells #[.int .i64 ra, .int .i64 rb] 112) = W0 := ⟨_, rfl⟩
  have hB := below_allocEq (Below.refl w.heap.size w) hW0 (Nat.le_refl _)
  have k0 := Blk.newEq hW0
  have hbx2 := (hB.cell (p := ⟨bx, 0, none⟩) (block_lt_of_cell hbx)).trans hbx
  have c0 := k0.cell 0
  have c1 := k0.cell 1
  simp only [List.getElem?_toArray, List.getElem?_cons_zero, List.getElem?_cons_succ] at c0 c1
  have hq : decide (rb = (x : Int)) = (rb == (x : Int)) := by rw [Bool.eq_iff_iff]; simp
  rw [hq]
  obtain ⟨q, hqe⟩ : ∃ q, (rb == (x : Int)) = q := ⟨_, rfl⟩
  rw [hqe]
  clear hq hbx
  go_enter Tryz.func272, Tryz.ntmps272
  go_wp2
  go_ret
  exact ⟨rfl, hB⟩
set_option maxRecDepth 100000 in
theorem read19_any (A : Option Addr) (c : Nat) (H : List Txn) (x y : Nat) (w : World) (h : TxnS w (Old w) (.slice A H.length c) H) (hn : SmallH H) (hy : y < H.length) :
    Calls Tryz.prog 270 #[.agg #[], .agg #[.slice A H.length c], .int .i64 (x : Int), .int .i64 (y : Int)] w fun e w' => e = .returned (.bool (redE H x y)) ∧ Below w.heap.size w w' := by
  have hy0 : (0 : Int) ≤ (y : Int) := Int.natCast_nonneg _
  have hy1 : (y : Int) < (H.length : Int) := by omega
  obtain ⟨W0, hW0⟩ : ∃ W0, ((w.alloc (.cells #[] 268)).alloc (.cells #[.slice A H.length c] 24)).alloc (.cells #[.int .i64 (x : Int)] 3) = W0 := ⟨_, rfl⟩
  have hB := below_three hW0
  have k1 := Blk.three2 hW0
  have k2 := Blk.three3 hW0
  have hT := h.below hB
  obtain ⟨b, off, Aw, cw, Ar, cr, rfl, _, d0, d1, d2, -, hrs⟩ := TxnS.at_ hT hy
  have hrl : H[y].reads.length ≤ 1000000 := (hn.2 _ (List.getElem_mem hy)).2
  have hc := hide (containsTk_any 272 (enters_of Tryz.func272 (by kernel_rfl) rfl) #[.pointer (some ⟨w.heap.size + 1 + 1, 0, none⟩)] (fun r => decide (r.b = (x : Int))) Ar cr H[y].reads W0 hrs (by omega) (fun W hbW r _ => rdc19_any r x _ W (by have := (k2.below hbW k2.lt).cell 0; simpa using this)))
  have hre : redE H x y = H[y].reads.any fun r => decide (r.b = (x : Int)) := by unfold redE; rw [txnAt_of hy]
  rw [hre]
  generalize H[y].reads = R at *
  generalize (R.any fun r => decide (r.b = (x : Int))) = q at *
  have c0 := k1.cell 0
  simp only [List.getElem?_toArray, List.getElem?_cons_zero, List.getElem?_cons_succ] at c0
  clear h hT hrs hre
  go_enter Tryz.func270, Tryz.ntmps270
  go_wp2_with fail
  refine hc.out.mono ?_
  rintro e w1 ⟨rfl, hb1⟩
  go_wp2
  go_ret
  exact ⟨rfl, hB.trans (hb1.mono hB.size)⟩
set_option maxRecDepth 100000 in
theorem wrc19_any (A : Option Addr) (c : Nat) (H : List Txn) (ch : Cho) (x y : Nat) (bx by' bh : Nat) (w : World) (h : TxnS w (Old w) (.slice A H.length c) H) (hn : SmallH H) (hx : x < H.length) (hy : y < H.length)
    (hbx : w.cell? ⟨bx, 0, none⟩ = some (.int .i64 (x : Int))) (hby : w.cell? ⟨by', 0, none⟩ = some (.int .i64 (y : Int))) (hbh : w.cell? ⟨bh, 0, none⟩ = some (.slice A H.length c)) :
    Calls Tryz.prog 276 #[.agg #[.int .i64 ch.key, .int .i64 ch.a, .int .i64 ch.b], .pointer (some ⟨bx, 0, none⟩), .pointer (some ⟨by', 0, none⟩), .pointer (some ⟨bh, 0, none⟩)] w fun e w' => e = .returned (.bool (chosE H x y ch)) ∧ Below w.heap.size w w' := by
  obtain ⟨key, a, b⟩ := ch
  dsimp only
  obtain ⟨W0, hW0⟩ : ∃ W0, w.alloc (.cells #[.int .i64 key, .int .i64 a, .int .i64 b] 49) = W0 := ⟨_, rfl⟩
  have hB := below_allocEq (Below.refl w.heap.size w) hW0 (Nat.le_refl _)
  have k0 := Blk.newEq hW0
  have e0 := (hB.cell (p := ⟨bx, 0, none⟩) (block_lt_of_cell hbx)).trans hbx
  have e1 := (hB.cell (p := ⟨by', 0, none⟩) (block_lt_of_cell hby)).trans hby
  have e2 := (hB.cell (p := ⟨bh, 0, none⟩) (block_lt_of_cell hbh)).trans hbh
  have hT := hide (h.below hB)
  have c0 := k0.cell 0
  have c1 := k0.cell 1
  have c2 := k0.cell 2
  simp only [List.getElem?_toArray, List.getElem?_cons_zero, List.getElem?_cons_succ] at c0 c1 c2
  have hp : Hid (chosE H x y ⟨key, a, b⟩ = (decide (a = (x : Int)) && decide (b = (y : Int)) && decide (x ≠ y) && (txnAt H x).writes.contains key && (txnAt H y).writes.contains key)) := hide rfl
  obtain ⟨r, hr⟩ : ∃ r, chosE H x y ⟨key, a, b⟩ = r := ⟨_, rfl⟩
  rw [hr] at hp
  rw [hr]
  clear h hbx hby hbh hr
  by_cases h1 : a = (x : Int)
  · have g1 : (a == (x : Int)) = true := by simpa using h1
    by_cases h2 : b = (y : Int)
    · have g2 : (b == (y : Int)) = true := by simpa using h2
      by_cases h3 : x = y
      · have hre : r = false := by rw [hp.out]; simp [h3]
        have g3 : ((x : Int) != (y : Int)) = false := by simp [h3]
        have g4 : (x != y) = false := by simp [h3]
        subst hre
        clear h1 h2 h3
        clear hp
        go_enter Tryz.func276, Tryz.ntmps276
        go_wp2
        go_ret
        exact ⟨rfl, hB⟩
      · have g3 : ((x : Int) != (y : Int)) = true := by simp; omega
        have g4 : (x != y) = true := by simp [h3]
        have hp2 := hide (show r = ((txnAt H x).writes.contains key && (txnAt H y).writes.contains key) by rw [hp.out]; simp [h1, h2, h3])
        have hw1 := hide (writes19_any A c H x key W0 hT.out hn hx)
        have hw2 := hide (fun W (hb : Below W0.heap.size W0 W) => writes19_any A c H y key W (hT.out.below hb) hn hy)
        generalize (txnAt H x).writes.contains key = q1 at *
        generalize (txnAt H y).writes.contains key = q2 at *
        clear h1 h2 h3 hp
        go_enter Tryz.func276, Tryz.ntmps276
        go_wp2_with fail
        refine hw1.out.mono ?_
        rintro e w1 ⟨rfl, hb1⟩
        have e1' := (hb1.cell (p := ⟨by', 0, none⟩) (block_lt_of_cell e1)).trans e1
        have e2' := (hb1.cell (p := ⟨bh, 0, none⟩) (block_lt_of_cell e2)).trans e2
        have c0' := (hb1.cell (p := ⟨w.heap.size, 0, none⟩) k0.lt).trans c0
        have hw3 := hide (hw2.out w1 hb1)
        have hb2 := hB.trans (hb1.mono hB.size)
        clear hW0 hw1 hw2 e0 e1 e2 c0 c1 c2
        cases q1 with
        | false =>
          have hre : r = false := by rw [hp2.out]; rfl
          subst hre
          clear hp2
          go_wp2
          go_ret
          exact ⟨rfl, hb2⟩
        | true =>
          have hre : r = q2 := by rw [hp2.out]; rfl
          subst hre
          clear hp2
          go_wp2_with fail
          refine hw3.out.mono ?_
          rintro e w2 ⟨rfl, hb3⟩
          go_wp2
          go_ret
          exact ⟨rfl, hb2.trans (hb3.mono hb2.size)⟩
    · have g2 : (b == (y : Int)) = false := by simpa using h2
      have hre : r = false := by rw [hp.out]; simp [h2]
      subst hre
      clear h1 h2
      clear hp
      go_enter Tryz.func276, Tryz.ntmps276
      go_wp2
      go_ret
      exact ⟨rfl, hB⟩
  · have g1 : (a == (x : Int)) = false := by simpa using h1
    have hre : r = false := by rw [hp.out]; simp [h1]
    subst hre
    clear h1
    clear hp
    go_enter Tryz.func276, Tryz.ntmps276
    go_wp2
    go_ret
    exact ⟨rfl, hB⟩
set_option maxRecDepth 100000 in
theorem writ19_any (A : Option Addr) (c : Nat) (H : List Txn) (Al : Option Addr) (cl : Nat) (l : List Cho) (x y : Nat) (w : World) (h : TxnS w (Old w) (.slice A H.length c) H) (hn : SmallH H) (hl : ChoS w (Old w) (.slice Al l.length cl) l) (hln : l.length ≤ 1000000000) (hx : x < H.length) (hy : y < H.length) :
    Calls Tryz.prog 274 #[.slice Al l.length cl, .agg #[.slice A H.length c], .int .i64 (x : Int), .int .i64 (y : Int)] w fun e w' => e = .returned (.bool (writE H l x y)) ∧ Below w.heap.size w w' := by
  obtain ⟨W0, hW0⟩ : ∃ W0, ((w.alloc (.cells #[.slice A H.length c] 24)).alloc (.cells #[.int .i64 (x : Int)] 3)).alloc (.cells #[.int .i64 (y : Int)] 3) = W0 := ⟨_, rfl⟩
  have hB := below_three hW0
  have k0 := Blk.three1 hW0
  have k1 := Blk.three2 hW0
  have k2 := Blk.three3 hW0
  have hT := hide (h.below hB)
  have hc := hide (containsWr_any 276 (enters_of Tryz.func276 (by kernel_rfl) rfl) #[.pointer (some ⟨w.heap.size + 1, 0, none⟩), .pointer (some ⟨w.heap.size + 1 + 1, 0, none⟩), .pointer (some ⟨w.heap.size, 0, none⟩)] (chosE H x y) Al cl l W0 (hl.below hB) hln (fun W hbW ch _ => wrc19_any A c H ch x y _ _ _ W (hT.out.below hbW) hn hx hy (by have := (k1.below hbW k1.lt).cell 0; simpa using this) (by have := (k2.below hbW k2.lt).cell 0; simpa using this) (by have := (k0.below hbW k0.lt).cell 0; simpa using this)))
  have hre : Hid (writE H l x y = l.any (chosE H x y)) := hide rfl
  rw [hre.out]
  generalize l.any (chosE H x y) = q at *
  clear h hl hre
  go_enter Tryz.func274, Tryz.ntmps274
  go_wp2_with fail
  refine hc.out.mono ?_
  rintro e w1 ⟨rfl, hb1⟩
  go_wp2
  go_ret
  exact ⟨rfl, hB.trans (hb1.mono hB.size)⟩
end Go.Proofs.YtjomijnbnbideaaGreatDoor

namespace Go.Proofs.YtjomijnbnbideaaGreatDoor
open Go.RowKit Go.Inq
set_option maxHeartbeats 2000000
attribute [local go_sem ↓] Go.wp_at_zero Go.wp_at_succ

theorem cho_eq (x : Cho) (k a b : Int) : decide (x = ⟨k, a, b⟩) = (decide (x.key = k) && decide (x.a = a) && decide (x.b = b)) := by
  obtain ⟨k', a', b'⟩ := x
  rw [Bool.eq_iff_iff]
  simp [and_assoc]
theorem indexOv_any (A : Option Addr) (c : Nat) (l : List Cho) (xk xa xb : Int) (w : World) (h : ChoS w (Old w) (.slice A l.length c) l) (hl : l.length ≤ 1000000000) :
    Calls Tryz.prog 282 #[.slice A l.length c, .agg #[.int .i64 xk, .int .i64 xa, .int .i64 xb]] w fun e w' => e = .returned (.int .i64 (idxP (fun x : Cho => decide (x = ⟨xk, xa, xb⟩)) l)) ∧ Below w.heap.size w w' := by
  have hhit := hide (fun k => idxP_hit (p := fun x : Cho => decide (x = ⟨xk, xa, xb⟩)) (l := l) (k := k))
  have hnone := hide (idxP_none (p := fun x : Cho => decide (x = ⟨xk, xa, xb⟩)) (l := l))
  obtain ⟨W0, hW0⟩ : ∃ W0, w.alloc (.cells #[.int .i64 xk, .int .i64 xa, .int .i64 xb] 49) = W0 := ⟨_, rfl⟩
  have hB := below_allocEq (Below.refl w.heap.size w) hW0 (Nat.le_refl _)
  have k0 := Blk.newEq hW0
  replace h := hide h
  go_enter Tryz.func282, Tryz.ntmps282
  go_wp2_with fail
  clear hW0
  go_loopw [8] (fun s8 wr => ∃ k : Nat, k ≤ l.length ∧ s8 = .int .i64 k ∧ Hid (∀ j (hj : j < l.length), j < k → decide (l[j] = ⟨xk, xa, xb⟩) = false) ∧ Below w.heap.size w wr ∧ Blk wr w.heap.size 49 #[.int .i64 xk, .int .i64 xa, .int .i64 xb]) (fun s8 _ => l.length - (intOf s8).toNat)
  case atStart => exact ⟨0, Nat.zero_le _, by go_num, fun j hj h => absurd h (by omega), hB, k0⟩
  case round =>
    clear k0 hB
    obtain ⟨k, hk, rfl, hall, hb, k0⟩ := hrel
    have hk1 : (0 : Int) ≤ (k : Int) := Int.natCast_nonneg _
    by_cases hlt : k < l.length
    · have hi2 : (k : Int) < (l.length : Int) := by omega
      obtain ⟨b, off, rfl, _, d0, d1, d2⟩ := (h.out.below hb).at_ hlt
      have hh := hide (fun g => hhit.out k hlt g hall.out)
      have hst : Hid (decide (l[k] = ⟨xk, xa, xb⟩) = false → ∀ j (hj : j < l.length), j < k + 1 → decide (l[j] = ⟨xk, xa, xb⟩) = false) := fun g j hj hjk => by
        by_cases e : j = k
        · subst e; exact g
        · exact hall.out j hj (by omega)
      have c0 := k0.cell 0
      have c1 := k0.cell 1
      have c2 := k0.cell 2
      simp only [List.getElem?_toArray, List.getElem?_cons_zero, List.getElem?_cons_succ] at c0 c1 c2
      clear hall
      generalize l[k] = x at *
      obtain ⟨yk, ya, yb⟩ := x
      dsimp only at *
      rw [cho_eq] at hh hst
      dsimp only at hh hst
      by_cases q0 : xk = yk
      · have q0b : (xk == yk) = true := by simpa using q0
        by_cases q1 : xa = ya
        · have q1b : (xa == ya) = true := by simpa using q1
          by_cases q2 : xb = yb
          · have q2b : (xb == yb) = true := by simpa using q2
            have hr := hide (hh.out (by simp [q0, q1, q2]))
            clear q0 q1 q2 hh hst
            go_wp2
            go_quiet (fail)
            go_wp2
            go_ret
            exact ⟨ret_int hr.out.symm, hb.trans ⟨rfl, rfl, rfl, Nat.le_refl _, fun _ _ => rfl⟩⟩
          · have q2b : (xb == yb) = false := by simpa using q2
            have hr := hide (hst.out (by simp [q0, q1, Ne.symm q2]))
            clear q0 q1 q2
            clear hh hst
            go_wp2
            go_quiet (fail)
            go_wp2
            go_roundw
            case rel => exact ⟨k + 1, by omega, by go_num, hr, hb.trans ⟨rfl, rfl, rfl, Nat.le_refl _, fun _ _ => rfl⟩, k0⟩
            case measure => simp [intOf]; omega
        · have q1b : (xa == ya) = false := by simpa using q1
          have hr := hide (hst.out (by simp [Ne.symm q1]))
          clear q0 q1
          clear hh hst
          go_wp2
          go_quiet (fail)
          go_wp2
          go_roundw
          case rel => exact ⟨k + 1, by omega, by go_num, hr, hb.trans ⟨rfl, rfl, rfl, Nat.le_refl _, fun _ _ => rfl⟩, k0⟩
          case measure => simp [intOf]; omega
      · have q0b : (xk == yk) = false := by simpa using q0
        have hr := hide (hst.out (by simp [Ne.symm q0]))
        clear q0
        clear hh hst
        go_wp2
        go_quiet (fail)
        go_wp2
        go_roundw
        case rel => exact ⟨k + 1, by omega, by go_num, hr, hb.trans ⟨rfl, rfl, rfl, Nat.le_refl _, fun _ _ => rfl⟩, k0⟩
        case measure => simp [intOf]; omega
    · have hr := hide (hnone.out fun j hj => hall.out j hj (by omega))
      go_wp2
      go_ret
      exact ⟨ret_int hr.out.symm, hb⟩
theorem containsOv_any (A : Option Addr) (c : Nat) (l : List Cho) (xk xa xb : Int) (w : World) (h : ChoS w (Old w) (.slice A l.length c) l) (hl : l.length ≤ 1000000000) :
    Calls Tryz.prog 281 #[.slice A l.length c, .agg #[.int .i64 xk, .int .i64 xa, .int .i64 xb]] w fun e w' => e = .returned (.bool (l.any fun x => decide (x = ⟨xk, xa, xb⟩))) ∧ Below w.heap.size w w' := by
  have hd := hide (idxP_any (fun x : Cho => decide (x = ⟨xk, xa, xb⟩)) l)
  obtain ⟨W0, hW0⟩ : ∃ W0, w.alloc (.cells #[.int .i64 xk, .int .i64 xa, .int .i64 xb] 49) = W0 := ⟨_, rfl⟩
  have hB := below_allocEq (Below.refl w.heap.size w) hW0 (Nat.le_refl _)
  have h0 := h.below hB
  have hcall := hide (indexOv_any A c l xk xa xb W0 h0 hl)
  have k0 := Blk.newEq hW0
  clear h h0
  have c0 := k0.cell 0
  have c1 := k0.cell 1
  have c2 := k0.cell 2
  simp only [List.getElem?_toArray, List.getElem?_cons_zero, List.getElem?_cons_succ] at c0 c1 c2
  go_enter Tryz.func281, Tryz.ntmps281
  go_wp2_with fail
  clear hW0 c0 c1 c2
  refine hcall.out.mono ?_
  rintro e w1 ⟨rfl, hb⟩
  clear hcall
  go_wp2
  go_ret
  exact ⟨by rw [← hd.out]; rfl, hB.trans (hb.mono hB.size)⟩
theorem indexCh_any (A : Option Addr) (c : Nat) (l : List Cho) (xk xa xb : Int) (w : World) (h : ChoS w (Old w) (.slice A l.length c) l) (hl : l.length ≤ 1000000000) :
    Calls Tryz.prog 156 #[.slice A l.length c, .agg #[.int .i64 xk, .int .i64 xa, .int .i64 xb]] w fun e w' => e = .returned (.int .i64 (idxP (fun x : Cho => decide (x = ⟨xk, xa, xb⟩)) l)) ∧ Below w.heap.size w w' := by
  have hhit := hide (fun k => idxP_hit (p := fun x : Cho => decide (x = ⟨xk, xa, xb⟩)) (l := l) (k := k))
  have hnone := hide (idxP_none (p := fun x : Cho => decide (x = ⟨xk, xa, xb⟩)) (l := l))
  obtain ⟨W0, hW0⟩ : ∃ W0, w.alloc (.cells #[.int .i64 xk, .int .i64 xa, .int .i64 xb] 49) = W0 := ⟨_, rfl⟩
  have hB := below_allocEq (Below.refl w.heap.size w) hW0 (Nat.le_refl _)
  have k0 := Blk.newEq hW0
  replace h := hide h
  go_enter Tryz.func156, Tryz.ntmps156
  go_wp2_with fail
  clear hW0
  go_loopw [8] (fun s8 wr => ∃ k : Nat, k ≤ l.length ∧ s8 = .int .i64 k ∧ Hid (∀ j (hj : j < l.length), j < k → decide (l[j] = ⟨xk, xa, xb⟩) = false) ∧ Below w.heap.size w wr ∧ Blk wr w.heap.size 49 #[.int .i64 xk, .int .i64 xa, .int .i64 xb]) (fun s8 _ => l.length - (intOf s8).toNat)
  case atStart => exact ⟨0, Nat.zero_le _, by go_num, fun j hj h => absurd h (by omega), hB, k0⟩
  case round =>
    clear k0 hB
    obtain ⟨k, hk, rfl, hall, hb, k0⟩ := hrel
    have hk1 : (0 : Int) ≤ (k : Int) := Int.natCast_nonneg _
    by_cases hlt : k < l.length
    · have hi2 : (k : Int) < (l.length : Int) := by omega
      obtain ⟨b, off, rfl, _, d0, d1, d2⟩ := (h.out.below hb).at_ hlt
      have hh := hide (fun g => hhit.out k hlt g hall.out)
      have hst : Hid (decide (l[k] = ⟨xk, xa, xb⟩) = false → ∀ j (hj : j < l.length), j < k + 1 → decide (l[j] = ⟨xk, xa, xb⟩) = false) := fun g j hj hjk => by
        by_cases e : j = k
        · subst e; exact g
        · exact hall.out j hj (by omega)
      have c0 := k0.cell 0
      have c1 := k0.cell 1
      have c2 := k0.cell 2
      simp only [List.getElem?_toArray, List.getElem?_cons_zero, List.getElem?_cons_succ] at c0 c1 c2
      clear hall
      generalize l[k] = x at *
      obtain ⟨yk, ya, yb⟩ := x
      dsimp only at *
      rw [cho_eq] at hh hst
      dsimp only at hh hst
      by_cases q0 : xk = yk
      · have q0b : (xk == yk) = true := by simpa using q0
        by_cases q1 : xa = ya
        · have q1b : (xa == ya) = true := by simpa using q1
          by_cases q2 : xb = yb
          · have q2b : (xb == yb) = true := by simpa using q2
            have hr := hide (hh.out (by simp [q0, q1, q2]))
            clear q0 q1 q2 hh hst
            go_wp2
            go_quiet (fail)
            go_wp2
            go_ret
            exact ⟨ret_int hr.out.symm, hb.trans ⟨rfl, rfl, rfl, Nat.le_refl _, fun _ _ => rfl⟩⟩
          · have q2b : (xb == yb) = false := by simpa using q2
            have hr := hide (hst.out (by simp [q0, q1, Ne.symm q2]))
            clear q0 q1 q2
            clear hh hst
            go_wp2
            go_quiet (fail)
            go_wp2
            go_roundw
            case rel => exact ⟨k + 1, by omega, by go_num, hr, hb.trans ⟨rfl, rfl, rfl, Nat.le_refl _, fun _ _ => rfl⟩, k0⟩
            case measure => simp [intOf]; omega
        · have q1b : (xa == ya) = false := by simpa using q1
          have hr := hide (hst.out (by simp [Ne.symm q1]))
          clear q0 q1
          clear hh hst
          go_wp2
          go_quiet (fail)
          go_wp2
          go_roundw
          case rel => exact ⟨k + 1, by omega, by go_num, hr, hb.trans ⟨rfl, rfl, rfl, Nat.le_refl _, fun _ _ => rfl⟩, k0⟩
          case measure => simp [intOf]; omega
      · have q0b : (xk == yk) = false := by simpa using q0
        have hr := hide (hst.out (by simp [Ne.symm q0]))
        clear q0
        clear hh hst
        go_wp2
        go_quiet (fail)
        go_wp2
        go_roundw
        case rel => exact ⟨k + 1, by omega, by go_num, hr, hb.trans ⟨rfl, rfl, rfl, Nat.le_refl _, fun _ _ => rfl⟩, k0⟩
        case measure => simp [intOf]; omega
    · have hr := hide (hnone.out fun j hj => hall.out j hj (by omega))
      go_wp2
      go_ret
      exact ⟨ret_int hr.out.symm, hb⟩
theorem containsCh_any (A : Option Addr) (c : Nat) (l : List Cho) (xk xa xb : Int) (w : World) (h : ChoS w (Old w) (.slice A l.length c) l) (hl : l.length ≤ 1000000000) :
    Calls Tryz.prog 90 #[.slice A l.length c, .agg #[.int .i64 xk, .int .i64 xa, .int .i64 xb]] w fun e w' => e = .returned (.bool (l.any fun x => decide (x = ⟨xk, xa, xb⟩))) ∧ Below w.heap.size w w' := by
  have hd := hide (idxP_any (fun x : Cho => decide (x = ⟨xk, xa, xb⟩)) l)
  obtain ⟨W0, hW0⟩ : ∃ W0, w.alloc (.cells #[.int .i64 xk, .int .i64 xa, .int .i64 xb] 49) = W0 := ⟨_, rfl⟩
  have hB := below_allocEq (Below.refl w.heap.size w) hW0 (Nat.le_refl _)
  have h0 := h.below hB
  have hcall := hide (indexCh_any A c l xk xa xb W0 h0 hl)
  have k0 := Blk.newEq hW0
  clear h h0
  have c0 := k0.cell 0
  have c1 := k0.cell 1
  have c2 := k0.cell 2
  simp only [List.getElem?_toArray, List.getElem?_cons_zero, List.getElem?_cons_succ] at c0 c1 c2
  go_enter Tryz.func90, Tryz.ntmps90
  go_wp2_with fail
  clear hW0 c0 c1 c2
  refine hcall.out.mono ?_
  rintro e w1 ⟨rfl, hb⟩
  clear hcall
  go_wp2
  go_ret
  exact ⟨by rw [← hd.out]; rfl, hB.trans (hb.mono hB.size)⟩
end Go.Proofs.YtjomijnbnbideaaGreatDoor
