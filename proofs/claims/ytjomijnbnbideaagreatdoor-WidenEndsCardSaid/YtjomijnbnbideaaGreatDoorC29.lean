/-
  Walks: layer 18's reference: the choices of an order.
-/
import Derived.Test.YtjomijnbnbideaaGreatDoorC28
set_option linter.unusedVariables false
set_option linter.unusedSimpArgs false
namespace Go.Proofs.YtjomijnbnbideaaGreatDoor
open Go.RowKit Go.Inq
set_option maxHeartbeats 8000000
attribute [local go_sem ↓] Go.wp_at_zero Go.wp_at_succ

theorem idxI_first {l : List Int} {x : Int} {k : Nat} (hk : k < l.length) (h0 : (l.take k).contains x = false) (h : l[k] = x) : idxI l x = k := by
  refine idxI_some ?_
  rw [List.idxOf?, List.findIdx?_eq_some_iff_getElem]
  refine ⟨hk, by simpa using h, fun j hj => ?_⟩
  rw [beq_iff_eq]
  intro e
  have : (l.take k).contains x = true := by
    rw [List.contains_iff_mem]
    exact List.mem_take_iff_getElem.2 ⟨j, by omega, e⟩
  rw [h0] at this
  cases this
theorem idxI_miss {l : List Int} {x : Int} (h0 : l.contains x = false) : idxI l x = -1 := by
  refine idxI_no ?_
  rw [List.idxOf?, List.findIdx?_eq_none_iff]
  intro y hy
  rw [beq_eq_false_iff_ne]
  rintro rfl
  rw [Bool.eq_false_iff] at h0
  exact h0 (List.contains_iff_mem.2 hy)
theorem idxI_neg {l : List Int} {x : Int} : idxI l x < 0 ↔ l.contains x = false := by
  constructor
  · intro h
    rw [Bool.eq_false_iff]
    intro hc
    obtain ⟨k, hk⟩ : ∃ k, l.idxOf? x = some k := by
      cases e : l.idxOf? x with
      | some k => exact ⟨k, rfl⟩
      | none =>
        rw [List.idxOf?, List.findIdx?_eq_none_iff] at e
        have := e x (List.contains_iff_mem.1 hc)
        simp at this
    rw [idxI_some hk] at h
    omega
  · intro h; rw [idxI_miss h]; decide
theorem idxI_ge {l : List Int} {x : Int} (h : l.contains x = true) : 0 ≤ idxI l x := by
  rcases Int.lt_or_le (idxI l x) 0 with g | g
  · rw [idxI_neg, h] at g; cases g
  · exact g
set_option maxRecDepth 100000 in
theorem rplace18_any (A : Option Addr) (c : Nat) (l : List Int) (x : Int) (K : Nat → Prop) (w : World) (h : IntS w K (.slice A l.length c) l) (hn : l.length ≤ 1000000000) :
    Calls Tryz.prog 215 #[.slice A l.length c, .int .i64 x] w fun e w' => e = .returned (.int .i64 (idxI l x)) ∧ w = w' := by
  replace h := hide h
  have hhit := hide (fun k (hk : k < l.length) => idxI_first (x := x) hk)
  have hmis := hide (idxI_miss (l := l) (x := x))
  generalize idxI l x = r at *
  go_enter Tryz.func215, Tryz.ntmps215
  go_wp2_with fail
  go_loop [5] (fun s5 => ∃ k : Nat, k ≤ l.length ∧ s5 = .int .i64 k ∧ Hid ((l.take k).contains x = false)) (fun s5 => l.length - (intOf s5).toNat)
  case atStart => exact ⟨0, Nat.zero_le _, by go_num, hide rfl⟩
  case round =>
    obtain ⟨k, hk, rfl, hc⟩ := hrel
    have hk1 : (0 : Int) ≤ (k : Int) := Int.natCast_nonneg _
    by_cases hlt : k < l.length
    · have hki : (k : Int) < (l.length : Int) := by omega
      obtain ⟨b, off, rfl, -, x1⟩ := h.out.at_ hlt
      have hst : Hid ((l.take (k + 1)).contains x = ((l.take k).contains x || l[k] == x)) := hide (by rw [take_snoc' hlt, List.contains_append]; congr 1; rw [List.contains_cons, List.contains_nil, Bool.or_false]; rw [Bool.eq_iff_iff, beq_iff_eq, beq_iff_eq]; exact eq_comm)
      have hin := hide (fun e => hhit.out k hlt hc.out e)
      generalize l[k] = y at *
      cases hy : (y == x) with
      | true =>
        have hr := hin.out (by simpa using hy)
        subst hr
        clear hin hst
        replace hc := hide hc
        replace hhit := hide hhit
        go_wp2
        go_ret
        exact ⟨rfl, rfl⟩
      | false =>
        have hr : Hid ((l.take (k + 1)).contains x = false) := hide (by rw [hst.out, hc.out, hy]; rfl)
        clear hin hst
        replace hc := hide hc
        go_wp2
        go_round
        case rel => exact ⟨k + 1, by omega, by go_num, hr⟩
        case measure => simp [intOf]; omega
    · obtain rfl : k = l.length := by omega
      have hr := hmis.out (by have := hc.out; rwa [List.take_length] at this)
      subst hr
      replace hc := hide hc
      go_wp2
      go_ret
      exact ⟨rfl, rfl⟩
/-- Are numbers those of n things, each once? -/
def permB (l : List Int) (n : Nat) : Bool := decide (l.length = n) && (List.range n).all fun i => l.contains (i : Int)
set_option maxRecDepth 100000 in
theorem rperm18_any (A : Option Addr) (c : Nat) (l : List Int) (n : Nat) (K : Nat → Prop) (w : World) (h : IntS w K (.slice A l.length c) l) (hn : l.length ≤ 1000000000) :
    Calls Tryz.prog 175 #[.slice A l.length c, .int .i64 (n : Int)] w fun e w' => e = .returned (.bool (permB l n)) ∧ w = w' := by
  replace h := hide h
  by_cases hln : l.length = n
  · subst hln
    have hno : Hid (∀ i, i < l.length → l.contains (i : Int) = false → permB l l.length = false) := hide (fun i hi hc => by
      unfold permB
      rw [Bool.and_eq_false_iff]
      right
      rw [List.all_eq_false]
      exact ⟨i, List.mem_range.2 hi, by rw [hc]; decide⟩)
    have hyes : Hid ((∀ i, i < l.length → l.contains (i : Int) = true) → permB l l.length = true) := hide (fun g => by
      unfold permB
      rw [decide_eq_true rfl, Bool.true_and, List.all_eq_true]
      exact fun i hi => g i (List.mem_range.1 hi))
    generalize permB l l.length = r at *
    go_enter Tryz.func175, Tryz.ntmps175
    go_wp2_with fail
    go_loop [5] (fun s5 => ∃ k : Nat, k ≤ l.length ∧ s5 = .int .i64 k ∧ Hid (∀ i, i < k → l.contains (i : Int) = true)) (fun s5 => l.length - (intOf s5).toNat)
    case atStart => exact ⟨0, Nat.zero_le _, by go_num, hide (fun i hi => absurd hi (by omega))⟩
    case round =>
      obtain ⟨k, hk, rfl, hall⟩ := hrel
      have hk1 : (0 : Int) ≤ (k : Int) := Int.natCast_nonneg _
      by_cases hlt : k < l.length
      · have hki : (k : Int) < (l.length : Int) := by omega
        have hcall := hide (rplace18_any A c l (k : Int) K w h.out hn)
        have hneg := hide (idxI_neg (l := l) (x := (k : Int)))
        have hst := hide (fun (g : l.contains (k : Int) = true) => (fun i (hi : i < k + 1) => (by
          by_cases e : i = k
          · subst e; exact g
          · exact hall.out i (by omega) : l.contains (i : Int) = true)))
        have hno2 := hide (hno.out k hlt)
        generalize idxI l (k : Int) = q at *
        go_wp2_with fail
        refine hcall.out.mono ?_
        rintro e w1 ⟨rfl, rfl⟩
        by_cases hq : q < 0
        · have hr := hno2.out (hneg.out.1 hq)
          have hqb : decide (q < 0) = true := by simpa using hq
          subst hr
          clear hneg hst hno2 hq
          replace hall := hide hall
          go_wp2
          go_ret
          exact ⟨rfl, rfl⟩
        · have hqb : decide (q < 0) = false := by simpa using hq
          have hr := hide (hst.out (by
            cases e : l.contains (k : Int) with
            | true => rfl
            | false => exact absurd (hneg.out.2 e) hq))
          clear hneg hst hno2 hq hall
          go_wp2
          go_round
          case rel => exact ⟨k + 1, by omega, by go_num, hr⟩
          case measure => simp [intOf]; omega
      · obtain rfl : k = l.length := by omega
        have hr := hyes.out hall.out
        subst hr
        replace hall := hide hall
        go_wp2
        go_ret
        exact ⟨rfl, rfl⟩
  · have hne : ((l.length : Int) != (n : Int)) = true := by simp; omega
    have hr : permB l n = false := by unfold permB; rw [decide_eq_false hln]; rfl
    rw [hr]
    clear hln hr
    go_enter Tryz.func175, Tryz.ntmps175
    go_wp2
    go_ret
    exact ⟨rfl, rfl⟩
/-- A pair, as an order has it. -/
def ofC (order : List Int) (p : Cho) : Cho := if idxI order p.a > idxI order p.b then ⟨p.key, p.b, p.a⟩ else p
def ofL (H : List Txn) (order : List Int) : List Cho := (pairsL H).map (ofC order)
theorem fmC_congr {α β : Type} {f g : α → Option β} : ∀ {l : List α}, (∀ x ∈ l, f x = g x) → l.filterMap f = l.filterMap g
  | [], _ => rfl
  | x :: l, h => by
    rw [List.filterMap_cons, List.filterMap_cons, h x (by simp), fmC_congr fun y hy => h y (by simp [hy])]
theorem ofL_dec {H : List Txn} {order : List Int} (h : permB order H.length = true) : ofL H order = decW H order := by
  unfold ofL decW
  rw [← List.filterMap_eq_map]
  refine fmC_congr fun p hp => ?_
  obtain ⟨a, b, ha, hb, hab, hbn, -, -⟩ := pairsL_mem hp
  unfold permB at h
  rw [Bool.and_eq_true, List.all_eq_true] at h
  have h1 := h.2 a (List.mem_range.2 (by omega))
  have h2 := h.2 b (List.mem_range.2 hbn)
  rw [← ha] at h1
  rw [← hb] at h2
  have g1 := idxI_ge h1
  have g2 := idxI_ge h2
  unfold turnC ofC
  show some (if _ then _ else _) = _
  cases e1 : order.idxOf? p.a with
  | none => rw [idxI_no e1] at g1; omega
  | some i =>
    cases e2 : order.idxOf? p.b with
    | none => rw [idxI_no e2] at g2; omega
    | some j =>
      rw [idxI_some e1, idxI_some e2]
      dsimp only
      by_cases hij : j < i
      · rw [if_pos (by omega), if_pos hij]
      · rw [if_neg (by omega), if_neg hij]
end Go.Proofs.YtjomijnbnbideaaGreatDoor
