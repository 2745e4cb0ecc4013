/-
  Walks: layer 9's reference: are two rows of choices the same?
-/
import Derived.Test.YtfhnamomiaekdaaGreatT08
import Derived.Test.YtfhnamomiaekdaaGreatT10
import Derived.Test.YtfhnamomiaekdaaGreatT23
set_option linter.unusedVariables false
set_option linter.unusedSimpArgs false
namespace Go.Proofs.YtfhnamomiaekdaaGreat
open Go.RowKit Go.Inq
set_option maxHeartbeats 2000000
attribute [local go_sem ↓] Go.wp_at_zero Go.wp_at_succ

theorem rcho09_any (A1 A2 : Option Addr) (c1 c2 : Nat) (l m : List Cho) (K1 K2 : Nat → Prop) (w : World) (h1 : ChoS w K1 (.slice A1 l.length c1) l) (h2 : ChoS w K2 (.slice A2 m.length c2) m) (hl : l.length ≤ 1000000000) (hm : m.length ≤ 1000000000) :
    Calls Tryz.prog 13 #[.slice A1 l.length c1, .slice A2 m.length c2] w fun e w' => e = .returned (.bool (decide (l = m))) ∧ Below w.heap.size w w' := by
  by_cases hlen : l.length = m.length
  · have hne := hide (fun k (g1 : k < l.length) (g2 : k < m.length) => ne_take g1 g2)
    have hst := hide (fun k (g1 : k < l.length) (g2 : k < m.length) => eq_take g1 g2)
    have hend := hide (fun (e : l.take l.length = m.take l.length) => (by rw [List.take_length, hlen, List.take_length] at e; exact e : l = m))
    have hn1 : ((l.length : Int) != (m.length : Int)) = false := by rw [hlen]; exact bne_self_eq_false _
    have hle := hide hlen
    clear hlen
    replace h1 := hide h1
    replace h2 := hide h2
    go_enter Tryz.func13, Tryz.ntmps13
    go_wp2
    go_loopw [5] (fun s5 wr => ∃ k : Nat, k ≤ l.length ∧ s5 = .int .i64 k ∧ Hid (l.take k = m.take k) ∧ Below w.heap.size w wr) (fun s5 _ => l.length - (intOf s5).toNat)
    case atStart => exact ⟨0, Nat.zero_le _, by go_num, hide (by simp), Below.refl _ _⟩
    case round =>
      obtain ⟨k, hk, rfl, htk, hb⟩ := hrel
      have hk1 : (0 : Int) ≤ (k : Int) := Int.natCast_nonneg _
      by_cases hlt : k < l.length
      · have hi2 : (k : Int) < (l.length : Int) := by omega
        have g1 : k < m.length := by rw [← hle.out]; exact hlt
        have hi3 : (k : Int) < (m.length : Int) := by omega
        obtain ⟨b1, o1, rfl, _, x0, x1, x2⟩ := ChoS.at_ h1.out hlt
        obtain ⟨b2, o2, rfl, _, y0, y1, y2⟩ := ChoS.at_ h2.out g1
        replace x0 := (hb.cell (p := ⟨b1, o1 + k * 3, none⟩) (block_lt_of_cell x0)).trans x0
        replace x1 := (hb.cell (p := ⟨b1, o1 + k * 3 + 1, none⟩) (block_lt_of_cell x1)).trans x1
        replace x2 := (hb.cell (p := ⟨b1, o1 + k * 3 + 2, none⟩) (block_lt_of_cell x2)).trans x2
        replace y0 := (hb.cell (p := ⟨b2, o2 + k * 3, none⟩) (block_lt_of_cell y0)).trans y0
        replace y1 := (hb.cell (p := ⟨b2, o2 + k * 3 + 1, none⟩) (block_lt_of_cell y1)).trans y1
        replace y2 := (hb.cell (p := ⟨b2, o2 + k * 3 + 2, none⟩) (block_lt_of_cell y2)).trans y2
        have hn := hide (hne.out k hlt g1)
        have hs := hide (hst.out k hlt g1 htk.out)
        generalize l[k] = x at *
        generalize m[k] = y at *
        obtain ⟨xk, xa, xb⟩ := x
        obtain ⟨yk, ya, yb⟩ := y
        dsimp only at *
        by_cases q0 : xk = yk
        · have q0b : (xk == yk) = true := by simpa using q0
          by_cases q1 : xa = ya
          · have q1b : (xa == ya) = true := by simpa using q1
            by_cases q2 : xb = yb
            · have q2b : (xb == yb) = true := by simpa using q2
              have hr := hide (hs.out (by rw [q0, q1, q2]))
              clear hn hs q0 q1 q2
              go_wp2
              go_quiet (fail)
              go_wp2
              go_roundw
              case rel => exact ⟨k + 1, by omega, by go_num, hr, hb.trans ⟨rfl, rfl, rfl, Nat.le_refl _, fun _ _ => rfl⟩⟩
              case measure => simp [intOf]; omega
            · have q2b : (xb == yb) = false := by simpa using q2
              have hr2 : Hid (decide (l = m) = false) := hide (decide_eq_false (hn.out (fun e => q2 (by injection e))))
              clear hn hs q0 q1 q2
              go_wp2
              go_quiet (fail)
              go_wp2
              go_ret
              exact ⟨ret_bool hr2.out.symm, hb.trans ⟨rfl, rfl, rfl, Nat.le_refl _, fun _ _ => rfl⟩⟩

          · have q1b : (xa == ya) = false := by simpa using q1
            have hr2 : Hid (decide (l = m) = false) := hide (decide_eq_false (hn.out (fun e => q1 (by injection e))))
            clear hn hs q0 q1
            go_wp2
            go_quiet (fail)
            go_wp2
            go_ret
            exact ⟨ret_bool hr2.out.symm, hb.trans ⟨rfl, rfl, rfl, Nat.le_refl _, fun _ _ => rfl⟩⟩

        · have q0b : (xk == yk) = false := by simpa using q0
          have hr2 : Hid (decide (l = m) = false) := hide (decide_eq_false (hn.out (fun e => q0 (by injection e))))
          clear hn hs q0
          go_wp2
          go_quiet (fail)
          go_wp2
          go_ret
          exact ⟨ret_bool hr2.out.symm, hb.trans ⟨rfl, rfl, rfl, Nat.le_refl _, fun _ _ => rfl⟩⟩
      · obtain rfl : k = l.length := by omega
        have hr2 : Hid (decide (l = m) = true) := hide (decide_eq_true (hend.out htk.out))
        go_wp2
        go_ret
        exact ⟨ret_bool hr2.out.symm, hb⟩
  · have hn1 : ((l.length : Int) != (m.length : Int)) = true := bne_iff_ne.2 (by omega)
    have hr2 : Hid (decide (l = m) = false) := hide (decide_eq_false fun e => hlen (by rw [e]))
    clear hlen
    go_enter Tryz.func13, Tryz.ntmps13
    go_wp2
    go_ret
    exact ⟨ret_bool hr2.out.symm, Below.refl _ _⟩
end Go.Proofs.YtfhnamomiaekdaaGreat

namespace Go.Inq
open Go
section
variable {ops : Array Oper}
def hasM (ms : List Nat) (i j : Nat) : Bool := (ms.getD i 0).testBit j
/-- Each bit of a mask has its reason. -/
def maskB (ops : Array Oper) (ms : List Nat) : Bool := (List.range ops.size).all fun n => (List.range n).all fun i => !hasM ms n i || (match ops[n]? with
  | some o => o.after.any fun e => Region.binds .any e && (decide (e.on < n) && (e.on == i || (decide (i < e.on) && hasM ms e.on i)))
  | none => false)
theorem waits_mono {md : Region.Mode} : ∀ {f f' j i : Nat}, waitsT md ops f j i = true → f ≤ f' → waitsT md ops f' j i = true
  | 0, _, _, _, h, _ => by simp [waitsT] at h
  | f + 1, 0, _, _, _, hf => by omega
  | f + 1, f' + 1, j, i, h, hf => by
    unfold waitsT at h ⊢
    cases ho : ops[j]? with
    | none => rw [ho] at h; exact h
    | some o =>
      rw [ho] at h
      dsimp only at h ⊢
      rw [← Array.any_toList, List.any_eq_true] at h ⊢
      obtain ⟨e, he, h2⟩ := h
      refine ⟨e, he, ?_⟩
      rw [Bool.and_eq_true, Bool.or_eq_true] at h2 ⊢
      exact ⟨h2.1, h2.2.imp id fun g => waits_mono g (by omega)⟩
theorem mask_waits {ms : List Nat} (h : maskB ops ms = true) : ∀ (n : Nat), n < ops.size → ∀ i, i < n → hasM ms n i = true → waitsT .any ops (n + 1) n i = true := by
  intro n
  induction n using Nat.strongRecOn with
  | ind n ih =>
    intro hn i hi hm
    unfold maskB at h
    have h1 := List.all_eq_true.1 (List.all_eq_true.1 h n (List.mem_range.2 hn)) i (List.mem_range.2 hi)
    rw [hm] at h1
    unfold waitsT
    cases ho : ops[n]? with
    | none => rw [ho] at h1; simp at h1
    | some o =>
      rw [ho] at h1
      dsimp only at h1 ⊢
      simp only [Bool.not_true, Bool.false_or] at h1
      rw [← Array.any_toList, List.any_eq_true] at h1 ⊢
      obtain ⟨e, he, h2⟩ := h1
      refine ⟨e, he, ?_⟩
      rw [Bool.and_eq_true, Bool.and_eq_true, decide_eq_true_eq, Bool.or_eq_true, Bool.and_eq_true, decide_eq_true_eq] at h2
      rw [Bool.and_eq_true, Bool.or_eq_true]
      refine ⟨h2.1, h2.2.2.imp id fun g => ?_⟩
      exact waits_mono (ih e.on h2.2.1 (by omega) i g.1 g.2) (by omega)
def floatB2 (ops : Array Oper) (ms : List Nat) : Bool := maskB ops ms && (Region.noSelect ops && (List.range ops.size).all fun i => match ops[i]? with
    | none => true
    | some o => (o.after.all fun e => !Region.binds .any e || decide (e.on < i)) &&
      (List.range ops.size).all fun j => match ops[j]? with
        | none => true
        | some oj => match oj.dst with
          | none => true
          | some t => (i == j || o.dst != some t) && (!(readsT ops o).contains t || (decide (j < i) && hasM ms i j) || (decide (i < j) && hasM ms j i) || i == j))
theorem floatB_of {ms : List Nat} (h : floatB2 ops ms = true) : floatB ops = true := by
  unfold floatB2 at h
  rw [Bool.and_eq_true, Bool.and_eq_true] at h
  obtain ⟨hm, hs, hall⟩ := h
  have hw := mask_waits hm
  unfold floatB
  rw [Bool.and_eq_true]
  refine ⟨hs, List.all_eq_true.2 fun i hi => ?_⟩
  have hi' := List.mem_range.1 hi
  have h1 := List.all_eq_true.1 hall i hi
  cases ho : ops[i]? with
  | none => rfl
  | some o =>
    rw [ho] at h1
    dsimp only at h1 ⊢
    rw [Bool.and_eq_true] at h1 ⊢
    refine ⟨h1.1, List.all_eq_true.2 fun j hj => ?_⟩
    have hj' := List.mem_range.1 hj
    have h2 := List.all_eq_true.1 h1.2 j hj
    cases hoj : ops[j]? with
    | none => rfl
    | some oj =>
      rw [hoj] at h2
      dsimp only at h2 ⊢
      cases ht : oj.dst with
      | none => rfl
      | some t =>
        rw [ht] at h2
        dsimp only at h2 ⊢
        rw [Bool.and_eq_true] at h2 ⊢
        refine ⟨h2.1, ?_⟩
        have h3 := h2.2
        rw [Bool.or_eq_true, Bool.or_eq_true, Bool.or_eq_true, Bool.and_eq_true, Bool.and_eq_true, decide_eq_true_eq, decide_eq_true_eq] at h3 ⊢
        rcases h3 with ((g | g) | g) | g
        · exact .inl (.inl (.inl g))
        · exact .inl (.inl (.inr ⟨g.1, waits_mono (hw i hi' j g.1 g.2) (by omega)⟩))
        · exact .inl (.inr ⟨g.1, waits_mono (hw j hj' i g.1 g.2) (by omega)⟩)
        · exact .inr g
end
end Go.Inq

namespace Go.Inq
open Go
section
variable {P : Program} {Q : Exit → Act → World → Prop} {a : Act}
theorem wp_region_relM {id : Nat} {w : World} {l : List Oper} (ms : List Nat) (Rs : Nat → (Nat → Value) → World → Prop) (S : World → Prop) (St : Nat → World → World → Prop) (dp : Nat → List Nat) (hm : P.follows .mixedOrders = true) (hB : floatB2 l.toArray ms = true)
    (hdp : ((List.range l.length).all fun i => (dp i).all fun j => decide (j < i) && hasM ms i j) = true) (hdp0 : ∀ i, l.length ≤ i → dp i = [])
    (hcg : ∀ j vs vs' w, (∀ k, k = j ∨ k ∈ dp j → vs k = vs' k) → Rs j vs w → Rs j vs' w) (hR : ∀ i j vs w w', j ≠ i → Rs j vs w → St i w w' → Rs j vs w') (hS : S w.drew)
    (hstep : ∀ i o, l[i]? = some o → ∀ (vs : Nat → Value) w, S w → (∀ j ∈ dp i, Rs j vs w) → wpList P l.toArray (RelEnd (fun v w' => Rs i (updV vs i v) w' ∧ S w' ∧ St i w w' ) (acV l.toArray a vs i) o.dst) [o] (acV l.toArray a vs i) w)
    (hend : ∀ (vs : Nat → Value) w, S w → (∀ j, j < l.length → Rs j vs w) → Q .normal (acV l.toArray a vs l.length) w) : (Code.region id l.toArray true).wp P Q a w := by
  have hsz : l.toArray.size = l.length := by simp
  have hmb : maskB l.toArray ms = true := by
    unfold floatB2 at hB
    rw [Bool.and_eq_true] at hB
    exact hB.1
  refine wp_region_rel Rs S St dp hm (floatB_of hB) (List.all_eq_true.2 fun i hi => List.all_eq_true.2 fun j hj => ?_) hdp0 (fun _ => []) (List.all_eq_true.2 fun i hi => rfl) hcg (fun i j vs w w' h1 _ h2 h3 => hR i j vs w w' h1 h2 h3) hS hstep fun vs w h1 h2 => hend vs w h1 fun j hj => h2 j hj fun i _ hn => by cases hn
  have h1 := List.all_eq_true.1 (List.all_eq_true.1 hdp i hi) j hj
  have hi' := List.mem_range.1 hi
  rw [Bool.and_eq_true, decide_eq_true_eq] at h1
  exact waits_mono (mask_waits hmb i (by rw [hsz]; exact hi') j h1.1 h1.2) (by omega)
end
end Go.Inq
