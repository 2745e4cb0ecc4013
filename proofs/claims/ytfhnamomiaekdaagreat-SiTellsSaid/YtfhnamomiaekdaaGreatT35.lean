/-
  Walks: SiTells.
-/
import Derived.Test.YtfhnamomiaekdaaGreatT16
import Derived.Test.YtfhnamomiaekdaaGreatT01
import Derived.Test.YtfhnamomiaekdaaGreatT17
import Derived.Test.YtfhnamomiaekdaaGreatT12
import Derived.Test.YtfhnamomiaekdaaGreatT08
import Derived.Test.YtfhnamomiaekdaaGreatT22
import Derived.Test.YtfhnamomiaekdaaGreatT32
import Derived.Test.YtfhnamomiaekdaaGreatT33
import Derived.Test.YtfhnamomiaekdaaGreatT34
set_option linter.unusedVariables false
set_option linter.unusedSimpArgs false
namespace Go.Proofs.YtfhnamomiaekdaaGreat
open Go.RowKit Go.Inq
set_option maxHeartbeats 8000000
attribute [local go_sem ↓] Go.wp_at_zero Go.wp_at_succ

def RsQ (ws : List (Value → World → Prop)) (j : Nat) (vs : Nat → Value) (W : World) : Prop :=
  match ws[j]? with
  | some p => p (vs j) W
  | none => True
theorem rsq_cg {ws : List (Value → World → Prop)} {dp : Nat → List Nat} : ∀ j (vs vs' : Nat → Value) w, (∀ k, k = j ∨ k ∈ dp j → vs k = vs' k) → RsQ ws j vs w → RsQ ws j vs' w := by
  intro j vs vs' w hk h
  unfold RsQ at h ⊢
  rw [← hk j (.inl rfl)]; exact h
theorem rsq_keep {ws : List (Value → World → Prop)} (hst : ∀ p ∈ ws, ∀ v (W W' : World), p v W → Below W.heap.size W W' → p v W') : ∀ i j (vs : Nat → Value) w w', j ≠ i → RsQ ws j vs w → (fun (_ : Nat) (W W' : World) => Below W.heap.size W W') i w w' → RsQ ws j vs w' := by
  intro i j vs w w' _ h hs
  unfold RsQ at h ⊢
  cases hw : ws[j]? with
  | none => trivial
  | some p =>
    rw [hw] at h
    exact hst p (List.mem_of_getElem? hw) _ _ _ h hs
/-- Words: a value; choices; rows. -/
inductive WdQ where
  | v (x : Value) : WdQ
  | c (l : List Cho) : WdQ
  | r (l : List SRow) : WdQ
def WdQ.p : WdQ → Value → World → Prop
  | .v x, u, _ => u = x
  | .c l, u, W => ∃ A c, u = .slice A l.length c ∧ ChoS W (Old W) (.slice A l.length c) l
  | .r l, u, W => ∃ A c, u = .slice A l.length c ∧ RowS W (Old W) (.slice A l.length c) l
theorem WdQ.st : ∀ (q : WdQ) (v : Value) (W W' : World), q.p v W → Below W.heap.size W W' → q.p v W'
  | .v _, _, _, _, h, _ => h
  | .c _, _, _, _, h, hb => by obtain ⟨A, c, h1, h2⟩ := h; exact ⟨A, c, h1, h2.below hb⟩
  | .r _, _, _, _, h, hb => by obtain ⟨A, c, h1, h2⟩ := h; exact ⟨A, c, h1, h2.below hb⟩
theorem wdq_st {l : List WdQ} : ∀ p ∈ l.map WdQ.p, ∀ v (W W' : World), p v W → Below W.heap.size W W' → p v W' := by
  intro p hp
  obtain ⟨q, _, rfl⟩ := List.mem_map.1 hp
  exact q.st
def wsQ (A Ar A2 Ap : Option Addr) (n c m cr c2 k cp : Nat) (r q : Bool) (C : List Cho) (L : List SRow) : List WdQ := [.v (.agg #[.slice A n c]), .v (.slice Ar m cr), .v (.bool r), .v (.agg #[.slice A n c]), .v (.slice A2 m c2), .v (.bool r), .v (.bool true), .v (.bool true), .v (.agg #[.slice A n c]), .v (.slice Ar m cr), .v (.bool q), .v (.agg #[.slice A n c]), .v (.slice A2 m c2), .v (.bool q), .v (.bool true), .v (.bool true), .v (.bool true), .v (.agg #[.slice A n c]), .v (.slice Ar m cr), .c C, .v (.agg #[.slice A n c]), .v (.slice A2 m c2), .c C, .v (.bool true), .v (.bool true), .v (.bool true), .v (.agg #[.slice A n c]), .v (.slice Ap k cp), .r L, .r L, .v (.agg #[.slice A n c]), .v (.slice Ap k cp), .r L, .v (.bool true), .v (.bool true), .v (.bool true)]
def dpQ : Nat → List Nat
  | 2 => [0, 1]
  | 5 => [3, 4]
  | 6 => [2, 5]
  | 7 => [6]
  | 8 => [7]
  | 9 => [7]
  | 10 => [7, 8, 9]
  | 11 => [7]
  | 12 => [7]
  | 13 => [7, 11, 12]
  | 14 => [7, 10, 13]
  | 15 => [7, 14]
  | 16 => [15]
  | 17 => [16]
  | 18 => [16]
  | 19 => [16, 17, 18]
  | 20 => [16]
  | 21 => [16]
  | 22 => [16, 20, 21]
  | 23 => [16, 19, 22]
  | 24 => [16, 23]
  | 25 => [24]
  | 26 => [25]
  | 27 => [25]
  | 28 => [25, 26, 27]
  | 29 => [25, 28]
  | 30 => [25]
  | 31 => [25]
  | 32 => [25, 30, 31]
  | 33 => [25, 29, 32]
  | 34 => [25, 33]
  | 35 => [34]
  | _ => []
theorem dpQ_end : ∀ i, 36 ≤ i → dpQ i = [] := by
  intro i hi
  match i, hi with
  | n + 36, _ => rfl
set_option maxRecDepth 100000 in
theorem siTells_any (A : Option Addr) (c : Nat) (H : List Txn) (Ar : Option Addr) (cr : Nat) (R : List SRow) (Ap : Option Addr) (cp : Nat) (π : List Int) (w : World) (h : TxnS w (Old w) (.slice A H.length c) H) (hn : H.length ≤ maxLen) (hns : ∀ t ∈ H, t.writes.length ≤ maxLen ∧ t.reads.length ≤ maxLen) (hR : RowS w (Old w) (.slice Ar R.length cr) R) (hRl : R.length ≤ maxLen) (hRr : ∀ r ∈ R, r.l.length ≤ maxLen) (hπ : IntS w (Old w) (.slice Ap π.length cp) π) (hpl : π.length ≤ maxLen) :
    Calls Tryz.prog 3 #[.agg #[.slice A H.length c], .slice Ar R.length cr, .slice Ap π.length cp] w fun e w' => e = .returned (.bool true) ∧ Below w.heap.size w w' := by
  have hA : Below w.heap.size w (w.alloc (.cells #[.slice A H.length c] 24)) := (Below.refl _ _).alloc (Nat.le_refl _) _
  have hT0 := h.below hA
  have hR0 := hR.below hA
  have hP0 := hπ.below hA
  have kh : Blk (w.alloc (.cells #[.slice A H.length c] 24)) w.heap.size 24 #[.slice A H.length c] := Blk.new _ _ _
  replace hn := hide hn
  replace hns := hide hns
  replace h := hide h
  replace hR := hide hR
  replace hπ := hide hπ
  replace hRl := hide hRl
  replace hRr := hide fun i (hi : i < R.length) => hRr _ (List.getElem_mem hi)
  go_enter Tryz.func3, Tryz.ntmps3
  go_wp2_with fail
  generalize w.alloc (.cells #[.slice A H.length c] 24) = W0 at *
  refine (awake21_any W0).mono ?_
  rintro e w1 ⟨rfl, hb1⟩
  have hb := hA.trans (hb1.mono hA.size)
  have hT1 := hT0.below hb1
  have hR1 := hR0.below hb1
  have hP1 := hP0.below hb1
  replace kh := kh.below hb1 kh.lt
  have c0 := kh.cell 0
  simp only [List.getElem?_toArray, List.getElem?_cons_zero] at c0
  clear hT0 hR0 hP0 hA hb1
  go_wp2_with fail
  refine (few8n_any 10 A c H w1 hT1 hn.out hns.out).mono ?_
  rintro e w2 ⟨rfl, hb2⟩
  replace hb := hb.trans (hb2.mono hb.size)
  have hT2 := hide (hT1.below hb2)
  have hR2 := hide (hR1.below hb2)
  have hP2 := hide (hP1.below hb2)
  replace kh := kh.below hb2 kh.lt
  clear hT1 hR1 hP1 hb2 c0 hn hns
  cases hf : fewN 10 H with
  | false =>
    go_wp2
    go_ret
    exact ⟨rfl, hb⟩
  | true =>
    have hsm := hide (fewN_small (by omega) hf)
    clear hf
    by_cases hlp : 20 < R.length
    · have hq : decide ((R.length : Int) > 20) = true := decide_eq_true (by omega)
      have hq2 : decide (20 < R.length) = true := decide_eq_true hlp
      clear hlp
      go_wp2
      go_ret
      exact ⟨rfl, hb⟩
    · have hq : decide ((R.length : Int) > 20) = false := decide_eq_false (by omega)
      have hq2 : decide (20 < R.length) = false := decide_eq_false hlp
      have hp4 : R.length ≤ 20 := by omega
      clear hlp hRl
      by_cases hlo : 40 < π.length
      · have hq5 : decide ((π.length : Int) > 40) = true := decide_eq_true (by omega)
        have hq6 : decide (40 < π.length) = true := decide_eq_true hlo
        clear hlo
        go_wp2
        go_ret
        exact ⟨rfl, hb⟩
      · have hq5 : decide ((π.length : Int) > 40) = false := decide_eq_false (by omega)
        have hq6 : decide (40 < π.length) = false := decide_eq_false hlo
        have hp5 : π.length ≤ 40 := by omega
        clear hlo hpl
        go_wp2_with fail
        have hrr := hide fun i (hi : i < R.length) => hRr.out i hi
        clear hRr
        go_loopw [9] (fun s9 wr => ∃ k : Nat, k ≤ R.length ∧ s9 = .int .i64 k ∧ Hid (∀ i (hi : i < R.length), i < k → R[i].l.length ≤ 40) ∧ wr = w2) (fun s9 _ => R.length - (intOf s9).toNat)
        case atStart => exact ⟨0, Nat.zero_le _, by go_num, hide fun i _ h => absurd h (Nat.not_lt_zero _), rfl⟩
        case round =>
          obtain ⟨k, hk, rfl, hall, rfl⟩ := hrel
          have hi1 : (0 : Int) ≤ (k : Int) := Int.natCast_nonneg _
          by_cases hlt : k < R.length
          · have hi2 : (k : Int) < (R.length : Int) := by omega
            obtain ⟨b, off, Ay, cy, rfl, _, -, d1, -⟩ := hR2.out.at_ hlt
            have hyl := hrr.out k hlt
            by_cases h40 : 40 < R[k].l.length
            · have hq3 : decide ((R[k].l.length : Int) > 40) = true := decide_eq_true (by omega)
              have hq4 : decide (40 < R[k].l.length) = true := decide_eq_true h40
              clear h40
              go_wp2
              go_ret
              exact ⟨rfl, hb⟩
            · have hq3 : decide ((R[k].l.length : Int) > 40) = false := decide_eq_false (by omega)
              have hq4 : decide (40 < R[k].l.length) = false := decide_eq_false h40
              have hall2 : Hid (∀ i (hi : i < R.length), i < k + 1 → R[i].l.length ≤ 40) := hide fun i hi h => by
                by_cases e : i = k
                · subst e; omega
                · exact hall.out i hi (by omega)
              clear h40 hall
              go_wp2
              go_roundw
              case rel => exact ⟨k + 1, by omega, by go_num, hall2, by trivial⟩
              case measure => simp [intOf]; omega
          · obtain rfl : k = R.length := by omega
            have hfr : Hid (FitS R) := hide ⟨by omega, fun r hr => by
              obtain ⟨i, hi, rfl⟩ := List.getElem_of_mem hr
              have := hall.out i hi hi
              omega⟩
            clear hlt hall hrr hk
            go_wp2_with fail
            refine (plain21_any Ar cr R _ hR2.out (by omega)).mono ?_
            rintro e w3 ⟨A2, c2, rfl, hS3, hb3⟩
            have hT3 := hide (hT2.out.below hb3)
            have hR3 := hide (hR2.out.below hb3)
            have hP3 := hide (hP2.out.below hb3)
            have hS3 := hide hS3
            have hb4 := hb.trans (hb3.mono hb.size)
            replace kh := kh.below hb3 kh.lt
            have hfl : Hid (FitS (rowsL H π)) := hide (fitS_rows (by omega))
            have hcl : Hid ((choS H R).length ≤ 1000000000) := hide (by
              cases hr : rightS H R with
              | false => rw [(choS_no hr).1]; exact Nat.zero_le _
              | true =>
                have := choTo_len (R := R) (((rightH_iff H).1 (rightC_hist (choS_rightC hr))).1) R.length (Nat.le_refl _)
                unfold choTo at this
                rw [List.take_length] at this
                unfold choS
                rw [if_pos hr]
                have h2 : R.length * 1024 ≤ 20 * 1024 := Nat.mul_le_mul_right _ hp4
                omega)
            clear hb3 hb hT2 hR2 hP2
            have hch := hide (fun W (hB : Below w3.heap.size w3 W) => (kh.below hB kh.lt).cell 0)
            have f1 := hide (fun W (hB : Below w3.heap.size w3 W) => rightS_any A c H Ar cr R W (hT3.out.below hB) hsm.out (hR3.out.below hB) hfr.out)
            have f2 := hide (fun W (hB : Below w3.heap.size w3 W) => rright21_any A c H A2 c2 R W (hT3.out.below hB) hsm.out (hS3.out.below hB) hfr.out)
            have f3 := hide (fun W (hB : Below w3.heap.size w3 W) => checkS_any A c H Ar cr R W (hT3.out.below hB) hsm.out (hR3.out.below hB) hfr.out)
            have f4 := hide (fun W (hB : Below w3.heap.size w3 W) => rchk21_any A c H A2 c2 R W (hT3.out.below hB) hsm.out (hS3.out.below hB) hfr.out)
            have f5 := hide (fun W (hB : Below w3.heap.size w3 W) => choS_any A c H Ar cr R W (hT3.out.below hB) hsm.out (hR3.out.below hB) hfr.out)
            have f6 := hide (fun W (hB : Below w3.heap.size w3 W) => rcho21_any A c H A2 c2 R W (hT3.out.below hB) hsm.out (hS3.out.below hB) hfr.out)
            have f7 := hide (fun W (hB : Below w3.heap.size w3 W) => rowsS_any A c H Ap cp π W (hT3.out.below hB) hsm.out (hP3.out.below hB) (by omega))
            have f8 := hide (fun W (hB : Below w3.heap.size w3 W) => rrows21_any A c H Ap cp π W (hT3.out.below hB) hsm.out (hP3.out.below hB) (by omega))
            generalize rightS H R = r at *
            generalize checkS H R = q at *
            generalize choS H R = C at *
            generalize rowsL H π = L at *
            have hbool : ∀ b : Bool, (b == b) = true := fun b => by cases b <;> rfl
            have hbr := hbool r
            have hbq := hbool q
            clear hbool
            go_upto_region 13 with fail
            refine wp_region_relM [0, 0, 3, 0, 0, 31, 63, 127, 255, 255, 1023, 255, 255, 8191, 16383, 32767, 65535, 131071, 131071, 524287, 131071, 131071, 4194303, 8388607, 16777215, 33554431, 67108863, 67108863, 268435455, 536870911, 67108863, 67108863, 4294967295, 8589934591, 17179869183, 34359738367] (RsQ ((wsQ A Ar A2 Ap H.length c R.length cr c2 π.length cp r q C L).map WdQ.p)) (fun W => Below w3.heap.size w3 W) (fun (_ : Nat) (W W' : World) => Below W.heap.size W W') dpQ (by kernel_rfl) (by kernel_rfl) (by kernel_rfl) dpQ_end rsq_cg (rsq_keep wdq_st) (Below.refl _ _).drew ?hstep ?hend
            case hstep =>
              intro i o ho vs W hB hd
              match i, ho with
              | 0, ho =>
                simp only [List.getElem?_cons_zero, List.getElem?_cons_succ, Option.some.injEq] at ho
                subst ho
                simp only [acV, List.getElem?_toArray, List.getElem?_cons_zero, List.getElem?_cons_succ, Act.put, List.setIfInBounds_toArray, List.set_cons_zero, List.set_cons_succ]
                have v0 := hch.out W hB
                simp only [List.getElem?_toArray, List.getElem?_cons_zero] at v0
                go_wp2
                exact ⟨rfl, _, rfl, rfl, hB, Below.refl _ _⟩
              | 1, ho =>
                simp only [List.getElem?_cons_zero, List.getElem?_cons_succ, Option.some.injEq] at ho
                subst ho
                simp only [acV, List.getElem?_toArray, List.getElem?_cons_zero, List.getElem?_cons_succ, Act.put, List.setIfInBounds_toArray, List.set_cons_zero, List.set_cons_succ]
                go_wp2
                exact ⟨rfl, _, rfl, rfl, hB, Below.refl _ _⟩
              | 2, ho =>
                have e0 : vs 0 = .agg #[.slice A H.length c] := hd 0 (by simp [dpQ])
                have e1 : vs 1 = .slice Ar R.length cr := hd 1 (by simp [dpQ])
                simp only [List.getElem?_cons_zero, List.getElem?_cons_succ, Option.some.injEq] at ho
                subst ho
                simp only [acV, List.getElem?_toArray, List.getElem?_cons_zero, List.getElem?_cons_succ, Act.put, List.setIfInBounds_toArray, List.set_cons_zero, List.set_cons_succ]
                rw [e0, e1]
                go_wp2_with fail
                refine Calls.mono (f1.out W hB) ?_
                rintro e W2 ⟨rfl, b3⟩
                go_wp2
                exact ⟨rfl, _, rfl, rfl, hB.trans (b3.mono hB.size), b3⟩
              | 3, ho =>
                simp only [List.getElem?_cons_zero, List.getElem?_cons_succ, Option.some.injEq] at ho
                subst ho
                simp only [acV, List.getElem?_toArray, List.getElem?_cons_zero, List.getElem?_cons_succ, Act.put, List.setIfInBounds_toArray, List.set_cons_zero, List.set_cons_succ]
                have v0 := hch.out W hB
                simp only [List.getElem?_toArray, List.getElem?_cons_zero] at v0
                go_wp2
                exact ⟨rfl, _, rfl, rfl, hB, Below.refl _ _⟩
              | 4, ho =>
                simp only [List.getElem?_cons_zero, List.getElem?_cons_succ, Option.some.injEq] at ho
                subst ho
                simp only [acV, List.getElem?_toArray, List.getElem?_cons_zero, List.getElem?_cons_succ, Act.put, List.setIfInBounds_toArray, List.set_cons_zero, List.set_cons_succ]
                go_wp2
                exact ⟨rfl, _, rfl, rfl, hB, Below.refl _ _⟩
              | 5, ho =>
                have e3 : vs 3 = .agg #[.slice A H.length c] := hd 3 (by simp [dpQ])
                have e4 : vs 4 = .slice A2 R.length c2 := hd 4 (by simp [dpQ])
                simp only [List.getElem?_cons_zero, List.getElem?_cons_succ, Option.some.injEq] at ho
                subst ho
                simp only [acV, List.getElem?_toArray, List.getElem?_cons_zero, List.getElem?_cons_succ, Act.put, List.setIfInBounds_toArray, List.set_cons_zero, List.set_cons_succ]
                rw [e3, e4]
                go_wp2_with fail
                refine Calls.mono (f2.out W hB) ?_
                rintro e W2 ⟨rfl, b3⟩
                go_wp2
                exact ⟨rfl, _, rfl, rfl, hB.trans (b3.mono hB.size), b3⟩
              | 6, ho =>
                have e2 : vs 2 = .bool r := hd 2 (by simp [dpQ])
                have e5 : vs 5 = .bool r := hd 5 (by simp [dpQ])
                simp only [List.getElem?_cons_zero, List.getElem?_cons_succ, Option.some.injEq] at ho
                subst ho
                simp only [acV, List.getElem?_toArray, List.getElem?_cons_zero, List.getElem?_cons_succ, Act.put, List.setIfInBounds_toArray, List.set_cons_zero, List.set_cons_succ]
                rw [e2, e5]
                go_wp2
                exact ⟨rfl, _, rfl, rfl, hB, Below.refl _ _⟩
              | 7, ho =>
                have e6 : vs 6 = .bool true := hd 6 (by simp [dpQ])
                simp only [List.getElem?_cons_zero, List.getElem?_cons_succ, Option.some.injEq] at ho
                subst ho
                simp only [acV, List.getElem?_toArray, List.getElem?_cons_zero, List.getElem?_cons_succ, Act.put, List.setIfInBounds_toArray, List.set_cons_zero, List.set_cons_succ]
                rw [e6]
                go_wp2
                exact ⟨rfl, _, rfl, rfl, hB, Below.refl _ _⟩
              | 8, ho =>
                have e7 : vs 7 = .bool true := hd 7 (by simp [dpQ])
                simp only [List.getElem?_cons_zero, List.getElem?_cons_succ, Option.some.injEq] at ho
                subst ho
                simp only [acV, List.getElem?_toArray, List.getElem?_cons_zero, List.getElem?_cons_succ, Act.put, List.setIfInBounds_toArray, List.set_cons_zero, List.set_cons_succ]
                rw [e7]
                have v0 := hch.out W hB
                simp only [List.getElem?_toArray, List.getElem?_cons_zero] at v0
                go_wp2
                exact ⟨rfl, _, rfl, rfl, hB, Below.refl _ _⟩
              | 9, ho =>
                have e7 : vs 7 = .bool true := hd 7 (by simp [dpQ])
                simp only [List.getElem?_cons_zero, List.getElem?_cons_succ, Option.some.injEq] at ho
                subst ho
                simp only [acV, List.getElem?_toArray, List.getElem?_cons_zero, List.getElem?_cons_succ, Act.put, List.setIfInBounds_toArray, List.set_cons_zero, List.set_cons_succ]
                rw [e7]
                go_wp2
                exact ⟨rfl, _, rfl, rfl, hB, Below.refl _ _⟩
              | 10, ho =>
                have e7 : vs 7 = .bool true := hd 7 (by simp [dpQ])
                have e8 : vs 8 = .agg #[.slice A H.length c] := hd 8 (by simp [dpQ])
                have e9 : vs 9 = .slice Ar R.length cr := hd 9 (by simp [dpQ])
                simp only [List.getElem?_cons_zero, List.getElem?_cons_succ, Option.some.injEq] at ho
                subst ho
                simp only [acV, List.getElem?_toArray, List.getElem?_cons_zero, List.getElem?_cons_succ, Act.put, List.setIfInBounds_toArray, List.set_cons_zero, List.set_cons_succ]
                rw [e7, e8, e9]
                go_wp2_with fail
                refine Calls.mono (f3.out W hB) ?_
                rintro e W2 ⟨rfl, b3⟩
                go_wp2
                exact ⟨rfl, _, rfl, rfl, hB.trans (b3.mono hB.size), b3⟩
              | 11, ho =>
                have e7 : vs 7 = .bool true := hd 7 (by simp [dpQ])
                simp only [List.getElem?_cons_zero, List.getElem?_cons_succ, Option.some.injEq] at ho
                subst ho
                simp only [acV, List.getElem?_toArray, List.getElem?_cons_zero, List.getElem?_cons_succ, Act.put, List.setIfInBounds_toArray, List.set_cons_zero, List.set_cons_succ]
                rw [e7]
                have v0 := hch.out W hB
                simp only [List.getElem?_toArray, List.getElem?_cons_zero] at v0
                go_wp2
                exact ⟨rfl, _, rfl, rfl, hB, Below.refl _ _⟩
              | 12, ho =>
                have e7 : vs 7 = .bool true := hd 7 (by simp [dpQ])
                simp only [List.getElem?_cons_zero, List.getElem?_cons_succ, Option.some.injEq] at ho
                subst ho
                simp only [acV, List.getElem?_toArray, List.getElem?_cons_zero, List.getElem?_cons_succ, Act.put, List.setIfInBounds_toArray, List.set_cons_zero, List.set_cons_succ]
                rw [e7]
                go_wp2
                exact ⟨rfl, _, rfl, rfl, hB, Below.refl _ _⟩
              | 13, ho =>
                have e7 : vs 7 = .bool true := hd 7 (by simp [dpQ])
                have e11 : vs 11 = .agg #[.slice A H.length c] := hd 11 (by simp [dpQ])
                have e12 : vs 12 = .slice A2 R.length c2 := hd 12 (by simp [dpQ])
                simp only [List.getElem?_cons_zero, List.getElem?_cons_succ, Option.some.injEq] at ho
                subst ho
                simp only [acV, List.getElem?_toArray, List.getElem?_cons_zero, List.getElem?_cons_succ, Act.put, List.setIfInBounds_toArray, List.set_cons_zero, List.set_cons_succ]
                rw [e7, e11, e12]
                go_wp2_with fail
                refine Calls.mono (f4.out W hB) ?_
                rintro e W2 ⟨rfl, b3⟩
                go_wp2
                exact ⟨rfl, _, rfl, rfl, hB.trans (b3.mono hB.size), b3⟩
              | 14, ho =>
                have e7 : vs 7 = .bool true := hd 7 (by simp [dpQ])
                have e10 : vs 10 = .bool q := hd 10 (by simp [dpQ])
                have e13 : vs 13 = .bool q := hd 13 (by simp [dpQ])
                simp only [List.getElem?_cons_zero, List.getElem?_cons_succ, Option.some.injEq] at ho
                subst ho
                simp only [acV, List.getElem?_toArray, List.getElem?_cons_zero, List.getElem?_cons_succ, Act.put, List.setIfInBounds_toArray, List.set_cons_zero, List.set_cons_succ]
                rw [e7, e10, e13]
                go_wp2
                exact ⟨rfl, _, rfl, rfl, hB, Below.refl _ _⟩
              | 15, ho =>
                have e7 : vs 7 = .bool true := hd 7 (by simp [dpQ])
                have e14 : vs 14 = .bool true := hd 14 (by simp [dpQ])
                simp only [List.getElem?_cons_zero, List.getElem?_cons_succ, Option.some.injEq] at ho
                subst ho
                simp only [acV, List.getElem?_toArray, List.getElem?_cons_zero, List.getElem?_cons_succ, Act.put, List.setIfInBounds_toArray, List.set_cons_zero, List.set_cons_succ]
                rw [e7, e14]
                go_wp2
                exact ⟨rfl, _, rfl, rfl, hB, Below.refl _ _⟩
              | 16, ho =>
                have e15 : vs 15 = .bool true := hd 15 (by simp [dpQ])
                simp only [List.getElem?_cons_zero, List.getElem?_cons_succ, Option.some.injEq] at ho
                subst ho
                simp only [acV, List.getElem?_toArray, List.getElem?_cons_zero, List.getElem?_cons_succ, Act.put, List.setIfInBounds_toArray, List.set_cons_zero, List.set_cons_succ]
                rw [e15]
                go_wp2
                exact ⟨rfl, _, rfl, rfl, hB, Below.refl _ _⟩
              | 17, ho =>
                have e16 : vs 16 = .bool true := hd 16 (by simp [dpQ])
                simp only [List.getElem?_cons_zero, List.getElem?_cons_succ, Option.some.injEq] at ho
                subst ho
                simp only [acV, List.getElem?_toArray, List.getElem?_cons_zero, List.getElem?_cons_succ, Act.put, List.setIfInBounds_toArray, List.set_cons_zero, List.set_cons_succ]
                rw [e16]
                have v0 := hch.out W hB
                simp only [List.getElem?_toArray, List.getElem?_cons_zero] at v0
                go_wp2
                exact ⟨rfl, _, rfl, rfl, hB, Below.refl _ _⟩
              | 18, ho =>
                have e16 : vs 16 = .bool true := hd 16 (by simp [dpQ])
                simp only [List.getElem?_cons_zero, List.getElem?_cons_succ, Option.some.injEq] at ho
                subst ho
                simp only [acV, List.getElem?_toArray, List.getElem?_cons_zero, List.getElem?_cons_succ, Act.put, List.setIfInBounds_toArray, List.set_cons_zero, List.set_cons_succ]
                rw [e16]
                go_wp2
                exact ⟨rfl, _, rfl, rfl, hB, Below.refl _ _⟩
              | 19, ho =>
                have e16 : vs 16 = .bool true := hd 16 (by simp [dpQ])
                have e17 : vs 17 = .agg #[.slice A H.length c] := hd 17 (by simp [dpQ])
                have e18 : vs 18 = .slice Ar R.length cr := hd 18 (by simp [dpQ])
                simp only [List.getElem?_cons_zero, List.getElem?_cons_succ, Option.some.injEq] at ho
                subst ho
                simp only [acV, List.getElem?_toArray, List.getElem?_cons_zero, List.getElem?_cons_succ, Act.put, List.setIfInBounds_toArray, List.set_cons_zero, List.set_cons_succ]
                rw [e16, e17, e18]
                go_wp2_with fail
                refine Calls.mono (f5.out W hB) ?_
                rintro e W2 ⟨v, rfl, oc, b3⟩
                obtain ⟨Ac, cc, rfl⟩ := oc.form
                have hCS := oc.sl (K := Old W2) (fun g h1 h2 => h2)
                replace hCS := hide hCS
                clear oc
                go_wp2
                exact ⟨rfl, _, rfl, ⟨Ac, cc, rfl, hCS.out⟩, hB.trans (b3.mono hB.size), b3⟩
              | 20, ho =>
                have e16 : vs 16 = .bool true := hd 16 (by simp [dpQ])
                simp only [List.getElem?_cons_zero, List.getElem?_cons_succ, Option.some.injEq] at ho
                subst ho
                simp only [acV, List.getElem?_toArray, List.getElem?_cons_zero, List.getElem?_cons_succ, Act.put, List.setIfInBounds_toArray, List.set_cons_zero, List.set_cons_succ]
                rw [e16]
                have v0 := hch.out W hB
                simp only [List.getElem?_toArray, List.getElem?_cons_zero] at v0
                go_wp2
                exact ⟨rfl, _, rfl, rfl, hB, Below.refl _ _⟩
              | 21, ho =>
                have e16 : vs 16 = .bool true := hd 16 (by simp [dpQ])
                simp only [List.getElem?_cons_zero, List.getElem?_cons_succ, Option.some.injEq] at ho
                subst ho
                simp only [acV, List.getElem?_toArray, List.getElem?_cons_zero, List.getElem?_cons_succ, Act.put, List.setIfInBounds_toArray, List.set_cons_zero, List.set_cons_succ]
                rw [e16]
                go_wp2
                exact ⟨rfl, _, rfl, rfl, hB, Below.refl _ _⟩
              | 22, ho =>
                have e16 : vs 16 = .bool true := hd 16 (by simp [dpQ])
                have e20 : vs 20 = .agg #[.slice A H.length c] := hd 20 (by simp [dpQ])
                have e21 : vs 21 = .slice A2 R.length c2 := hd 21 (by simp [dpQ])
                simp only [List.getElem?_cons_zero, List.getElem?_cons_succ, Option.some.injEq] at ho
                subst ho
                simp only [acV, List.getElem?_toArray, List.getElem?_cons_zero, List.getElem?_cons_succ, Act.put, List.setIfInBounds_toArray, List.set_cons_zero, List.set_cons_succ]
                rw [e16, e20, e21]
                go_wp2_with fail
                refine Calls.mono (f6.out W hB) ?_
                rintro e W2 ⟨v, rfl, oc, b3⟩
                obtain ⟨Ac, cc, rfl⟩ := oc.form
                have hCS := oc.sl (K := Old W2) (fun g h1 h2 => h2)
                replace hCS := hide hCS
                clear oc
                go_wp2
                exact ⟨rfl, _, rfl, ⟨Ac, cc, rfl, hCS.out⟩, hB.trans (b3.mono hB.size), b3⟩
              | 23, ho =>
                have e16 : vs 16 = .bool true := hd 16 (by simp [dpQ])
                obtain ⟨X19, x19, e19, g19⟩ : (WdQ.c C).p (vs 19) W := hd 19 (by simp [dpQ])
                obtain ⟨X22, x22, e22, g22⟩ : (WdQ.c C).p (vs 22) W := hd 22 (by simp [dpQ])
                simp only [List.getElem?_cons_zero, List.getElem?_cons_succ, Option.some.injEq] at ho
                subst ho
                simp only [acV, List.getElem?_toArray, List.getElem?_cons_zero, List.getElem?_cons_succ, Act.put, List.setIfInBounds_toArray, List.set_cons_zero, List.set_cons_succ]
                rw [e16, e19, e22]
                go_wp2_with fail
                refine Calls.mono (rcho09_any X19 X22 x19 x22 C C (Old W) (Old W) W g19 g22 hcl.out hcl.out) ?_
                rintro e W2 ⟨rfl, b3⟩
                rw [decide_eq_true (rfl : C = C)]
                go_wp2
                exact ⟨rfl, _, rfl, rfl, hB.trans (b3.mono hB.size), b3⟩
              | 24, ho =>
                have e16 : vs 16 = .bool true := hd 16 (by simp [dpQ])
                have e23 : vs 23 = .bool true := hd 23 (by simp [dpQ])
                simp only [List.getElem?_cons_zero, List.getElem?_cons_succ, Option.some.injEq] at ho
                subst ho
                simp only [acV, List.getElem?_toArray, List.getElem?_cons_zero, List.getElem?_cons_succ, Act.put, List.setIfInBounds_toArray, List.set_cons_zero, List.set_cons_succ]
                rw [e16, e23]
                go_wp2
                exact ⟨rfl, _, rfl, rfl, hB, Below.refl _ _⟩
              | 25, ho =>
                have e24 : vs 24 = .bool true := hd 24 (by simp [dpQ])
                simp only [List.getElem?_cons_zero, List.getElem?_cons_succ, Option.some.injEq] at ho
                subst ho
                simp only [acV, List.getElem?_toArray, List.getElem?_cons_zero, List.getElem?_cons_succ, Act.put, List.setIfInBounds_toArray, List.set_cons_zero, List.set_cons_succ]
                rw [e24]
                go_wp2
                exact ⟨rfl, _, rfl, rfl, hB, Below.refl _ _⟩
              | 26, ho =>
                have e25 : vs 25 = .bool true := hd 25 (by simp [dpQ])
                simp only [List.getElem?_cons_zero, List.getElem?_cons_succ, Option.some.injEq] at ho
                subst ho
                simp only [acV, List.getElem?_toArray, List.getElem?_cons_zero, List.getElem?_cons_succ, Act.put, List.setIfInBounds_toArray, List.set_cons_zero, List.set_cons_succ]
                rw [e25]
                have v0 := hch.out W hB
                simp only [List.getElem?_toArray, List.getElem?_cons_zero] at v0
                go_wp2
                exact ⟨rfl, _, rfl, rfl, hB, Below.refl _ _⟩
              | 27, ho =>
                have e25 : vs 25 = .bool true := hd 25 (by simp [dpQ])
                simp only [List.getElem?_cons_zero, List.getElem?_cons_succ, Option.some.injEq] at ho
                subst ho
                simp only [acV, List.getElem?_toArray, List.getElem?_cons_zero, List.getElem?_cons_succ, Act.put, List.setIfInBounds_toArray, List.set_cons_zero, List.set_cons_succ]
                rw [e25]
                go_wp2
                exact ⟨rfl, _, rfl, rfl, hB, Below.refl _ _⟩
              | 28, ho =>
                have e25 : vs 25 = .bool true := hd 25 (by simp [dpQ])
                have e26 : vs 26 = .agg #[.slice A H.length c] := hd 26 (by simp [dpQ])
                have e27 : vs 27 = .slice Ap π.length cp := hd 27 (by simp [dpQ])
                simp only [List.getElem?_cons_zero, List.getElem?_cons_succ, Option.some.injEq] at ho
                subst ho
                simp only [acV, List.getElem?_toArray, List.getElem?_cons_zero, List.getElem?_cons_succ, Act.put, List.setIfInBounds_toArray, List.set_cons_zero, List.set_cons_succ]
                rw [e25, e26, e27]
                go_wp2_with fail
                refine Calls.mono (f7.out W hB) ?_
                rintro e W2 ⟨v, rfl, oc, b3⟩
                obtain ⟨Ac, cc, rfl⟩ := oc.form
                have hCS := hide oc.old
                clear oc
                go_wp2
                exact ⟨rfl, _, rfl, ⟨Ac, cc, rfl, hCS.out⟩, hB.trans (b3.mono hB.size), b3⟩
              | 29, ho =>
                have e25 : vs 25 = .bool true := hd 25 (by simp [dpQ])
                obtain ⟨X28, x28, e28, g28⟩ : (WdQ.r L).p (vs 28) W := hd 28 (by simp [dpQ])
                simp only [List.getElem?_cons_zero, List.getElem?_cons_succ, Option.some.injEq] at ho
                subst ho
                simp only [acV, List.getElem?_toArray, List.getElem?_cons_zero, List.getElem?_cons_succ, Act.put, List.setIfInBounds_toArray, List.set_cons_zero, List.set_cons_succ]
                rw [e25, e28]
                go_wp2_with fail
                refine Calls.mono (plain21_any X28 x28 L W g28 hfl.out.1) ?_
                rintro e W2 ⟨Ac, cc, rfl, hs, b3⟩
                replace hs := hide hs
                go_wp2
                exact ⟨rfl, _, rfl, ⟨Ac, cc, rfl, hs.out⟩, hB.trans (b3.mono hB.size), b3⟩
              | 30, ho =>
                have e25 : vs 25 = .bool true := hd 25 (by simp [dpQ])
                simp only [List.getElem?_cons_zero, List.getElem?_cons_succ, Option.some.injEq] at ho
                subst ho
                simp only [acV, List.getElem?_toArray, List.getElem?_cons_zero, List.getElem?_cons_succ, Act.put, List.setIfInBounds_toArray, List.set_cons_zero, List.set_cons_succ]
                rw [e25]
                have v0 := hch.out W hB
                simp only [List.getElem?_toArray, List.getElem?_cons_zero] at v0
                go_wp2
                exact ⟨rfl, _, rfl, rfl, hB, Below.refl _ _⟩
              | 31, ho =>
                have e25 : vs 25 = .bool true := hd 25 (by simp [dpQ])
                simp only [List.getElem?_cons_zero, List.getElem?_cons_succ, Option.some.injEq] at ho
                subst ho
                simp only [acV, List.getElem?_toArray, List.getElem?_cons_zero, List.getElem?_cons_succ, Act.put, List.setIfInBounds_toArray, List.set_cons_zero, List.set_cons_succ]
                rw [e25]
                go_wp2
                exact ⟨rfl, _, rfl, rfl, hB, Below.refl _ _⟩
              | 32, ho =>
                have e25 : vs 25 = .bool true := hd 25 (by simp [dpQ])
                have e30 : vs 30 = .agg #[.slice A H.length c] := hd 30 (by simp [dpQ])
                have e31 : vs 31 = .slice Ap π.length cp := hd 31 (by simp [dpQ])
                simp only [List.getElem?_cons_zero, List.getElem?_cons_succ, Option.some.injEq] at ho
                subst ho
                simp only [acV, List.getElem?_toArray, List.getElem?_cons_zero, List.getElem?_cons_succ, Act.put, List.setIfInBounds_toArray, List.set_cons_zero, List.set_cons_succ]
                rw [e25, e30, e31]
                go_wp2_with fail
                refine Calls.mono (f8.out W hB) ?_
                rintro e W2 ⟨Ac, cc, rfl, hs, b3⟩
                replace hs := hide hs
                go_wp2
                exact ⟨rfl, _, rfl, ⟨Ac, cc, rfl, hs.out⟩, hB.trans (b3.mono hB.size), b3⟩
              | 33, ho =>
                have e25 : vs 25 = .bool true := hd 25 (by simp [dpQ])
                obtain ⟨X29, x29, e29, g29⟩ : (WdQ.r L).p (vs 29) W := hd 29 (by simp [dpQ])
                obtain ⟨X32, x32, e32, g32⟩ : (WdQ.r L).p (vs 32) W := hd 32 (by simp [dpQ])
                simp only [List.getElem?_cons_zero, List.getElem?_cons_succ, Option.some.injEq] at ho
                subst ho
                simp only [acV, List.getElem?_toArray, List.getElem?_cons_zero, List.getElem?_cons_succ, Act.put, List.setIfInBounds_toArray, List.set_cons_zero, List.set_cons_succ]
                rw [e25, e29, e32]
                go_wp2_with fail
                refine Calls.mono (rsame21_eq X29 X32 x29 x32 L W g29 g32 hfl.out) ?_
                rintro e W2 ⟨rfl, b3⟩
                go_wp2
                exact ⟨rfl, _, rfl, rfl, hB.trans (b3.mono hB.size), b3⟩
              | 34, ho =>
                have e25 : vs 25 = .bool true := hd 25 (by simp [dpQ])
                have e33 : vs 33 = .bool true := hd 33 (by simp [dpQ])
                simp only [List.getElem?_cons_zero, List.getElem?_cons_succ, Option.some.injEq] at ho
                subst ho
                simp only [acV, List.getElem?_toArray, List.getElem?_cons_zero, List.getElem?_cons_succ, Act.put, List.setIfInBounds_toArray, List.set_cons_zero, List.set_cons_succ]
                rw [e25, e33]
                go_wp2
                exact ⟨rfl, _, rfl, rfl, hB, Below.refl _ _⟩
              | 35, ho =>
                have e34 : vs 34 = .bool true := hd 34 (by simp [dpQ])
                simp only [List.getElem?_cons_zero, List.getElem?_cons_succ, Option.some.injEq] at ho
                subst ho
                simp only [acV, List.getElem?_toArray, List.getElem?_cons_zero, List.getElem?_cons_succ, Act.put, List.setIfInBounds_toArray, List.set_cons_zero, List.set_cons_succ]
                rw [e34]
                go_wp2
                exact ⟨rfl, _, rfl, rfl, hB, Below.refl _ _⟩
              | i + 36, ho => simp at ho
            case hend =>
              rintro vs W1 hB hd
              have e35 : vs 35 = .bool true := hd 35 (by simp)
              simp only [acV, List.getElem?_toArray, List.getElem?_cons_zero, List.getElem?_cons_succ, Act.put, List.setIfInBounds_toArray, List.set_cons_zero, List.set_cons_succ, List.length_cons, List.length_nil, Nat.reduceAdd]
              rw [e35]
              have hbf := hb4.trans (hB.mono hb4.size)
              clear hd
              go_wp2
              go_ret
              exact ⟨rfl, hbf⟩
end Go.Proofs.YtfhnamomiaekdaaGreat
