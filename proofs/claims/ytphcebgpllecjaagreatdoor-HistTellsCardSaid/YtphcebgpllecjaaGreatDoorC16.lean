/-
  Slices of strings that read as lists; no program in sight.
-/
import Derived.Test.YtphcebgpllecjaaGreatDoorProg
import Derived.Laws.IdiomStrings
import Derived.Test.YtphcebgpllecjaaGreatDoorC09
import Derived.Test.YtphcebgpllecjaaGreatDoorC01
import Derived.Test.YtphcebgpllecjaaGreatDoorC02
set_option linter.unusedVariables false
set_option linter.unusedSimpArgs false
namespace Go.Inq
open Go Go.RowKit

def encS (s : ByteArray) : List Value := [.string s]
/-- A slice of strings. -/
def StrS (w : World) (K : Nat → Prop) (v : Value) (l : List ByteArray) : Prop := SlR 1 (Flat encS) w K v l

section
variable {w w' : World} {K K' : Nat → Prop} {v : Value} {l : List ByteArray}
theorem StrS.keep (h : StrS w K v l) (ha : Agree K w w') (hk : ∀ b, K b → K' b) : StrS w' K' v l := SlR.keep (Flat.stab _) h ha hk
theorem StrS.below (h : StrS w (Old w) v l) (hb : Below w.heap.size w w') : StrS w' (Old w') v l := SlR.below (Flat.stab _) h hb
theorem StrS.fit (h : StrS w K v l) (hk : ∀ b, K b → K' b) : StrS w K' v l := SlR.fit (Flat.stab _) h hk
theorem StrS.form (h : StrS w K v l) : ∃ A c, v = .slice A l.length c := by
  obtain ⟨A, c, hv, _⟩ := SlR.len h
  exact ⟨A, c, hv⟩
theorem StrS.at_ {A : Option Addr} {n c : Nat} (h : StrS w K (.slice A n c) l) {i : Nat} (hi : i < l.length) : ∃ b off, A = some ⟨b, off, none⟩ ∧ K b ∧ w.cell? ⟨b, off + i, none⟩ = some (.string l[i]) := by
  obtain ⟨b, off, cs, hA, hK, _, hR, hc⟩ := SlR.at_ h hi
  unfold Flat at hR
  subst hR
  have := hc 0 _ rfl
  rw [Nat.mul_one, Nat.add_zero] at this
  exact ⟨b, off, hA, hK, this⟩
theorem StrS.cells {b off n c : Nat} (h : StrS w K (.slice (some ⟨b, off, none⟩) n c) l) {i : Nat} (hi : i < l.length) : K b ∧ w.cell? ⟨b, off + i, none⟩ = some (.string l[i]) := by
  obtain ⟨cs, hK, _, hR, hc⟩ := SlR.cells h hi
  unfold Flat at hR
  subst hR
  have := hc 0 _ rfl
  rw [Nat.mul_one, Nat.add_zero] at this
  exact ⟨hK, this⟩
theorem StrS.nil (w : World) (K : Nat → Prop) (A : Option Addr) (c : Nat) : StrS w K (.slice A 0 c) [] := SlR.nil _ _ _ _ _ _
theorem StrS.take {A : Option Addr} {n c : Nat} (h : StrS w K (.slice A n c) l) {k : Nat} (hk : k ≤ l.length) : StrS w K (.slice A k c) (l.take k) := SlR.take h hk
/-- A block of strings, whole. -/
theorem StrS.of_blk {g : Nat} {t : TypeId} (h : Blk w g t (l.map Value.string).toArray) (hK : K g) : StrS w K (.slice (some ⟨g, 0, none⟩) l.length l.length) l := by
  refine ⟨some ⟨g, 0, none⟩, l.length, l.map encS, rfl, Nat.le_refl _, by simp, fun i cs x h1 h2 => ?_, fun _ => ⟨g, 0, rfl, hK, fun i j cs u h1 h2 => ?_⟩⟩
  · rw [List.getElem?_map, h2] at h1
    injection h1 with h1
    exact ⟨by rw [← h1]; rfl, h1.symm⟩
  · rw [List.getElem?_map] at h1
    cases hl : l[i]? with
    | none => rw [hl] at h1; cases h1
    | some x =>
      rw [hl] at h1
      injection h1 with h1
      subst h1
      cases j with
      | zero =>
        injection h2 with h2
        rw [Nat.zero_add, Nat.mul_one, Nat.add_zero, h.cell, List.getElem?_toArray, List.getElem?_map, hl, ← h2]
        rfl
      | succ j => simp [encS] at h2
end
theorem encS_one : ∀ (x : ByteArray), ∀ u ∈ encS x, u.oneCell' = true := by
  intro x u hu
  simp [encS] at hu
  subst hu
  rfl
theorem bytes_eq {a b : ByteArray} : (a.toList == b.toList) = decide (a = b) := by
  rw [Bool.eq_iff_iff, beq_iff_eq, decide_eq_true_iff, Lib.toList_data, Lib.toList_data]
  exact ⟨bytes_inj, fun h => by rw [h]⟩
end Go.Inq

namespace Go.Proofs.YtphcebgpllecjaaGreatDoor
open Go.RowKit Go.Inq
set_option maxHeartbeats 1000000
attribute [local go_sem ↓] Go.wp_at_zero Go.wp_at_succ
theorem infoS : (Tryz.prog.info? 9).map (fun i => (i.zero, i.size, i.bytes)) = some (some (.string ByteArray.empty), 1, 16) := by kernel_rfl

/-- What a function of layer 2 hands back: a row of strings, of its own, and an error. -/
def RowOut (r : List (List UInt8) × Int) (w : World) (e : Ending) (w' : World) : Prop :=
  ∃ v, e = .returned (.tuple #[v, .int .i64 r.2]) ∧ StrS w' (fun b => w.heap.size ≤ b ∧ b < w'.heap.size) v (r.1.map mk) ∧ Below w.heap.size w w'

theorem RowOut.open {r : List (List UInt8) × Int} {w : World} {e : Ending} {w' : World} (h : RowOut r w e w') :
    ∃ A c, e = .returned (.tuple #[.slice A r.1.length c, .int .i64 r.2]) ∧ StrS w' (fun b => w.heap.size ≤ b ∧ b < w'.heap.size) (.slice A r.1.length c) (r.1.map mk) ∧ Below w.heap.size w w' := by
  obtain ⟨v, he, hv, hb⟩ := h
  obtain ⟨A, c, rfl⟩ := StrS.form hv
  rw [List.length_map] at he hv
  exact ⟨A, c, he, hv, hb⟩
/-- The lines' bytes. -/
def byt (l : List ByteArray) : List (List UInt8) := l.map (·.data.toList)
/-- A text of lines. -/
def joinL (ls : List (List UInt8)) : List UInt8 := (ls.map (· ++ [10])).flatten
theorem joinL_take {l : List ByteArray} {i : Nat} (hi : i < l.length) : joinL (byt (l.take (i + 1))) = joinL (byt (l.take i)) ++ l[i].data.toList ++ [10] := by
  unfold joinL byt
  rw [List.take_succ_eq_append_getElem hi]
  simp only [List.map_append, List.flatten_append, List.map_cons, List.map_nil, List.flatten_cons, List.flatten_nil, List.append_nil, List.append_assoc]
theorem joinL_le (l : List ByteArray) (i : Nat) : (joinL (byt (l.take i))).length ≤ (joinL (byt l)).length := by
  have e : byt l = byt (l.take i) ++ byt (l.drop i) := by unfold byt; rw [← List.map_append, List.take_append_drop]
  rw [e]
  unfold joinL
  rw [List.map_append, List.flatten_append, List.length_append]
  omega
theorem byte_ten (b : UInt8) : ((b.toNat : Int) == 10) = decide (b = 10) := by
  rw [Bool.eq_iff_iff, beq_iff_eq, decide_eq_true_iff]
  constructor
  · intro e; exact UInt8.toNat_inj.1 (by simpa using Int.ofNat_inj.1 e)
  · intro e; rw [e]; rfl
theorem bytes_at (s : ByteArray) {i : Nat} (h : i < s.size) : ∃ h2 : i < s.data.toList.length, s[i] = s.data.toList[i] := by
  have h2 : i < s.data.toList.length := by rw [← Lib.size_eq]; exact h
  refine ⟨h2, ?_⟩
  have := Lib.data_getElem? s i h
  rw [List.getElem?_eq_getElem h2] at this
  exact (Option.some.inj this).symm

end Go.Proofs.YtphcebgpllecjaaGreatDoor

namespace Go.Proofs.YtphcebgpllecjaaGreatDoor
open Go.RowKit Go.Inq
set_option maxHeartbeats 1000000
attribute [local go_sem ↓] Go.wp_at_zero Go.wp_at_succ

theorem rdigit_any (b : UInt8) (w : World) : Calls Tryz.prog 97 #[.int .u8 b.toNat] w fun e w' => e = .returned (.bool (digitB b)) ∧ w = w' := by
  have e : digitB b = (decide (48 ≤ (b.toNat : Int)) && decide ((b.toNat : Int) ≤ 57)) := by
    unfold digitB
    rw [Bool.eq_iff_iff]
    simp [UInt8.le_iff_toNat_le]
    omega
  by_cases h0 : 48 ≤ (b.toNat : Int)
  · have h0' : decide (48 ≤ (b.toNat : Int)) = true := by simpa using h0
    have e2 := hide e
    clear e
    go_enter Tryz.func97, Tryz.ntmps97
    go_wp2
    go_ret
    exact ⟨ret_bool (by rw [e2.out, h0']; simp), rfl⟩
  · have h0' : decide (48 ≤ (b.toNat : Int)) = false := by simpa using h0
    have e2 := hide e
    clear e
    go_enter Tryz.func97, Tryz.ntmps97
    go_wp2
    go_ret
    exact ⟨ret_bool (by rw [e2.out, h0']; simp), rfl⟩
theorem rdigit_yes {b : UInt8} (h : digitB b = true) (w : World) : Calls Tryz.prog 97 #[.int .u8 b.toNat] w fun e w' => e = .returned (.bool true) ∧ w = w' := by
  have := rdigit_any b w
  rw [h] at this
  exact this
theorem rdigit_no {b : UInt8} (h : digitB b = false) (w : World) : Calls Tryz.prog 97 #[.int .u8 b.toNat] w fun e w' => e = .returned (.bool false) ∧ w = w' := by
  have := rdigit_any b w
  rw [h] at this
  exact this

/-- One digit as a string: the bytes of a block of its own. -/
theorem digit_conv (n : Nat) (w : World) : (convert 133 9 (.slice (some ⟨w.heap.size, 0, none⟩) 1 1)).run Tryz.prog (w.alloc (.cells #[.int .u8 (48 + (n : Int) % 10)] 5)) =
    .ok (.string (mk [dig (n % 10)])) (w.alloc (.cells #[.int .u8 (48 + (n : Int) % 10)] 5)) := by
  refine run_convert_bytes_back (P := Tryz.prog) _ 133 9 5 ⟨w.heap.size, 0, none⟩ 1 [dig (n % 10)] Tryz.underlying133 Tryz.underlying5 Tryz.underlying9 (fun j hj => ?_)
  have : j = 0 := by simp at hj; exact hj
  subst this
  have hb : Blk (w.alloc (.cells #[.int .u8 (48 + (n : Int) % 10)] 5)) w.heap.size 5 _ := Blk.new _ _ _
  have := hb.cell 0
  rw [show (⟨w.heap.size, 0, none⟩ : Addr).add 0 = ⟨w.heap.size, 0, none⟩ from rfl, this]
  simp [dig_toNat (show n % 10 < 10 by omega)]

set_option maxRecDepth 100000 in
theorem rdigits_any (n : Nat) : n ≤ 2147483647 → ∀ w : World, Calls Tryz.prog 102 #[.int .i64 n] w fun e w' => e = .returned (.string (mk (numR n))) ∧ Below w.heap.size w w' := by
  refine numR_ind (P := fun n => n ≤ 2147483647 → ∀ w : World, Calls Tryz.prog 102 #[.int .i64 n] w fun e w' => e = .returned (.string (mk (numR n))) ∧ Below w.heap.size w w') (fun n h hn w => ?_) (fun n h ih hn w => ?_) n
  · have h1 : (n : Int) < 10 := by omega
    have h2 : (0 : Int) ≤ (n : Int) := Int.natCast_nonneg _
    have hcv := digit_conv n w
    go_enter Tryz.func102, Tryz.ntmps102
    go_wp2
    go_ret
    exact ⟨by rw [numR_low h, Nat.mod_eq_of_lt h]; rfl, (Below.refl _ _).alloc (Nat.le_refl _) _⟩
  · have ih' : ∀ w : World, Calls Tryz.prog 102 #[.int .i64 ((n : Int) / 10)] w fun e w' => e = .returned (.string (mk (numR (n / 10)))) ∧ Below w.heap.size w w' := fun w => by
      have := ih (by omega) w
      rwa [Int.natCast_ediv] at this
    have h1 : ¬ (n : Int) < 10 := by omega
    have h2 : (0 : Int) ≤ (n : Int) := Int.natCast_nonneg _
    have h3 : (n : Int) ≤ 2147483647 := by omega
    have hcv := digit_conv n w
    have hsz : (mk (numR (n / 10))).size + (mk [dig (n % 10)]).size ≤ 100 := by
      have := numR_ten (show n / 10 ≤ 2147483647 by omega)
      rw [mk_size, mk_size, List.length_singleton]
      omega
    have hb0 : Below w.heap.size w (w.alloc (.cells #[.int .u8 (48 + (n : Int) % 10)] 5)) := (Below.refl _ _).alloc (Nat.le_refl _) _
    clear ih
    go_enter Tryz.func102, Tryz.ntmps102
    go_wp2_with (go_at_call 102; refine (ih' _).mono ?_; rintro e w' ⟨rfl, hb⟩)
    go_ret
    refine ⟨by rw [numR_high h, mk_append]; rfl, hb0.trans (hb.mono (Nat.le_of_lt (by simp)))⟩
theorem rshow01_any (n : Int) (w : World) : Calls Tryz.prog 91 #[.int .i64 n] w fun e w' => e = .returned (.tuple #[.string (mk (showN n).1), .int .i64 (showN n).2]) ∧ Below w.heap.size w w' := by
  by_cases h : 0 ≤ n ∧ n ≤ 2147483647
  · obtain ⟨k, rfl⟩ := Int.eq_ofNat_of_zero_le h.1
    have hi : belowB (k : Int) 2147483648 = true := by simp [belowB]; omega
    have his := is_any k w
    rw [hi] at his
    have hd := rdigits_any k (by omega)
    have hs : Hid (showN (k : Int) = (numR k, 0)) := by unfold Hid showN; rw [if_pos h]; rfl
    clear h hi
    go_enter Tryz.func91, Tryz.ntmps91
    go_wp2_with (first | (go_at_call 62; refine his.mono ?_; rintro e w' ⟨rfl, rfl⟩) | (go_at_call 102; refine (hd _).mono ?_; rintro e w' ⟨rfl, hb⟩))
    go_ret2
    exact ⟨by rw [hs.out]; rfl, hb⟩
  · have hi : belowB n 2147483648 = false := by unfold belowB; rw [Bool.and_eq_false_iff, decide_eq_false_iff_not, decide_eq_false_iff_not]; omega
    have his := is_any n w
    rw [hi] at his
    have hs : Hid (showN n = ([], 1)) := by unfold Hid showN; rw [if_neg h]
    clear h hi
    go_enter Tryz.func91, Tryz.ntmps91
    go_wp2_with (go_at_call 62; refine his.mono ?_; rintro e w' ⟨rfl, rfl⟩)
    go_ret2
    exact ⟨by rw [hs.out]; rfl, Below.refl _ _⟩
end Go.Proofs.YtphcebgpllecjaaGreatDoor

namespace Go.Proofs.YtphcebgpllecjaaGreatDoor
open Go.RowKit Go.Inq
set_option maxHeartbeats 1000000
attribute [local go_sem ↓] Go.wp_at_zero Go.wp_at_succ

/-- What a Take hands back. -/
def TakeOut (r : Int × Int × Int) (w : World) (e : Ending) (w' : World) : Prop := e = .returned (.tuple #[.int .i64 r.1, .int .i64 r.2.1, .int .i64 r.2.2]) ∧ w = w'

set_option maxRecDepth 100000 in
theorem rtake_any (s : ByteArray) (a : Nat) (w : World) (hs : s.size ≤ 1000000) (ha : a ≤ s.size) : Calls Tryz.prog 85 #[.string s, .int .i64 a] w (TakeOut (takeR s.data.toList a) w) := by
  obtain ⟨m, V, hml, hg, hst, hv0, hvl, h0, h1, h2⟩ := take_facts ha
  replace hg := hide hg
  replace hst := hide hst
  replace hv0 := hide hv0
  replace hvl := hide hvl
  replace h0 := hide h0
  replace h1 := hide h1
  replace h2 := hide h2
  have ha1 : (0 : Int) ≤ (a : Int) := Int.natCast_nonneg _
  have ha2 : (a : Int) ≤ (s.size : Int) := by omega
  go_enter Tryz.func85, Tryz.ntmps85
  go_wp2
  go_loop [7] (fun s7 => ∃ k : Nat, k ≤ m ∧ s7 = .int .i64 ((a : Int) + k)) (fun s7 => s.size - (intOf s7).toNat)
  case atStart => exact ⟨0, Nat.zero_le _, by go_num⟩
  case round =>
    obtain ⟨k, hk, rfl⟩ := hrel
    have hk1 : (0 : Int) ≤ (k : Int) := Int.natCast_nonneg _
    by_cases hlt : k < m
    · have hk2 : (a : Int) + k < (s.size : Int) := by omega
      have hd := rdigit_yes (hg.out k (by omega) hlt).1 w
      go_wp2_with (go_at_call 97; refine hd.mono ?_; rintro e w' ⟨rfl, rfl⟩)
      go_round
      case rel => exact ⟨k + 1, by omega, by go_num⟩
      case measure => simp [intOf]; omega
    · have : k = m := by omega
      subst this
      have hex : decide ((a : Int) + k < (s.size : Int)) = false ∨ ∃ h : a + k < s.size, decide ((a : Int) + k < (s.size : Int)) = true ∧ (a : Int) + k < (s.size : Int) ∧
          Calls Tryz.prog 97 #[.int .u8 s[a + k].toNat] w (fun e w' => e = .returned (.bool false) ∧ w = w') := by
        by_cases h : a + k < s.size
        · exact .inr ⟨h, by simp; omega, by omega, rdigit_no (hst.out h) w⟩
        · exact .inl (by simp; omega)
      by_cases hz : k = 0
      · subst hz
        have hr := hide (h0.out rfl)
        by_cases h : a < s.size
        · have hx : (a : Int) < (s.size : Int) := by omega
          have hd := rdigit_no (show digitB s[a] = false from hst.out h) w
          go_wp2_with (go_at_call 97; refine hd.mono ?_; rintro e w' ⟨rfl, rfl⟩)
          go_ret3
          exact ⟨by rw [hr.out]; rfl, rfl⟩
        · have hx : ¬ (a : Int) < (s.size : Int) := by omega
          go_wp2
          go_ret3
          exact ⟨by rw [hr.out]; rfl, rfl⟩
      · have haz : a < s.size := by omega
        have haz2 : (a : Int) < (s.size : Int) := by omega
        have e1 : ((a : Int) + (k : Int) == (a : Int)) = false := by simp; omega
        by_cases hh : 1 < k ∧ s[a] = 48
        · have hr := hide (h1.out hh.1 haz hh.2)
          have e2 : (1 : Int) < (k : Int) := by omega
          have e3 : (((s[a]).toNat : Int) == 48) = true := by rw [hh.2]; rfl
          clear hh
          rcases hex with hx | ⟨h, hx, hx2, hd⟩
          · go_wp2
            go_ret3
            exact ⟨by rw [hr.out]; rfl, rfl⟩
          · go_wp2_with (go_at_call 97; refine hd.mono ?_; rintro e w' ⟨rfl, rfl⟩)
            go_ret3
            exact ⟨by rw [hr.out]; rfl, rfl⟩
        · have hr := hide (h2.out hz (fun h3 _ h4 => hh ⟨h3, h4⟩))
          have hne : decide ((1 : Int) < (k : Int)) = false ∨ (decide ((1 : Int) < (k : Int)) = true ∧ (((s[a]).toNat : Int) == 48) = false) := by
            by_cases h3 : 1 < k
            · refine .inr ⟨by simp; omega, ?_⟩
              simp only [beq_eq_false_iff_ne]
              intro e
              exact hh ⟨h3, UInt8.toNat_inj.1 (by simpa using Int.ofNat_inj.1 e)⟩
            · exact .inl (by simp; omega)
          clear hh
          rcases hne with e2 | ⟨e2, e3⟩ <;> rcases hex with hx | ⟨h, hx, hx2, hd⟩
          all_goals first | (go_wp2_with (go_at_call 97; refine hd.mono ?_; rintro e w' ⟨rfl, rfl⟩)) | go_wp2
          all_goals (
            go_loop [8, 9] (fun s8 s9 => ∃ j : Nat, j ≤ k ∧ s9 = .int .i64 ((a : Int) + j) ∧ s8 = .int .i64 (V j) ∧ V j ≤ 2147483647) (fun _ s9 => s.size - (intOf s9).toNat)
            case atStart => exact ⟨0, Nat.zero_le _, by go_num, by rw [hv0.out]; rfl, by rw [hv0.out]; omega⟩
            case round =>
              obtain ⟨j, hj, rfl, rfl, hjv⟩ := hrel
              have hj1 : (0 : Int) ≤ (j : Int) := Int.natCast_nonneg _
              by_cases hlt2 : j < k
              · have hj2 : (a : Int) + j < (s.size : Int) := by omega
                have hj3 : (a : Int) + j < (a : Int) + k := by omega
                obtain ⟨_, f1, f2, f3⟩ := hg.out j (by omega) hlt2
                have f4 : (48 : Int) ≤ ((s[a + j]'(by omega)).toNat : Int) := by omega
                have f5 : ((s[a + j]'(by omega)).toNat : Int) ≤ 57 := by omega
                have f6 : (0 : Int) ≤ (V j : Int) := Int.natCast_nonneg _
                have f7 : (V j : Int) ≤ 2147483647 := by omega
                have f8 : Hid (10 * (V j : Int) + (((s[a + j]'(by omega)).toNat : Int) - 48) = (V (j + 1) : Int)) := by unfold Hid; omega
                have hle := hide (hvl.out (j + 1) (by omega))
                by_cases hbig : 2147483647 < V (j + 1)
                · have hbig2 : 2147483647 < 10 * (V j : Int) + (((s[a + j]'(by omega)).toNat : Int) - 48) := by have := f8.out; omega
                  have hr2 : Hid (takeR s.data.toList a = (0, 0, 3)) := by unfold Hid; rw [hr.out, if_pos (by have := hle.out; omega)]
                  clear f1 f2 f3
                  go_wp2
                  go_ret3
                  exact ⟨by rw [hr2.out]; rfl, rfl⟩
                · have hbig3 : Hid (V (j + 1) ≤ 2147483647) := by unfold Hid; omega
                  have hbig2 : 10 * (V j : Int) + (((s[a + j]'(by omega)).toNat : Int) - 48) ≤ 2147483647 := by have := f8.out; omega
                  clear f1 f2 f3
                  go_wp2
                  go_round
                  case rel => exact ⟨j + 1, by omega, by go_num, congrArg (Value.int .i64) f8.out, hbig3.out⟩
                  case measure => simp [intOf]; omega
              · have : j = k := by omega
                subst this
                have hr2 : Hid (takeR s.data.toList a = ((V j : Int), ((a + j : Nat) : Int), 0)) := by unfold Hid; rw [hr.out, if_neg (by omega)]
                go_wp2
                go_ret3
                exact ⟨by rw [hr2.out]; simp, rfl⟩)
/-- What a Whole hands back. -/
def WholeOut (r : Int × Int) (w : World) (e : Ending) (w' : World) : Prop := e = .returned (.tuple #[.int .i64 r.1, .int .i64 r.2]) ∧ w = w'
theorem rwhole_any (s : ByteArray) (w : World) (hs : s.size ≤ 1000000) : Calls Tryz.prog 61 #[.string s] w (WholeOut (wholeR s.data.toList) w) := by
  have ht := rtake_any s 0 w hs (Nat.zero_le _)
  obtain ⟨n, t, f, hr, g1, g2, g3, _⟩ := whole_cases s.data.toList
  rw [hr] at ht
  rw [← Lib.size_eq] at g2 g3
  by_cases hf : f = 0
  · subst hf
    by_cases hlt : t < (s.size : Int)
    · have hw := hide (g2 rfl hlt)
      clear g1 g2 g3 hr
      go_enter Tryz.func61, Tryz.ntmps61
      go_wp2_with (go_at_call 85; refine ht.mono ?_; rintro e w' ⟨rfl, rfl⟩)
      go_ret2
      exact ⟨by rw [hw.out]; rfl, rfl⟩
    · have hw := hide (g3 rfl hlt)
      clear g1 g2 g3 hr
      go_enter Tryz.func61, Tryz.ntmps61
      go_wp2_with (go_at_call 85; refine ht.mono ?_; rintro e w' ⟨rfl, rfl⟩)
      go_ret2
      exact ⟨by rw [hw.out]; rfl, rfl⟩
  · have hw := hide (g1 hf)
    have hf2 : (f != 0) = true := by simpa using hf
    clear g1 g2 g3 hr
    go_enter Tryz.func61, Tryz.ntmps61
    go_wp2_with (go_at_call 85; refine ht.mono ?_; rintro e w' ⟨rfl, rfl⟩)
    go_ret2
    exact ⟨by rw [hw.out]; rfl, rfl⟩
end Go.Proofs.YtphcebgpllecjaaGreatDoor

namespace Go.Inq
open Go
section
variable {P : Program} {ops : Array Oper} {Q : Exit → Act → World → Prop}

/-- The slots that an operation looks at. -/
def readsT (ops : Array Oper) (o : Oper) : List Nat :=
  (o.op.operands.toList.filterMap fun | .tmp t => some t | _ => none) ++ (match o.guard with | some (j, _) => ((ops[j]?).bind (·.dst)).toList | none => [])

def floatB (ops : Array Oper) : Bool :=
  Region.noSelect ops && (List.range ops.size).all fun i => match ops[i]? with
    | none => true
    | some o => (o.after.all fun e => !Region.binds .any e || decide (e.on < i)) &&
      (List.range ops.size).all fun j => match ops[j]? with
        | none => true
        | some oj => match oj.dst with
          | none => true
          | some t => (i == j || o.dst != some t) && (!(readsT ops o).contains t || (decide (j < i) && waitsT .any ops ops.size i j) || (decide (i < j) && waitsT .any ops ops.size j i) || i == j)

theorem floatB_after (h : floatB ops = true) {i : Nat} {o : Oper} (ho : ops[i]? = some o) : ∀ e ∈ o.after, Region.binds .any e = true → e.on < i := by
  intro e he hb
  unfold floatB at h
  rw [Bool.and_eq_true, List.all_eq_true] at h
  have h1 := h.2 i (List.mem_range.2 (Array.getElem?_eq_some_iff.1 ho).1)
  rw [ho] at h1
  dsimp only at h1
  rw [Bool.and_eq_true] at h1
  have h2 := Array.all_eq_true_iff_forall_mem.1 h1.1 e he
  rw [hb] at h2
  simpa using h2
theorem floatB_pair (h : floatB ops = true) {i j : Nat} {o oj : Oper} (ho : ops[i]? = some o) (hj : ops[j]? = some oj) {t : Nat} (ht : oj.dst = some t) :
    (i = j ∨ o.dst ≠ some t) ∧ (t ∈ readsT ops o → (j < i ∧ waitsT .any ops ops.size i j = true) ∨ (i < j ∧ waitsT .any ops ops.size j i = true) ∨ i = j) := by
  unfold floatB at h
  rw [Bool.and_eq_true, List.all_eq_true] at h
  have h1 := h.2 i (List.mem_range.2 (Array.getElem?_eq_some_iff.1 ho).1)
  rw [ho] at h1
  dsimp only at h1
  rw [Bool.and_eq_true, List.all_eq_true] at h1
  have h2 := h1.2 j (List.mem_range.2 (Array.getElem?_eq_some_iff.1 hj).1)
  rw [hj] at h2
  dsimp only at h2
  rw [ht] at h2
  dsimp only at h2
  rw [Bool.and_eq_true] at h2
  refine ⟨?_, fun hm => ?_⟩
  · have := h2.1
    rw [Bool.or_eq_true, beq_iff_eq, bne_iff_ne] at this
    exact this
  · have h3 := h2.2
    have hc : (readsT ops o).contains t = true := by simpa using hm
    rw [hc] at h3
    simp only [Bool.not_true, Bool.false_or, Bool.or_eq_true, Bool.and_eq_true, decide_eq_true_eq, beq_iff_eq] at h3
    rcases h3 with (h3 | h3) | h3
    · exact .inl h3
    · exact .inr (.inl h3)
    · exact .inr (.inr h3)

/-- The slots behind the operations of L. -/
structure Flo (ops : Array Oper) (a0 : Act) (vs : Nat → Value) (L : Nat → Bool) (a : Act) : Prop where
  defers : a.defers = a0.defers
  size : a.tmps.size = a0.tmps.size
  hit : ∀ j o t, ops[j]? = some o → o.dst = some t → L j = true → t < a0.tmps.size → a.tmps[t]? = some (vs j)
  miss : ∀ t, (∀ j o, ops[j]? = some o → o.dst = some t → L j = false) → a.tmps[t]? = a0.tmps[t]?

variable {a0 a b : Act} {vs : Nat → Value} {L L' : Nat → Bool}
theorem Flo.start (h : ∀ j, L j = false) : Flo ops a0 vs L a0 := ⟨rfl, rfl, (fun j _ _ _ _ hl => absurd hl (by rw [h j]; simp)), fun _ _ => rfl⟩
theorem put_size (a : Act) (d : Option Tmp) (v : Value) : (a.put d v).tmps.size = a.tmps.size := by
  cases d <;> simp [Act.put]
theorem put_defers (a : Act) (d : Option Tmp) (v : Value) : (a.put d v).defers = a.defers := by
  cases d <;> simp [Act.put]
theorem put_ne {d : Option Tmp} {t : Nat} (h : d ≠ some t) (a : Act) (v : Value) : (a.put d v).tmps[t]? = a.tmps[t]? := by
  cases d with
  | none => rfl
  | some d =>
    have : d ≠ t := fun e => h (by rw [e])
    simp [Act.put, Array.getElem?_setIfInBounds_ne this]
theorem put_eq {t : Nat} (a : Act) (v : Value) (h : t < a.tmps.size) : (a.put (some t) v).tmps[t]? = some v := by
  simp [Act.put, h]
theorem Flo.put (hB : floatB ops = true) {i : Nat} {o : Oper} (ho : ops[i]? = some o) (h : Flo ops a0 vs L a) (hL : ∀ j, L' j = (L j || decide (j = i))) : Flo ops a0 vs L' (a.put o.dst (vs i)) := by
  refine ⟨by rw [put_defers, h.defers], by rw [put_size, h.size], fun j oj t hj ht hl hs => ?_, fun t ht => ?_⟩
  · by_cases hji : j = i
    · subst hji
      have : oj = o := Option.some.inj (hj.symm.trans ho)
      subst this
      rw [ht, put_eq _ _ (by rw [h.size]; exact hs)]
    · have h1 : L j = true := by rw [hL] at hl; simpa [hji] using hl
      have hne : o.dst ≠ some t := by
        rcases (floatB_pair hB ho hj ht).1 with e | e
        · exact absurd e.symm hji
        · exact e
      rw [put_ne hne]
      exact h.hit j oj t hj ht h1 hs
  · have hne : o.dst ≠ some t := fun e => by
      have := ht i o ho e
      rw [hL] at this
      simp at this
    rw [put_ne hne]
    refine h.miss t fun j oj hj hd => ?_
    have := ht j oj hj hd
    rw [hL] at this
    rw [Bool.or_eq_false_iff] at this
    exact this.1
theorem Flo.agree (h : Flo ops a0 vs L a) (h' : Flo ops a0 vs L' b) {t : Nat} (ht : ∀ j o, ops[j]? = some o → o.dst = some t → L j = L' j) : a.tmps[t]? = b.tmps[t]? := by
  by_cases hs : t < a0.tmps.size
  · by_cases hx : ∃ j o, ops[j]? = some o ∧ o.dst = some t ∧ L j = true
    · obtain ⟨j, o, hj, hd, hl⟩ := hx
      rw [h.hit j o t hj hd hl hs, h'.hit j o t hj hd (by rw [← ht j o hj hd]; exact hl) hs]
    · have hf : ∀ j o, ops[j]? = some o → o.dst = some t → L j = false := fun j o hj hd => by
        cases hl : L j with
        | false => rfl
        | true => exact absurd ⟨j, o, hj, hd, hl⟩ hx
      rw [h.miss t hf, h'.miss t fun j o hj hd => by rw [← ht j o hj hd]; exact hf j o hj hd]
  · rw [Array.getElem?_eq_none (by rw [h.size]; omega), Array.getElem?_eq_none (by rw [h'.size]; omega)]

theorem put_inj {d : Option Tmp} {u v : Value} (hs : a.tmps.size = b.tmps.size) (h : b.put d u = b.put d v) : a.put d u = a.put d v := by
  cases d with
  | none => rfl
  | some t =>
    rcases Nat.lt_or_ge t b.tmps.size with ht | ht
    · have h1 := put_eq b u ht
      rw [h, put_eq b v ht] at h1
      injection h1 with h1
      rw [h1]
    · have : ∀ x : Value, a.put (some t) x = a := fun x => by
        unfold Act.put
        dsimp only
        rw [Array.setIfInBounds_eq_of_size_le (show a.tmps.size ≤ t by rw [hs]; exact ht)]
      rw [this, this]

theorem wpOp_float {S : World → Prop} {i : Nat} {o : Oper} {w : World} {v : Value} {K : Act → World → Prop} (ho : ops[i]? = some o) (hsel : ∀ cs b, o.op ≠ .select cs b)
    (hr : ∀ t ∈ readsT ops o, a.tmps[t]? = b.tmps[t]?) (hs : a.tmps.size = b.tmps.size) (hK : ∀ w', S w' → K (a.put o.dst v) w')
    (h : wpList P ops (fun e a' w' => e = .normal ∧ a' = b.put o.dst v ∧ S w') [o] b w) : wpOp P ops Q i K a w := by
  have hw : Region.wanted o (yielded ops a.tmps) = Region.wanted o (yielded ops b.tmps) := by
    unfold Region.wanted
    cases hg : o.guard with
    | none => rfl
    | some g =>
      obtain ⟨j, x⟩ := g
      dsimp only
      have : yielded ops a.tmps j = yielded ops b.tmps j := by
        unfold yielded
        cases hd : (ops[j]?).bind (·.dst) with
        | none => rfl
        | some t =>
          have hm : t ∈ readsT ops o := by
            unfold readsT
            rw [hg]
            refine List.mem_append.2 (.inr ?_)
            show t ∈ ((ops[j]?).bind (·.dst)).toList
            rw [hd]
            simp
          simp only [Option.bind_some]
          rw [hr t hm]
      rw [this]
  have he : execOp a.eval o = execOp b.eval o := by
    refine execOp_congr o hsel fun x hx => ?_
    cases x with
    | tmp t =>
      have hm : t ∈ readsT ops o := by
        unfold readsT
        refine List.mem_append.2 (.inl ?_)
        rw [List.mem_filterMap]
        exact ⟨.tmp t, by simpa using hx, rfl⟩
      have := hr t hm
      simp only [Act.eval, Array.getD_eq_getD_getElem?, this]
    | _ => rfl
  unfold wpOp
  rw [ho]
  dsimp only
  unfold wpList at h
  rw [hw]
  by_cases hwd : Region.wanted o (yielded ops b.tmps) = true
  · rw [if_pos hwd] at h ⊢
    left
    rcases h with h | ⟨_, _, _, h, _⟩
    · unfold Oper.wp at *
      rw [he]
      generalize (execOp b.eval o).run P w = r at h
      have key : ∀ u w', wpList P ops (fun e a' w' => e = .normal ∧ a' = b.put o.dst v ∧ S w') [] (b.put o.dst u) w' → K (a.put o.dst u) w' := fun u w' h => by
        unfold wpList at h
        rw [put_inj hs h.2.1]
        exact hK w' h.2.2
      cases r with
      | halt x w' =>
        cases x <;> simp only [Oper.upon] at h ⊢
        exact absurd h.1 (by simp)
      | ok n w' =>
        cases n with
        | value u => exact key u w' h
        | skip => exact key undef w' h
        | defer d =>
          simp only [Oper.upon] at h
          unfold wpList at h
          have h1 := congrArg Act.defers h.2.1
          rw [put_defers, put_defers] at h1
          exact absurd (congrArg List.length h1) (by simp)
        | enter f args =>
          simp only [Oper.upon] at h ⊢
          refine Calls.mono h fun e w'' he => ?_
          cases e with
          | returned u => exact key u w'' he
          | panicked c => exact absurd he.1 (by simp)
          | outgrown =>
            obtain ⟨_, _, h1, _⟩ := he
            cases h1
        | row r args =>
          simp only [Oper.upon] at h ⊢
          exact Rows.mono h fun u w'' he => key u w'' he
        | _ => simp only [Oper.upon] at h
    · cases h
  · rw [if_neg hwd] at h ⊢
    unfold wpList at h
    rw [put_inj hs h.2.1]
    exact hK w h.2.2

/-- How many below n are not of f. -/
def lacks : Nat → (Nat → Bool) → Nat
  | 0, _ => 0
  | n + 1, f => lacks n f + if f n then 0 else 1
theorem lacks_all (f : Nat → Bool) : ∀ n, lacks n f = 0 → ∀ i, i < n → f i = true
  | 0, _, i, hi => absurd hi (by omega)
  | n + 1, h, i, hi => by
    unfold lacks at h
    by_cases hn : f n = true
    · by_cases hin : i = n
      · rw [hin]; exact hn
      · exact lacks_all f n (by omega) i (by omega)
    · rw [if_neg hn] at h; omega
theorem lacks_same {f g : Nat → Bool} : ∀ n, (∀ j, j < n → f j = g j) → lacks n f = lacks n g
  | 0, _ => rfl
  | n + 1, h => by unfold lacks; rw [lacks_same n (fun j hj => h j (by omega)), h n (by omega)]
theorem lacks_one {f g : Nat → Bool} {i : Nat} (hf : f i = false) (hg : ∀ j, g j = (f j || decide (j = i))) : ∀ n, i < n → lacks n f = lacks n g + 1
  | 0, h => absurd h (by omega)
  | n + 1, h => by
    unfold lacks
    by_cases hin : i = n
    · subst hin
      have h1 : lacks i f = lacks i g := lacks_same i fun j hj => by rw [hg j]; simp; intro; omega
      rw [h1, hf, hg i]
      simp
    · have h1 := lacks_one hf hg n (by omega)
      have h2 : g n = f n := by rw [hg n]; simp; intro; omega
      rw [h1, h2]
      omega
theorem lacks_none : ∀ n, lacks n (fun _ => false) = n
  | 0 => rfl
  | n + 1 => by unfold lacks; rw [lacks_none n]; rfl

theorem wpAny_float {S : World → Prop} (hB : floatB ops = true) {ac : Nat → Act} (hac : ∀ i, Flo ops a0 vs (fun j => decide (j < i)) (ac i))
    (hstep : ∀ i o, ops[i]? = some o → ∀ w, S w → wpList P ops (fun e a' w' => e = .normal ∧ a' = (ac i).put o.dst (vs i) ∧ S w') [o] (ac i) w)
    (hend : ∀ w, S w → Q .normal (ac ops.size) w) :
    ∀ (fuel : Nat) (listed : Array Bool) (a : Act) (w : World), Closed .any ops listed → listed.size = ops.size → lacks ops.size (fun j => listed.getD j false) = fuel → Flo ops a0 vs (fun j => listed.getD j false) a → S w → wpAny P .any ops Q fuel listed a w := by
  have hnone : ∀ (listed : Array Bool), listed.size = ops.size → Region.ready .any ops listed = [] → ∀ i, i < ops.size → listed.getD i false = true := by
    intro listed hsz hr i
    induction i using Nat.strongRecOn with
    | _ i ih =>
      intro hi
      cases hl : listed.getD i false with
      | true => rfl
      | false =>
        exfalso
        have ho : ops[i]? = some ops[i] := Array.getElem?_eq_getElem hi
        have hm : i ∈ Region.ready .any ops listed := by
          rw [mem_ready]
          refine ⟨?_, ops[i], ho, fun e he hb => ?_⟩
          · have hi2 : i < listed.size := by omega
            simp only [Array.getD_eq_getD_getElem?, Array.getElem?_eq_getElem hi2, Option.getD_some] at hl ⊢
            exact hl
          · have h1 := floatB_after hB ho e he hb
            exact ih e.on h1 (by omega)
        rw [hr] at hm
        cases hm
  have hfin : ∀ (listed : Array Bool) (a : Act) (w : World), (∀ i, i < ops.size → listed.getD i false = true) → Flo ops a0 vs (fun j => listed.getD j false) a → S w → Q .normal a w := by
    intro listed a w hall hf hS
    have : a = ac ops.size := by
      have h1 : a.tmps = (ac ops.size).tmps := by
        refine Array.ext_getElem? fun t => ?_
        refine hf.agree (hac ops.size) fun j o hj _ => ?_
        have hjs := (Array.getElem?_eq_some_iff.1 hj).1
        rw [hall j hjs]
        simp [hjs]
      have h2 : a.defers = (ac ops.size).defers := by rw [hf.defers, (hac ops.size).defers]
      cases a
      cases hx : ac ops.size
      rw [hx] at h1 h2
      simp only at h1 h2
      rw [h1, h2]
    rw [this]
    exact hend w hS
  intro fuel
  induction fuel with
  | zero =>
    intro listed a w hcl hsz hlk hf hS
    have hall := lacks_all _ _ hlk
    refine ⟨?_, hfin listed a w hall hf hS⟩
    rw [List.eq_nil_iff_forall_not_mem]
    intro i hi
    obtain ⟨h1, o, ho, _⟩ := mem_ready.1 hi
    have his := (Array.getElem?_eq_some_iff.1 ho).1
    have h2 := hall i his
    have hi2 : i < listed.size := by omega
    simp only [Array.getD_eq_getD_getElem?, Array.getElem?_eq_getElem hi2, Option.getD_some] at h1 h2
    rw [h1] at h2
    cases h2
  | succ fuel ih =>
    intro listed a w hcl hsz hlk hf hS
    refine ⟨fun hr => hfin listed a w (hnone listed hsz hr) hf hS, fun i hi => ?_⟩
    obtain ⟨h1, o, ho, hall⟩ := mem_ready.1 hi
    have his := (Array.getElem?_eq_some_iff.1 ho).1
    have hi2 : i < listed.size := by omega
    have hun : listed.getD i false = false := by
      simp only [Array.getD_eq_getD_getElem?, Array.getElem?_eq_getElem hi2, Option.getD_some] at h1 ⊢
      exact h1
    have hset : ∀ j, (listed.setIfInBounds i true).getD j false = (listed.getD j false || decide (j = i)) := fun j => by
      by_cases hji : j = i
      · subst hji
        simp [Array.getD_eq_getD_getElem?, hi2]
      · rw [getD_set_ne false (Ne.symm hji)]
        simp [hji]
    have hsel := fun cs b => Region.noSelect_spec (ops := ops) (by unfold floatB at hB; rw [Bool.and_eq_true] at hB; exact hB.1) i o cs b ho
    refine wpOp_float (S := S) (b := ac i) (v := vs i) ho hsel (fun t ht => ?_) (by rw [hf.size, (hac i).size]) (fun w' hS' => ?_) (hstep i o ho w hS)
    · refine hf.agree (hac i) fun j oj hj hd => ?_
      rcases (floatB_pair hB ho hj hd).2 ht with ⟨h2, h3⟩ | ⟨h2, h3⟩ | h2
      · rw [hcl.ready h3 hi]
        simp [h2]
      · have h4 : decide (j < i) = false := by simp; omega
        rw [h4]
        cases hlj : listed.getD j false with
        | false => rfl
        | true =>
          have := hcl.waits _ _ _ h3 hlj
          rw [hun] at this
          cases this
      · subst h2
        rw [hun]
        simp
    · refine ih (listed.setIfInBounds i true) _ w' (hcl.set_ hi) (by rw [Array.size_setIfInBounds]; exact hsz) ?_ (hf.put hB ho hset) hS'
      have := lacks_one (f := fun j => listed.getD j false) (g := fun j => (listed.setIfInBounds i true).getD j false) hun hset ops.size his
      omega

/-- The row, walked in its own order: each operation in any world of S. -/
def wpFloat (P : Program) (ops : Array Oper) (S : World → Prop) (K : Act → Prop) : List Oper → Act → Prop
  | [], a => K a
  | o :: os, a => ∃ v, (∀ w, S w → wpList P ops (fun e a' w' => e = .normal ∧ a' = a.put o.dst v ∧ S w') [o] a w) ∧ wpFloat P ops S K os (a.put o.dst v)

theorem float_open {S : World → Prop} {K : Act → Prop} : ∀ (os : List Oper) (a : Act), wpFloat P ops S K os a → ∃ (vs : Nat → Value) (ac : Nat → Act), ac 0 = a ∧
    (∀ i o, os[i]? = some o → (∀ w, S w → wpList P ops (fun e a' w' => e = .normal ∧ a' = (ac i).put o.dst (vs i) ∧ S w') [o] (ac i) w) ∧ ac (i + 1) = (ac i).put o.dst (vs i)) ∧ (∀ i, os.length ≤ i → ac i = ac os.length) ∧ K (ac os.length)
  | [], a, h => ⟨fun _ => undef, fun _ => a, rfl, fun i o h => by simp at h, fun _ _ => rfl, h⟩
  | o :: os, a, h => by
    obtain ⟨v, h1, h2⟩ := h
    obtain ⟨vs, ac, e0, hs, hl, hk⟩ := float_open os _ h2
    refine ⟨fun i => match i with | 0 => v | i + 1 => vs i, fun i => match i with | 0 => a | i + 1 => ac i, rfl, fun i o' ho => ?_, fun i hi => ?_, hk⟩
    · cases i with
      | zero =>
        simp only [List.getElem?_cons_zero, Option.some.injEq] at ho
        subst ho
        exact ⟨h1, e0⟩
      | succ i => exact hs i o' (by simpa using ho)
    · cases i with
      | zero => simp at hi
      | succ i => exact hl i (by simpa using hi)

/-- A REGION THAT DRAWS ITS ORDER, WHERE EVERY OPERATION FLOATS IN S. -/
theorem wp_region_float {id : Nat} {w : World} {l : List Oper} (S : World → Prop) (hm : P.follows .mixedOrders = true) (hB : floatB l.toArray = true) (hS : S w.drew)
    (h : wpFloat P l.toArray S (fun a' => ∀ w', S w' → Q .normal a' w') l a) : (Code.region id l.toArray true).wp P Q a w := by
  obtain ⟨vs, ac, e0, hs, hl, hk⟩ := float_open _ _ h
  have hsz : l.toArray.size = l.length := by simp
  have hget : ∀ i : Nat, l.toArray[i]? = l[i]? := fun i => List.getElem?_toArray ..
  have hac : ∀ i, Flo l.toArray a vs (fun j => decide (j < i)) (ac i) := by
    intro i
    induction i with
    | zero => rw [e0]; exact Flo.start fun j => by simp
    | succ i ih =>
      cases hx : l[i]? with
      | none =>
        have hle : l.length ≤ i := by
          rcases Nat.lt_or_ge i l.length with h1 | h1
          · rw [List.getElem?_eq_getElem h1] at hx; cases hx
          · exact h1
        rw [hl (i + 1) (by omega), ← hl i hle]
        refine ⟨ih.defers, ih.size, fun j o t hj hd hlt hs => ih.hit j o t hj hd ?_ hs, fun t ht => ih.miss t fun j o hj hd => ?_⟩
        · have := (Array.getElem?_eq_some_iff.1 hj).1
          simp at this ⊢
          omega
        · have := ht j o hj hd
          simp at this ⊢
          omega
      | some o =>
        rw [(hs i o hx).2]
        refine ih.put hB (by rw [hget]; exact hx) fun j => ?_
        rw [Bool.eq_iff_iff]
        simp
        omega
  refine wp_region_any hm ?_
  refine wpAny_float (S := S) hB hac (fun i o ho => (hs i o (by rw [← hget]; exact ho)).1) (fun w hw => by rw [hsz]; exact hk w hw) _ _ a _ (Closed.start _ _ _) (by simp) ?_ (Flo.start fun j => getD_replicate_false _ _) hS
  have : (fun j => (Array.replicate l.toArray.size false).getD j false) = fun _ => false := funext fun j => getD_replicate_false _ _
  rw [this, lacks_none]
end
end Go.Inq

namespace Go.Proofs.YtphcebgpllecjaaGreatDoor
open Go.RowKit Go.Inq
set_option maxHeartbeats 1000000
attribute [local go_sem ↓] Go.wp_at_zero Go.wp_at_succ

theorem word_len (k : Nat) : (wordK k).length ≤ 10 := by
  unfold wordK
  split <;> simp
theorem rword_any (k : Nat) (w : World) : Calls Tryz.prog 60 #[.int .i64 k] w fun e w' => e = .returned (.string (mk (wordK k))) ∧ w = w' := by
  have h : k = 0 ∨ k = 1 ∨ k = 2 ∨ k = 3 ∨ 4 ≤ k := by omega
  rcases h with rfl | rfl | rfl | rfl | h
  iterate 4
    · go_enter Tryz.func60, Tryz.ntmps60
      go_wp2
      go_ret
      exact ⟨rfl, rfl⟩
  · have e0 : ((k : Int) == 0) = false := by simp; omega
    have e1 : ((k : Int) == 1) = false := by simp; omega
    have e2 : ((k : Int) == 2) = false := by simp; omega
    have e3 : ((k : Int) == 3) = false := by simp; omega
    have ew : Hid (wordK k = [97, 98, 111, 114, 116]) := by unfold Hid wordK; split <;> first | rfl | omega
    go_enter Tryz.func60, Tryz.ntmps60
    go_wp2
    go_ret
    exact ⟨by rw [ew.out]; rfl, rfl⟩
theorem rdigits03_any (n : Nat) (w : World) (hn : n ≤ 2147483647) : Calls Tryz.prog 72 #[.int .i64 n] w fun e w' => e = .returned (.string (mk (numR n))) ∧ Below w.heap.size w w' := by
  have hs := rshow01_any n w
  have e : showN (n : Int) = (numR n, 0) := by unfold showN; rw [if_pos (by omega)]; rfl
  rw [e] at hs
  go_enter Tryz.func72, Tryz.ntmps72
  go_wp2_with (go_at_call 91; refine hs.mono ?_; rintro e w' ⟨rfl, hb⟩)
  go_ret
  exact ⟨rfl, hb⟩

theorem rshow03_any (e : Ev) (w : World) : Calls Tryz.prog 46 #[.agg #[.int .i64 e.kind, .int .i64 e.sess, .int .i64 e.key, .int .i64 e.val]] w fun x w' => x = .returned (.tuple #[.string (mk (showR e).1), .int .i64 (showR e).2]) ∧ Below w.heap.size w w' := by
  have hr := rright_any e
  by_cases h : e.right = true
  · obtain ⟨⟨k, hk, ek⟩, ⟨s, hs, es⟩, hc⟩ := right_facts h
    obtain ⟨kind, sess, key, val⟩ := e
    simp only at ek es
    subst ek es
    rw [h] at hr
    go_enter Tryz.func46, Tryz.ntmps46
    go_wp2_with (go_at_call 38; refine (hr _).mono ?_; rintro e w1 ⟨rfl, hb⟩)
    have kA : Blk (w.alloc (.cells #[.int .i64 k, .int .i64 s, .int .i64 key, .int .i64 val] 56)) w.heap.size 56 _ := Blk.new _ _ _
    have hA : Below w.heap.size w (w.alloc (.cells #[.int .i64 k, .int .i64 s, .int .i64 key, .int .i64 val] 56)) := (Below.refl _ _).alloc (Nat.le_refl _) _
    have hB1 : Below w.heap.size w w1 := hA.trans (hb.mono hA.size)
    have kB : Blk w1 w.heap.size 56 #[.int .i64 k, .int .i64 s, .int .i64 key, .int .i64 val] := kA.below hb kA.lt
    clear hb hA kA
    have hc0 : ∀ W, Below w1.heap.size w1 W → W.cell? ⟨w.heap.size, 0, none⟩ = some (.int .i64 k) := fun W hW => (kB.below hW kB.lt).cell 0
    have hc1 : ∀ W, Below w1.heap.size w1 W → W.cell? ⟨w.heap.size, 1, none⟩ = some (.int .i64 s) := fun W hW => (kB.below hW kB.lt).cell 1
    have hc2 : ∀ W, Below w1.heap.size w1 W → W.cell? ⟨w.heap.size, 2, none⟩ = some (.int .i64 key) := fun W hW => (kB.below hW kB.lt).cell 2
    have hc3 : ∀ W, Below w1.heap.size w1 W → W.cell? ⟨w.heap.size, 3, none⟩ = some (.int .i64 val) := fun W hW => (kB.below hW kB.lt).cell 3
    refine wp_region_float (fun W => Below w1.heap.size w1 W) (by kernel_rfl) (by kernel_rfl) (Below.refl _ _).drew ?_
    have z0 : (mk (wordK k)).size ≤ 10 := by rw [mk_size]; exact word_len k
    have z1 : (mk (numR s)).size ≤ 10 := by rw [mk_size]; exact numR_ten (by omega)
    have z2 : (mk (wordK k) ++ { data := #[32] }).size ≤ 11 := by rw [ByteArray.size_append]; exact Nat.add_le_add z0 (Nat.le_refl _)
    have z3 : (mk (wordK k) ++ { data := #[32] } ++ mk (numR s)).size ≤ 21 := by rw [ByteArray.size_append]; omega
    refine ⟨.pointer (some ⟨w.heap.size, 0, none⟩), fun W hW => (by go_wp2), ?_⟩
    refine ⟨.int .i64 k, fun W hW => (by have c0 := hc0 W hW; go_wp2), ?_⟩
    refine ⟨.string (mk (wordK k)), fun W hW => (by go_wp2_with (go_at_call 60; refine (rword_any k _).mono ?_; rintro e w' ⟨rfl, rfl⟩)), ?_⟩
    refine ⟨.string (mk (wordK k) ++ { data := #[32] }), fun W hW => (by go_wp2), ?_⟩
    refine ⟨.pointer (some ⟨w.heap.size, 1, none⟩), fun W hW => (by go_wp2), ?_⟩
    refine ⟨.int .i64 s, fun W hW => (by have c1 := hc1 W hW; go_wp2), ?_⟩
    refine ⟨.string (mk (numR s)), fun W hW => (by go_wp2_with (go_at_call 72; refine (rdigits03_any s _ (by omega)).mono ?_; rintro e w' ⟨rfl, hb⟩; replace hW := hW.trans (hb.mono hW.size))), ?_⟩
    refine ⟨.string (mk (wordK k) ++ { data := #[32] } ++ mk (numR s)), fun W hW => (by go_wp2), ?_⟩
    refine ⟨.string (mk (wordK k) ++ { data := #[32] } ++ mk (numR s)), fun W hW => (by go_wp2), ?_⟩
    intro w2 hw2
    simp only [Act.put]
    have kC := kB.below hw2 kB.lt
    have hB2 := hB1.trans (hw2.mono hB1.size)
    have g0 := hc0 w2 hw2
    have hF : Hid (mk (wordK k) ++ { data := #[32] } ++ mk (numR s) = mk (wordK k ++ 32 :: numR s)) := by
      unfold Hid
      rw [show ({ data := #[32] } : ByteArray) = mk [32] from rfl, ← mk_append, ← mk_append, List.append_assoc, List.singleton_append]
    clear hc0 hc1 hc2 hc3 hw2 kB hB1 hr z0 z1 z2
    generalize mk (wordK k) ++ { data := #[32] } ++ mk (numR s) = F at *
    rcases hc with ⟨hi, ⟨y, hy, ey⟩, v, hv, ev⟩ | ⟨hi, ey, ev⟩
    · have hsh : Hid (showR { kind := k, sess := s, key := key, val := val } = (wordK k ++ 32 :: numR s ++ (32 :: numR y ++ 32 :: numR v), 0)) := by
        unfold Hid showR
        rw [if_neg (by rw [h]; simp)]
        dsimp only
        rw [hi, if_pos rfl, ey, ev]
        simp only [Int.toNat_natCast]
      subst ey ev
      have hk12 : ((k : Int) == 1) = true ∨ (((k : Int) == 1) = false ∧ ((k : Int) == 2) = true) := by
        unfold itemB at hi
        rw [Bool.or_eq_true] at hi
        rcases hi with h1 | h1
        · exact .inl h1
        · refine .inr ⟨?_, h1⟩
          simp at h1 ⊢
          omega
      have z0 : F.size + 1 ≤ 22 := by omega
      have z1 : (mk (numR y)).size ≤ 10 := by rw [mk_size]; exact numR_ten (by omega)
      have z2 : (mk (numR v)).size ≤ 10 := by rw [mk_size]; exact numR_ten (by omega)
      have z4 : (F ++ { data := #[32] }).size ≤ 22 := by rw [ByteArray.size_append]; exact z0
      have z5 : (F ++ { data := #[32] } ++ mk (numR y)).size ≤ 32 := by rw [ByteArray.size_append]; omega
      have z6 : (F ++ { data := #[32] } ++ mk (numR y) ++ { data := #[32] }).size ≤ 33 := by rw [ByteArray.size_append]; exact Nat.succ_le_succ z5
      have hG : Hid (F ++ { data := #[32] } ++ mk (numR y) ++ { data := #[32] } ++ mk (numR v) = mk (wordK k ++ 32 :: numR s ++ (32 :: numR y ++ 32 :: numR v))) := by
        unfold Hid
        rw [hF.out, show ({ data := #[32] } : ByteArray) = mk [32] from rfl, ← mk_append, ← mk_append, ← mk_append, ← mk_append]
        simp only [List.append_assoc, List.cons_append, List.nil_append]
      have hy2 : y ≤ 2147483647 := by omega
      clear h hi hy
      have hd2 : ∀ W, Below w2.heap.size w2 W → W.cell? ⟨w.heap.size, 2, none⟩ = some (.int .i64 y) := fun W hW => (kC.below hW kC.lt).cell 2
      have hd3 : ∀ W, Below w2.heap.size w2 W → W.cell? ⟨w.heap.size, 3, none⟩ = some (.int .i64 v) := fun W hW => (kC.below hW kC.lt).cell 3
      rcases hk12 with e1 | ⟨e1, e2⟩
      all_goals (
        go_wp2
        refine wp_region_float (fun W => Below w2.heap.size w2 W) (by kernel_rfl) (by kernel_rfl) (Below.refl _ _).drew ?_
        refine ⟨.string F, fun W hW => (by go_wp2), ?_⟩
        refine ⟨.string (F ++ { data := #[32] }), fun W hW => (by go_wp2), ?_⟩
        refine ⟨.pointer (some ⟨w.heap.size, 2, none⟩), fun W hW => (by go_wp2), ?_⟩
        refine ⟨.int .i64 y, fun W hW => (by have c2 := hd2 W hW; go_wp2), ?_⟩
        refine ⟨.string (mk (numR y)), fun W hW => (by go_wp2_with (go_at_call 72; refine (rdigits03_any y _ (by omega)).mono ?_; rintro e w' ⟨rfl, hb⟩; replace hW := hW.trans (hb.mono hW.size))), ?_⟩
        refine ⟨.string (F ++ { data := #[32] } ++ mk (numR y)), fun W hW => (by go_wp2), ?_⟩
        refine ⟨.string (F ++ { data := #[32] } ++ mk (numR y) ++ { data := #[32] }), fun W hW => (by go_wp2), ?_⟩
        refine ⟨.pointer (some ⟨w.heap.size, 3, none⟩), fun W hW => (by go_wp2), ?_⟩
        refine ⟨.int .i64 v, fun W hW => (by have c3 := hd3 W hW; go_wp2), ?_⟩
        refine ⟨.string (mk (numR v)), fun W hW => (by go_wp2_with (go_at_call 72; refine (rdigits03_any v _ (by omega)).mono ?_; rintro e w' ⟨rfl, hb⟩; replace hW := hW.trans (hb.mono hW.size))), ?_⟩
        refine ⟨.string (F ++ { data := #[32] } ++ mk (numR y) ++ { data := #[32] } ++ mk (numR v)), fun W hW => (by go_wp2), ?_⟩
        refine ⟨.string (F ++ { data := #[32] } ++ mk (numR y) ++ { data := #[32] } ++ mk (numR v)), fun W hW => (by go_wp2), ?_⟩
        intro w3 hw3
        have hB3 := hB2.trans (hw3.mono hB2.size)
        simp only [Act.put]
        clear hd2 hd3 hw3
        generalize F ++ { data := #[32] } ++ mk (numR y) ++ { data := #[32] } ++ mk (numR v) = G at *
        go_wp2
        go_ret2
        exact ⟨by rw [hsh.out, ← hG.out]; rfl, hB3⟩)
    · have hsh : Hid (showR { kind := k, sess := s, key := key, val := val } = (wordK k ++ 32 :: numR s, 0)) := by
        unfold Hid showR
        rw [if_neg (by rw [h]; simp)]
        dsimp only
        rw [hi, if_neg (by simp)]
        simp only [Int.toNat_natCast, List.append_nil]
      have e1 : ((k : Int) == 1) = false ∧ ((k : Int) == 2) = false := by unfold itemB at hi; rw [Bool.or_eq_false_iff] at hi; exact hi
      obtain ⟨e1, e2⟩ := e1
      clear h hi
      go_wp2
      go_ret2
      exact ⟨by rw [hsh.out, ← hF.out]; rfl, hB2⟩
  · have h' : e.right = false := by simpa using h
    have hsh : Hid (showR e = ([], 1)) := by unfold Hid showR; rw [if_pos h']
    rw [h'] at hr
    obtain ⟨kind, sess, key, val⟩ := e
    clear h h'
    go_enter Tryz.func46, Tryz.ntmps46
    go_wp2_with (go_at_call 38; refine (hr _).mono ?_; rintro e w1 ⟨rfl, hb⟩)
    go_ret2
    have hA : Below w.heap.size w (w.alloc (.cells #[.int .i64 kind, .int .i64 sess, .int .i64 key, .int .i64 val] 56)) := (Below.refl _ _).alloc (Nat.le_refl _) _
    exact ⟨by rw [hsh.out]; rfl, hA.trans (hb.mono hA.size)⟩
end Go.Proofs.YtphcebgpllecjaaGreatDoor

namespace Go.Proofs.YtphcebgpllecjaaGreatDoor
open Go.RowKit Go.Inq
set_option maxHeartbeats 1000000
attribute [local go_sem ↓] Go.wp_at_zero Go.wp_at_succ
theorem sign_any (b : UInt8) (w : World) : Calls Tryz.prog 84 #[.int .u8 b.toNat] w fun e w' => e = .returned (.bool (signB b)) ∧ w = w' := by
  have e : signB b = (decide (33 ≤ (b.toNat : Int)) && decide ((b.toNat : Int) ≤ 126)) := by
    unfold signB
    rw [Bool.eq_iff_iff]
    simp [UInt8.le_iff_toNat_le]
    omega
  by_cases h0 : 33 ≤ (b.toNat : Int)
  · have h0' : decide (33 ≤ (b.toNat : Int)) = true := by simpa using h0
    have e2 := hide e
    clear e
    go_enter Tryz.func84, Tryz.ntmps84
    go_wp2
    go_ret
    exact ⟨ret_bool (by rw [e2.out, h0']; simp), rfl⟩
  · have h0' : decide (33 ≤ (b.toNat : Int)) = false := by simpa using h0
    have e2 := hide e
    clear e
    go_enter Tryz.func84, Tryz.ntmps84
    go_wp2
    go_ret
    exact ⟨ret_bool (by rw [e2.out, h0']; simp), rfl⟩

theorem byte_sp (b : UInt8) : ((b.toNat : Int) != 32) = decide (b ≠ 32) := by
  rw [Bool.eq_iff_iff, bne_iff_ne, decide_eq_true_iff]
  constructor
  · intro h e; apply h; rw [e]; rfl
  · intro h e; exact h (UInt8.toNat_inj.1 (by simpa using Int.ofNat_inj.1 e))

theorem sign_yes {b : UInt8} (h : signB b = true) (w : World) : Calls Tryz.prog 84 #[.int .u8 b.toNat] w fun e w' => e = .returned (.bool true) ∧ w = w' := by
  have := sign_any b w
  rw [h] at this
  exact this
theorem sign_no {b : UInt8} (h : signB b = false) (w : World) : Calls Tryz.prog 84 #[.int .u8 b.toNat] w fun e w' => e = .returned (.bool false) ∧ w = w' := by
  have := sign_any b w
  rw [h] at this
  exact this

end Go.Proofs.YtphcebgpllecjaaGreatDoor

namespace Go.Proofs.YtphcebgpllecjaaGreatDoor
open Go.RowKit Go.Inq
set_option maxHeartbeats 2000000
attribute [local go_sem ↓] Go.wp_at_zero Go.wp_at_succ
set_option maxRecDepth 100000 in
theorem rwords_any (s : ByteArray) (w : World) (hs : s.size ≤ 1000000) : Calls Tryz.prog 59 #[.string s] w (RowOut (wordsR s.data.toList) w) := by
  obtain ⟨i0, hi0, hz0, hz1, hz2⟩ := info_parts infoS
  have hsl : Hid (s.size = s.data.toList.length) := Lib.size_eq s
  have hat := hide (fun (k : Nat) (hk : k < s.size) => bytes_at s hk)
  go_enter Tryz.func59, Tryz.ntmps59
  go_wp2
  go_loopw [4, 5, 6] (fun s4 s5 _ wr => ∃ (a : Nat) (D : List (List UInt8)), a ≤ s.size ∧ s5 = .int .i64 a ∧ D.length ≤ a ∧ Hid (segs 32 (s.data.toList.take a) = (D, [])) ∧ Hid (∀ w ∈ D, wordB w = true) ∧
      wr.ownsRow w.heap.size 9 1 s4 (D.map mk).length ((D.map mk).map encS).flatten ∧ Below w.heap.size w wr) (fun _ s5 _ _ => s.size - (intOf s5).toNat)
  case atStart => exact ⟨0, [], Nat.zero_le _, by go_num, Nat.zero_le _, rfl, (fun w h => by cases h), World.ownsRow_nil _ _ _ _, Below.refl _ _⟩
  case round =>
    obtain ⟨a, D, ha, rfl, hDa, hP, hD, hown, hb⟩ := hrel
    have ha1 : (0 : Int) ≤ (a : Int) := Int.natCast_nonneg _
    have ha2 : (a : Int) ≤ (s.size : Int) := by omega
    have hml : Hid ((D.map mk).length = D.length) := by unfold Hid; simp
    go_wp2
    go_loop [6] (fun s6 => ∃ t : Nat, a ≤ t ∧ t ≤ s.size ∧ s6 = .int .i64 t ∧ Hid (∀ k (hk : k < s.data.toList.length), a ≤ k → k < t → signB s.data.toList[k] = true)) (fun s6 => s.size - (intOf s6).toNat)
    case atStart => exact ⟨a, Nat.le_refl _, ha, rfl, fun k _ h1 h2 => absurd h2 (by omega)⟩
    case round =>
      obtain ⟨t, hat1, hts, rfl, hsg⟩ := hrel
      have ht1 : (0 : Int) ≤ (t : Int) := Int.natCast_nonneg _
      have ht2 : (a : Int) ≤ (t : Int) := by omega
      have ht3 : (t : Int) ≤ (s.size : Int) := by omega
      have hex := hide (mk_extract s a t)
      by_cases hlt : t < s.size
      · have hlt2 : (t : Int) < (s.size : Int) := by omega
        obtain ⟨hlt3, hbt⟩ := hat.out t hlt
        have hbt := hide hbt
        have hd : decide ((t : Int) < (s.size : Int)) = true := by simp; omega
        have hne : ((t : Int) == (s.size : Int)) = false := by simp; omega
        by_cases hsn : signB s[t] = true
        · have hsg2 : Hid (∀ k (hk : k < s.data.toList.length), a ≤ k → k < t + 1 → signB s.data.toList[k] = true) := fun k hk h1 h2 => by
            by_cases hkt : k = t
            · subst hkt; rw [← hbt.out]; exact hsn
            · exact hsg.out k hk h1 (by omega)
          go_wp2_with (go_at_call 84; refine (sign_yes hsn _).mono ?_; rintro e w' ⟨rfl, rfl⟩)
          go_round
          case rel => exact ⟨t + 1, by omega, by omega, by go_num, hsg2⟩
          case measure => simp [intOf]; omega
        · have hsn2 : signB s[t] = false := by simpa using hsn
          clear hsn
          by_cases hta : t = a
          · subst hta
            have hhere : Hid (signB s[t] = false) := hsn2
            have hq : ((t : Int) == (t : Int)) = true := by simp
            go_wp2_with (go_at_call 84; refine (sign_no hhere.out _).mono ?_; rintro e w' ⟨rfl, rfl⟩)
            have hr : Hid (wordsR s.data.toList = ([], 2)) := words_here (l := s.data.toList) hP.out (by rw [← hsl.out]; omega) (.inr ⟨hlt3, by rw [← hbt.out]; exact hhere.out⟩)
            clear hhere
            go_wp2
            go_ret2
            exact ⟨.slice none 0 0, by rw [hr.out]; rfl, by rw [hr.out]; exact StrS.nil _ _ _ _, hb⟩
          · have hq : ((t : Int) == (a : Int)) = false := by simp; omega
            have hhere := hide hsn2
            clear hsn2
            by_cases h32 : s[t] = 32
            · have h32' : ((s[t].toNat : Int) != 32) = false := by rw [byte_sp]; simpa using h32
              have h32d : (((s.data[t]'hlt).toNat : Int) != 32) = false := h32'
              have hP2 : Hid (segs 32 (s.data.toList.take (t + 1)) = (D ++ [(s.data.toList.drop a).take (t - a)], [])) := words_next hP.out hat1 hsg.out hlt3 (by rw [← hbt.out]; exact h32)
              have hD2 : Hid (∀ w ∈ D ++ [(s.data.toList.drop a).take (t - a)], wordB w = true) := fun w hw => by
                rcases List.mem_append.1 hw with h | h
                · exact hD.out w h
                · rw [List.mem_singleton] at h; subst h
                  exact word_of (by omega) (by omega) hsg.out
              clear h32
              go_wp2_with (first | (go_at_call 84; refine (sign_no hhere.out _).mono ?_; rintro e w' ⟨rfl, rfl⟩) | (at_builtin; refine wpList_append_flat (enc := encS) rfl (.tmp 23) (.tmp 28) 68 rfl w.heap.size 9 i0 _ 1 16 Tryz.underlying68 hi0 hz0 hz1 hz2 rfl (by decide) _ (fun b => b = wr.heap.size) (D.map mk) rfl (hown.alloc _) (fun _ => rfl) _ [s.extract a t] rfl (SlR.one (Blk.new _ _ _) rfl rfl rfl) encS_one (by simp [maxLen]; omega) (by simp; omega) (by have := hb.size; simp; omega) ?_; intro v1 W1 hown1 hgrow1 hat1))
              have hown2 : W1.ownsRow w.heap.size 9 1 v1 ((D ++ [(s.data.toList.drop a).take (t - a)]).map mk).length (((D ++ [(s.data.toList.drop a).take (t - a)]).map mk).map encS).flatten := by
                rw [List.map_append, List.map_cons, List.map_nil, ← hex.out]; exact hown1
              have hB := (hb.alloc hb.size (.cells #[.string (s.extract a t)] 9)).grown hgrow1 (by have := hb.size; simp; omega) (fun g hg => (hown.lt g hg).1)
              have hsig : Hid (∀ k (hk : k < s.data.toList.length), a ≤ k → k < t → signB s.data.toList[k] = true) := hsg
              clear hown1 hgrow1 hat1 hown hb
              go_roundw
              case rel => exact ⟨t + 1, D ++ [(s.data.toList.drop a).take (t - a)], by omega, by go_num, by simp; omega, hP2, hD2, hown2, hB⟩
              case measure => simp [intOf]; omega
            · have h32' : ((s[t].toNat : Int) != 32) = true := by rw [byte_sp]; simpa using h32
              have h32d : (((s.data[t]'hlt).toNat : Int) != 32) = true := h32'
              have hr : Hid (wordsR s.data.toList = ([], 2)) := words_not hP.out hat1 hsg.out hlt3 (by rw [← hbt.out]; exact hhere.out) (by rw [← hbt.out]; exact h32)
              clear h32
              go_wp2_with (first | (go_at_call 84; refine (sign_no hhere.out _).mono ?_; rintro e w' ⟨rfl, rfl⟩) | (at_builtin; refine wpList_append_flat (enc := encS) rfl (.tmp 23) (.tmp 28) 68 rfl w.heap.size 9 i0 _ 1 16 Tryz.underlying68 hi0 hz0 hz1 hz2 rfl (by decide) _ (fun b => b = wr.heap.size) (D.map mk) rfl (hown.alloc _) (fun _ => rfl) _ [s.extract a t] rfl (SlR.one (Blk.new _ _ _) rfl rfl rfl) encS_one (by simp [maxLen]; omega) (by simp; omega) (by have := hb.size; simp; omega) ?_; intro v1 W1 hown1 hgrow1 hat1))
              have hown2 : W1.ownsRow w.heap.size 9 1 v1 ((D ++ [(s.data.toList.drop a).take (t - a)]).map mk).length (((D ++ [(s.data.toList.drop a).take (t - a)]).map mk).map encS).flatten := by
                rw [List.map_append, List.map_cons, List.map_nil, ← hex.out]; exact hown1
              have hB := (hb.alloc hb.size (.cells #[.string (s.extract a t)] 9)).grown hgrow1 (by have := hb.size; simp; omega) (fun g hg => (hown.lt g hg).1)
              have hsig : Hid (∀ k (hk : k < s.data.toList.length), a ≤ k → k < t → signB s.data.toList[k] = true) := hsg
              clear hown1 hgrow1 hat1 hown hb
              go_ret2
              exact ⟨.slice none 0 0, by rw [hr.out]; rfl, by rw [hr.out]; exact StrS.nil _ _ _ _, hB⟩
      · have hts2 : t = s.size := by omega
        subst hts2
        have hd : decide ((s.size : Int) < (s.size : Int)) = false := by simp
        have hne : ((s.size : Int) == (s.size : Int)) = true := by simp
        by_cases hta : s.size = a
        · have hq : ((s.size : Int) == (a : Int)) = true := by simp; omega
          have hhere := hide hta
          clear hta
          have hr : Hid (wordsR s.data.toList = ([], 2)) := words_here (l := s.data.toList) hP.out (by rw [← hsl.out]; omega) (.inl (by rw [← hsl.out]; exact hhere.out.symm))
          clear hhere
          go_wp2
          go_ret2
          exact ⟨.slice none 0 0, by rw [hr.out]; rfl, by rw [hr.out]; exact StrS.nil _ _ _ _, hb⟩
        · have hq : ((s.size : Int) == (a : Int)) = false := by simp; omega
          have hre : Hid (wordsR s.data.toList = if 8 < D.length + 1 then ([], 2) else (D ++ [(s.data.toList.drop a).take (s.size - a)], 0)) := by
            have := words_end hP.out (by rw [← hsl.out]; omega) (fun k hk h1 => hsg.out k hk h1 (by rw [hsl.out]; exact hk)) hD.out
            rw [← hsl.out] at this
            exact this
          by_cases h8 : 8 < D.length + 1
          · have h8' : decide ((8 : Int) < ((D.map mk ++ [s.extract a s.size]).length : Int)) = true := by simp; omega
            go_wp2_with (at_builtin; refine wpList_append_flat (enc := encS) rfl (.tmp 23) (.tmp 28) 68 rfl w.heap.size 9 i0 _ 1 16 Tryz.underlying68 hi0 hz0 hz1 hz2 rfl (by decide) _ (fun b => b = wr.heap.size) (D.map mk) rfl (hown.alloc _) (fun _ => rfl) _ [s.extract a s.size] rfl (SlR.one (Blk.new _ _ _) rfl rfl rfl) encS_one (by simp [maxLen]; omega) (by simp; omega) (by have := hb.size; simp; omega) ?_; intro v1 W1 hown1 hgrow1 hat1; obtain ⟨A1, c1, rfl⟩ := own_slice hown1)
            have hown2 : W1.ownsRow w.heap.size 9 1 (.slice A1 (D.map mk ++ [s.extract a s.size]).length c1) ((D ++ [(s.data.toList.drop a).take (s.size - a)]).map mk).length (((D ++ [(s.data.toList.drop a).take (s.size - a)]).map mk).map encS).flatten := by
              rw [List.map_append, List.map_cons, List.map_nil, ← hex.out]; exact hown1
            have hB := (hb.alloc hb.size (.cells #[.string (s.extract a s.size)] 9)).grown hgrow1 (by have := hb.size; simp; omega) (fun g hg => (hown.lt g hg).1)
            have hsig : Hid (∀ k (hk : k < s.data.toList.length), a ≤ k → k < s.size → signB s.data.toList[k] = true) := hsg
            clear hown1 hgrow1 hat1 hown hb
            go_ret2
            exact ⟨.slice none 0 0, by rw [hre.out, if_pos h8]; rfl, by rw [hre.out, if_pos h8]; exact StrS.nil _ _ _ _, hB⟩
          · have h8' : decide ((8 : Int) < ((D.map mk ++ [s.extract a s.size]).length : Int)) = false := by simp; omega
            go_wp2_with (at_builtin; refine wpList_append_flat (enc := encS) rfl (.tmp 23) (.tmp 28) 68 rfl w.heap.size 9 i0 _ 1 16 Tryz.underlying68 hi0 hz0 hz1 hz2 rfl (by decide) _ (fun b => b = wr.heap.size) (D.map mk) rfl (hown.alloc _) (fun _ => rfl) _ [s.extract a s.size] rfl (SlR.one (Blk.new _ _ _) rfl rfl rfl) encS_one (by simp [maxLen]; omega) (by simp; omega) (by have := hb.size; simp; omega) ?_; intro v1 W1 hown1 hgrow1 hat1; obtain ⟨A1, c1, rfl⟩ := own_slice hown1)
            have hown2 : W1.ownsRow w.heap.size 9 1 (.slice A1 (D.map mk ++ [s.extract a s.size]).length c1) ((D ++ [(s.data.toList.drop a).take (s.size - a)]).map mk).length (((D ++ [(s.data.toList.drop a).take (s.size - a)]).map mk).map encS).flatten := by
              rw [List.map_append, List.map_cons, List.map_nil, ← hex.out]; exact hown1
            have hB := (hb.alloc hb.size (.cells #[.string (s.extract a s.size)] 9)).grown hgrow1 (by have := hb.size; simp; omega) (fun g hg => (hown.lt g hg).1)
            have hsig : Hid (∀ k (hk : k < s.data.toList.length), a ≤ k → k < s.size → signB s.data.toList[k] = true) := hsg
            clear hown1 hgrow1 hat1 hown hb
            go_ret2
            have hlen2 : ((D ++ [(s.data.toList.drop a).take (s.size - a)]).map mk).length = D.length + 1 := by simp
            have hlen3 : (D.map mk ++ [s.extract a s.size]).length = D.length + 1 := by simp
            rw [hlen2, hlen3] at hown2
            exact ⟨_, by rw [hre.out, if_neg h8]; rfl, by rw [hre.out, if_neg h8]; exact SlR.of_flat hown2 hlen2.symm (fun _ => rfl) (fun g h1 h2 => ⟨h1, h2⟩), hB⟩
end Go.Proofs.YtphcebgpllecjaaGreatDoor
