/-
  Memory of layers 10, 12: slices of sets of bits, graphs; no program in sight.
-/
import Derived.Test.YtfhnamomiaekdaaGreatDoorProg
import Derived.Laws.BitsAllLaws
import Derived.Laws.Shifts
import Derived.Lib.TrailingZeros
import Derived.Laws.Bits64b
import Derived.Test.YtfhnamomiaekdaaGreatDoorRows
import Derived.Test.YtfhnamomiaekdaaGreatDoorCards
import Derived.Test.YtfhnamomiaekdaaGreatDoorTie
import Derived.ProofKit
import Derived.OpenShut
import Derived.LaidMore
import Derived.Lay
import Derived.SevenTiedAt
import Derived.Stop.Joined
import Derived.HandedShaped
import Derived.SliceStrings
import Derived.Deep.Slices
import Derived.Below
import Derived.Carry
import Derived.Lib.LaidU8
import Derived.Deep.Fields
import Derived.ChangeSame
import Derived.Lib.SmallJoins
import Derived.Deep.Strs
import Derived.Test.YtfhnamomiaekdaaGreatDoorG01
set_option linter.unusedVariables false
set_option linter.unusedSimpArgs false
namespace Go.Inq
open Go Go.RowKit

def encU (n : Nat) : List Value := [.int .u64 n]
/-- A slice of sets of bits. -/
def U64S (w : World) (K : Nat → Prop) (v : Value) (l : List Nat) : Prop := SlR 1 (Flat encU) w K v l
section
variable {w w' : World} {K K' : Nat → Prop} {v : Value} {l : List Nat}
theorem U64S.keep (h : U64S w K v l) (ha : Agree K w w') (hk : ∀ b, K b → K' b) : U64S w' K' v l := SlR.keep (Flat.stab _) h ha hk
theorem U64S.below (h : U64S w (Old w) v l) (hb : Below w.heap.size w w') : U64S w' (Old w') v l := SlR.below (Flat.stab _) h hb
theorem U64S.fit (h : U64S w K v l) (hk : ∀ b, K b → K' b) : U64S w K' v l := SlR.fit (Flat.stab _) h hk
theorem U64S.at_ {A : Option Addr} {n c : Nat} (h : U64S w K (.slice A n c) l) {i : Nat} (hi : i < l.length) : ∃ b off, A = some ⟨b, off, none⟩ ∧ K b ∧ w.cell? ⟨b, off + i, none⟩ = some (.int .u64 (l[i] : Nat)) := by
  obtain ⟨b, off, cs, hA, hK, _, hR, hc⟩ := SlR.at_ h hi
  unfold Flat at hR
  subst hR
  have := hc 0 _ rfl
  rw [Nat.mul_one, Nat.add_zero] at this
  exact ⟨b, off, hA, hK, this⟩
theorem U64S.cells {b off n c : Nat} (h : U64S w K (.slice (some ⟨b, off, none⟩) n c) l) {i : Nat} (hi : i < l.length) : K b ∧ w.cell? ⟨b, off + i, none⟩ = some (.int .u64 (l[i] : Nat)) := by
  obtain ⟨cs, hK, _, hR, hc⟩ := SlR.cells h hi
  unfold Flat at hR
  subst hR
  have := hc 0 _ rfl
  rw [Nat.mul_one, Nat.add_zero] at this
  exact ⟨hK, this⟩
theorem U64S.nil (w : World) (K : Nat → Prop) (A : Option Addr) (c : Nat) : U64S w K (.slice A 0 c) [] := SlR.nil _ _ _ _ _ _
/-- A block of sets, whole. -/
theorem U64S.of_blk {g : Nat} {t : TypeId} (h : Blk w g t (l.map fun x : Nat => Value.int .u64 x).toArray) (hK : K g) : U64S w K (.slice (some ⟨g, 0, none⟩) l.length l.length) l := by
  refine ⟨some ⟨g, 0, none⟩, l.length, l.map encU, rfl, Nat.le_refl _, by simp, fun i cs x h1 h2 => ?_, fun _ => ⟨g, 0, rfl, hK, fun i j cs u h1 h2 => ?_⟩⟩
  · rw [List.getElem?_map, h2] at h1
    injection h1 with h1
    exact ⟨by rw [← h1]; rfl, h1.symm⟩
  · rw [List.getElem?_map] at h1
    cases hl : l[i]? with
    | none => rw [hl] at h1; cases h1
    | some x =>
      rw [hl] at h1
      injection h1 with h1
      subst h1
      cases j with
      | zero =>
        injection h2 with h2
        rw [Nat.zero_add, Nat.mul_one, Nat.add_zero, h.cell, List.getElem?_toArray, List.getElem?_map, hl, ← h2]
        rfl
      | succ j => simp [encU] at h2
end

/-- A graph of n nodes. -/
structure GrS (w : World) (K : Nat → Prop) (n : Nat) (A : Option Addr) (c : Nat) (E : Edges) : Prop where
  sl : U64S w K (.slice A n c) (rowsG n E)
  n64 : n ≤ 64
/-- A graph's rows, as a block of its own. -/
def rowsB (n : Nat) (E : Edges) : Array Value := ((rowsG n E).map fun x : Nat => Value.int .u64 x).toArray
theorem rowsB_at {n : Nat} {E : Edges} {a : Nat} (h : a < n) : (rowsB n E)[a]? = some (.int .u64 (setB (E a) n : Nat)) := by
  unfold rowsB
  rw [List.getElem?_toArray, List.getElem?_map, List.getElem?_eq_getElem (by rw [rowsG_length]; exact h), rowsG_at h]; rfl
theorem rowsB_add {n : Nat} {E : Edges} {a b : Nat} (ha : a < n) (hb : b < n) (hn : n ≤ 64) : (rowsB n E).setIfInBounds a (.int .u64 (withB (setB (E a) n) (b : Int) : Nat)) = rowsB n (orE E (oneE a b)) := by
  unfold rowsB
  rw [← rowsG_add ha hb hn, List.setIfInBounds_toArray, List.map_set, rowsG_at ha]
theorem rowsB_set {n : Nat} {E : Edges} {a x : Nat} {p : Nat → Bool} (ha : a < n) (hx : x = setB p n) : (rowsB n E).setIfInBounds a (.int .u64 (x : Nat)) = rowsB n (fun i => if i = a then p else E i) := by
  unfold rowsB
  rw [List.setIfInBounds_toArray]
  congr 1
  refine List.ext_getElem (by simp [rowsG_length]) fun i h1 h2 => ?_
  have hi : i < n := by simpa [rowsG_length] using h2
  rw [List.getElem_set, List.getElem_map, List.getElem_map, rowsG_at hi, rowsG_at hi]
  by_cases e : a = i
  · subst e; rw [if_pos rfl, if_pos rfl, hx]
  · rw [if_neg e, if_neg (fun h => e h.symm)]
theorem rowsB_no (n : Nat) : rowsB n noE = madeCells #[.int .u64 0] n := by
  unfold rowsB
  rw [rowsG_no]
  refine Array.ext (by simp [size_madeCells]) fun i h1 h2 => ?_
  simp [madeCells, Nat.mod_one]
theorem rowsB_congr {n : Nat} {E F : Edges} (h : ∀ a b, a < n → b < n → E a b = F a b) : rowsB n E = rowsB n F := by unfold rowsB; rw [rowsG_congr h]
section
variable {w w' : World} {K K' : Nat → Prop} {n c : Nat} {A : Option Addr} {E F : Edges}
theorem GrS.keep (h : GrS w K n A c E) (ha : Agree K w w') (hk : ∀ b, K b → K' b) : GrS w' K' n A c E := ⟨h.sl.keep ha hk, h.n64⟩
theorem GrS.below (h : GrS w (Old w) n A c E) (hb : Below w.heap.size w w') : GrS w' (Old w') n A c E := ⟨h.sl.below hb, h.n64⟩
theorem GrS.fit (h : GrS w K n A c E) (hk : ∀ b, K b → K' b) : GrS w K' n A c E := ⟨h.sl.fit hk, h.n64⟩
theorem GrS.at_ (h : GrS w K n A c E) {i : Nat} (hi : i < n) : ∃ b off, A = some ⟨b, off, none⟩ ∧ K b ∧ w.cell? ⟨b, off + i, none⟩ = some (.int .u64 (setB (E i) n : Nat)) := by
  obtain ⟨b, off, hA, hK, hc⟩ := h.sl.at_ (i := i) (by rw [rowsG_length]; exact hi)
  rw [rowsG_at hi] at hc
  exact ⟨b, off, hA, hK, hc⟩
theorem GrS.cells {b off : Nat} (h : GrS w K n (some ⟨b, off, none⟩) c E) {i : Nat} (hi : i < n) : K b ∧ w.cell? ⟨b, off + i, none⟩ = some (.int .u64 (setB (E i) n : Nat)) := by
  obtain ⟨b', off', hA, hK, hc⟩ := h.at_ hi
  injection hA with hA; injection hA with h1 h2; subst h1 h2
  exact ⟨hK, hc⟩
theorem GrS.of_blk {g : Nat} {t : TypeId} (h : Blk w g t (rowsB n E)) (hK : K g) (hn : n ≤ 64) : GrS w K n (some ⟨g, 0, none⟩) n E := by
  have := U64S.of_blk (l := rowsG n E) h hK
  rw [rowsG_length] at this
  exact ⟨this, hn⟩
theorem GrS.congr (h : GrS w K n A c E) (hE : ∀ a b, a < n → b < n → E a b = F a b) : GrS w K n A c F := ⟨by rw [← rowsG_congr hE]; exact h.sl, h.n64⟩
theorem GrS.zero (w : World) (K : Nat → Prop) (A : Option Addr) (c : Nat) (E : Edges) : GrS w K 0 A c E := ⟨by simpa [rowsG] using U64S.nil w K A c, by omega⟩
end
theorem setB_64 {p : Nat → Bool} {n : Nat} (h : n ≤ 64) : setB p n < 18446744073709551616 := Nat.lt_of_lt_of_le (setB_lt p n) (pow_le_64 h)
/-- What makes a graph tells: a block of its own, and that it may be. -/
def NewG (t : TypeId) (w : World) (n : Nat) (E : Edges) (e : Ending) (w' : World) : Prop :=
  ∃ g, w.heap.size ≤ g ∧ e = .returned (.tuple #[.agg #[.int .i64 n, .slice (some ⟨g, 0, none⟩) n n], .int .i64 0]) ∧ Blk w' g t (rowsB n E) ∧ Below w.heap.size w w'
theorem NewG.congr {t : TypeId} {w w' : World} {n : Nat} {E F : Edges} {e : Ending} (h : NewG t w n E e w') (hE : ∀ a b, a < n → b < n → E a b = F a b) : NewG t w n F e w' := by
  unfold NewG at h ⊢
  rw [← rowsB_congr hE]; exact h
end Go.Inq

namespace Go.Proofs.YtfhnamomiaekdaaGreatDoor
open Go.RowKit Go.Inq
set_option maxHeartbeats 1000000
attribute [local go_sem ↓] Go.wp_at_zero Go.wp_at_succ

theorem bit_any (i : Int) (w : World) : Calls Tryz.prog 173 #[.int .i64 i] w fun e w' => e = .returned (.int .u64 (bitN i : Nat)) ∧ w = w' := by
  by_cases h0 : i < 0
  · have hr := hide (bitN_low h0)
    have h0b : decide (i < 0) = true := by simpa using h0
    clear h0
    go_enter Tryz.func173, Tryz.ntmps173
    go_wp2
    go_ret
    exact ⟨by rw [hr.out]; rfl, rfl⟩
  · by_cases h1 : 64 ≤ i
    · have hr := hide (bitN_high h1)
      have h0b : decide (i < 0) = false := by simpa using h0
      have h1b : decide (i ≥ 64) = true := by simpa using h1
      clear h0 h1
      go_enter Tryz.func173, Tryz.ntmps173
      go_wp2
      go_ret
      exact ⟨by rw [hr.out]; rfl, rfl⟩
    · have hr := hide (bitN_in (i := i) (by omega) (by omega))
      have hlt := hide (bitN_lt i)
      have h0b : decide (i < 0) = false := by simpa using h0
      have h1b : decide (i ≥ 64) = false := by simpa using h1
      have h2 : 0 ≤ i := by omega
      have h3 : i ≤ 64 := by omega
      clear h0 h1
      go_enter Tryz.func173, Tryz.ntmps173
      go_wp2
      go_ret
      refine ⟨ret_int ?_, rfl⟩
      have e1 := hr.out
      have e2 := hlt.out
      rw [e1] at e2
      have e3 : min i.toNat IntKind.u64.bits = i.toNat := by simp [IntKind.bits]; omega
      try rw [e3]
      rw [IntKind.wrap_u64, e1]
      have e4 : ((2 : Int) ^ i.toNat) = ((2 ^ i.toNat : Nat) : Int) := by simp
      omega
theorem has10_any (s : Nat) (hs : s < 18446744073709551616) (i : Int) (w : World) : Calls Tryz.prog 102 #[.int .u64 s, .int .i64 i] w fun e w' => e = .returned (.bool (Go.Inq.hasB s i)) ∧ w = w' := by
  have h1 := u64_and_nat s (bitN i) hs (bitN_lt i)
  have hr := hide (and_bitN hs i)
  go_enter Tryz.func102, Tryz.ntmps102
  go_wp2_with fail
  refine (bit_any i _).mono ?_
  rintro e w1 ⟨rfl, rfl⟩
  go_wp2
  go_ret
  refine ⟨ret_bool ?_, rfl⟩
  have := hr.out
  rw [← Bool.not_not (Go.Inq.hasB s i), ← this, Bool.eq_iff_iff]
  simp
theorem with10_any (s : Nat) (hs : s < 18446744073709551616) (i : Int) (w : World) : Calls Tryz.prog 134 #[.int .u64 s, .int .i64 i] w fun e w' => e = .returned (.int .u64 (withB s i : Nat)) ∧ w = w' := by
  have h1 := u64_or_nat s (bitN i) hs (bitN_lt i)
  go_enter Tryz.func134, Tryz.ntmps134
  go_wp2_with fail
  refine (bit_any i _).mono ?_
  rintro e w1 ⟨rfl, rfl⟩
  go_wp2
  go_ret
  exact ⟨rfl, rfl⟩
theorem sub10_any (a b : Nat) (ha : a < 18446744073709551616) (hb : b < 18446744073709551616) (w : World) : Calls Tryz.prog 133 #[.int .u64 a, .int .u64 b] w fun e w' => e = .returned (.bool (subB a b)) ∧ w = w' := by
  have h1 := u64_andNot_nat a b ha hb
  go_enter Tryz.func133, Tryz.ntmps133
  go_wp2
  go_ret
  refine ⟨ret_bool ?_, rfl⟩
  unfold subB
  rw [Bool.eq_iff_iff]
  simp
theorem join10_any (A : Option Addr) (n c : Nat) (l : List Nat) (K : Nat → Prop) (w : World) (hn : l.length = n) (h : U64S w K (.slice A n c) l) (h64 : ∀ x ∈ l, x < 18446744073709551616) (hm : n ≤ 1000000) :
    Calls Tryz.prog 171 #[.slice A n c] w fun e w' => e = .returned (.int .u64 (joinL l : Nat)) ∧ w = w' := by
  replace hn := hide hn
  have hj : ∀ k, joinL (l.take k) < 18446744073709551616 := fun k => joinL_lt (n := 64) fun x hx => h64 x (List.mem_of_mem_take hx)
  replace hj := hide hj
  replace h64 := hide h64
  go_enter Tryz.func171, Tryz.ntmps171
  go_wp2_with fail
  go_loop [3, 8] (fun s3 s8 => ∃ k : Nat, k ≤ n ∧ s8 = .int .i64 k ∧ s3 = .int .u64 (joinL (l.take k) : Nat)) (fun _ s8 => n - (intOf s8).toNat)
  case atStart => exact ⟨0, Nat.zero_le _, by go_num, rfl⟩
  case round =>
    obtain ⟨k, hk, rfl, rfl⟩ := hrel
    by_cases hlt : k < n
    · have hi1 : (0 : Int) ≤ (k : Int) := Int.natCast_nonneg _
      have hi2 : (k : Int) < (n : Int) := by omega
      have hkl : k < l.length := by rw [hn.out]; exact hlt
      obtain ⟨b, off, rfl, hbK, hc⟩ := U64S.at_ h hkl
      have hor := u64_or_nat (joinL (l.take k)) l[k] (hj.out k) (h64.out _ (List.getElem_mem hkl))
      have hst := hide (joinL_take hkl)
      generalize l[k] = x at *
      generalize joinL (l.take k) = y at *
      clear hkl
      go_wp2
      go_round
      case rel => exact ⟨k + 1, by omega, by go_num, by rw [hst.out]⟩
      case measure => simp [intOf]; omega
    · obtain rfl : k = n := by omega
      have ht : l.take k = l := List.take_of_length_le (by rw [hn.out]; exact Nat.le_refl _)
      rw [ht]
      clear ht
      go_wp2
      go_ret
      exact ⟨rfl, rfl⟩
theorem nodes12_any (n : Nat) (hn : n ≤ 64) (w : World) : Calls Tryz.prog 172 #[.int .i64 n] w fun e w' => e = .returned (.int .u64 (2 ^ n - 1 : Nat)) ∧ w = w' := by
  have h2 : (0 : Int) ≤ (n : Int) := Int.natCast_nonneg _
  have h3 : (n : Int) ≤ 64 := by omega
  have hp := hide (pow_le_64 hn)
  have hp2 := hide (Nat.two_pow_pos n)
  go_enter Tryz.func172, Tryz.ntmps172
  go_wp2
  go_ret
  refine ⟨ret_int ?_, rfl⟩
  have e1 := hp.out
  have e2 := hp2.out
  have e3 : min n IntKind.u64.bits = n := by simp [IntKind.bits]; omega
  have e4 : ((2 : Int) ^ n) = ((2 ^ n : Nat) : Int) := by simp
  simp only [Int.toNat_natCast, IntKind.wrap_u64] at *
  try rw [e3]
  rw [e4]
  generalize 2 ^ n = x at *
  omega
end Go.Proofs.YtfhnamomiaekdaaGreatDoor

namespace Go.Proofs.YtfhnamomiaekdaaGreatDoor
open Go.RowKit Go.Inq
set_option maxHeartbeats 1000000
attribute [local go_sem ↓] Go.wp_at_zero Go.wp_at_succ

/-- The library's table lies in its variable. -/
def TabB (w : World) : Prop := ∀ j, j < Lib.deBruijn64tab.length → w.cell? ⟨0, j, none⟩ = some (.int .u8 (Lib.deBruijn64tab.getD j 0))
theorem TabB.lt {w : World} (h : TabB w) : 0 < w.heap.size := by
  have := h 0 (by decide)
  rcases Nat.lt_or_ge 0 w.heap.size with g | g
  · exact g
  · unfold World.cell? at this; simp [Array.getElem?_eq_none g] at this
theorem TabB.below {w w' : World} (h : TabB w) (hb : Below w.heap.size w w') : TabB w' := fun j hj => (hb.cell (p := ⟨0, j, none⟩) h.lt).trans (h j hj)
theorem TabB.below' {w w' : World} {B : Nat} (h : TabB w) (hb : Below B w w') (hB : 0 < B) : TabB w' := fun j hj => (hb.cell (p := ⟨0, j, none⟩) hB).trans (h j hj)
theorem TabB.drewN {w : World} (h : TabB w) (n : Nat) : TabB (w.drewN n) := h
theorem tz_key (x a : Nat) (hx : x < 18446744073709551616) (hx0 : x ≠ 0) (hlow : x &&& (18446744073709551616 - x) = a) :
    IntKind.u64.wrap (bits BinOp.and IntKind.u64 (x : Int) (IntKind.u64.wrap (-(x : Int))) * 285870213051353865) / 288230376151711744 = ((a * 285870213051353865 % 18446744073709551616 / 288230376151711744 : Nat) : Int) := by
  have e1 : IntKind.u64.wrap (-(x : Int)) = ((18446744073709551616 - x : Nat) : Int) := by rw [IntKind.wrap_u64]; omega
  rw [e1, u64_and_nat x _ hx (by omega), hlow, IntKind.wrap_u64]
  omega
theorem tz_core (x k idx : Nat) (w : World) (hx0 : ((x : Int) == 0) = false)
    (key : IntKind.u64.wrap (bits BinOp.and IntKind.u64 (x : Int) (IntKind.u64.wrap (-(x : Int))) * 285870213051353865) / 288230376151711744 = (idx : Int))
    (hi : idx < 64) (hk : k < 64) (hcell : w.cell? ⟨0, idx, none⟩ = some (.int .u8 k)) :
    Calls Tryz.prog 192 #[.int .u64 x] w fun e w' => e = .returned (.int .i64 k) ∧ w = w' := by
  go_enter Tryz.func192, Tryz.ntmps192
  go_wp2_with (simp only [key])
  go_ret
  exact ⟨rfl, rfl⟩
theorem tz64_any (x : Nat) (hx : x < 18446744073709551616) (w : World) (hT : TabB w) :
    Calls Tryz.prog 192 #[.int .u64 x] w fun e w' => e = .returned (.int .i64 (Lib.ctz 64 x)) ∧ w = w' := by
  by_cases hx0 : x = 0
  · subst hx0
    go_enter Tryz.func192, Tryz.ntmps192
    go_wp2
    go_ret
    exact ⟨rfl, rfl⟩
  · obtain ⟨hlow, hk⟩ := Lib.lowest_bit 64 x hx0 hx
    obtain ⟨hi, htab⟩ := Lib.deBruijn64_at _ hk
    have hcell := hT _ hi
    rw [htab] at hcell
    exact tz_core x _ _ w (by simp; omega) (tz_key x _ hx hx0 hlow) hi hk hcell
end Go.Proofs.YtfhnamomiaekdaaGreatDoor

namespace Go.Proofs.YtfhnamomiaekdaaGreatDoor
open Go.ChangeShapes Go.WideShapes Go.ChangeAt Go.RowKit Go.Inq

theorem own : ownKnob Tryz.prog.godebug = none := by kernel_rfl
theorem laidOut : laidOutB Tryz.prog = true := by kernel_rfl
theorem returnsInHanded_shaped_and {H : Type} {enc : TypeId × Value → H} {a : Assume} {C : Checked} {os : Os} {f : FuncId} {fn : Func} {s : ChangeSpec} {conds : List PathCond} {apart fresh handsOn again : Bool} {X : World → Array Value → Prop}
    (hX : ∀ (w w' : World) (args : Array Value), w.heap = w'.heap → X w args → X w' args)
    (own : ownKnob C.prog.godebug = none) (started : os.Started) (noInit : C.prog.inits.idxOf? f = none) (hfn : C.prog.funcs[f]? = some fn)
    (witness : ∃ (w : World) (tape : Tape) (i : Input), w.os = os ∧ (w.forCall tape i).Shaped C.prog ∧ i.vars = [] ∧ Input.okWide C.prog (w.forCall tape i) .any w.heap.size f i ∧
      ((s.pre enc C.prog fn conds apart (w.forCall tape i).memory i.args ∧ X (w.forCall tape i).memory i.args) ∧ sizedMet enc C.prog fn (OpenSpec.ofChange s) apart (w.forCall tape i).memory i.args) ∧ a.holds C.prog (lone (Frame.enter C.prog f i.args .normal) [] (w.forCall tape i)))
    (contract : ∀ (W : World) (base : Nat) (args : Array Value) (ds gs : List (DataW H)) (before : List MemPlace),
      (∀ (j : Nat) t v, fn.params[j]? = some t → args[j]? = some v → Value.okWide C.prog W .any base t v) →
      DataW.Whole enc C.prog fn.params.toList s.vars apart W args.toList ds gs before →
      X W args → W.ShapedOpen C.prog →
      Calls C.prog f args W fun e W' => ∃ v, e = .returned v ∧ s.post enc C.prog fn apart fresh handsOn again W args v W') :
    ReturnsInHanded a C os f .any (fun w args => (s.pre enc C.prog fn conds apart w args ∧ X w args) ∧ sizedMet enc C.prog fn (OpenSpec.ofChange s) apart w args) (s.post enc C.prog fn apart fresh handsOn again) := by
  refine returnsInHanded_of_calls own started noInit witness ?_
  intro w tape i _ hsh _ hok hpre hholds
  obtain ⟨_, _, _, fn', hfn', _, _, _, _, hval⟩ := hok
  have e : fn' = fn := Option.some.inj (hfn'.symm.trans hfn)
  subst e
  obtain ⟨⟨⟨ds, gs, before, hw, hc⟩, hx⟩, hz⟩ := hpre
  have hw' := DataW.Whole.of_heap (w' := w.forCall tape i) (by rfl) hw
  refine (contract (w.forCall tape i) w.heap.size i.args ds gs before hval hw' (hX _ _ _ (by rfl) hx) hsh).mono fun e W' ⟨v, he, hp⟩ => ?_
  subst he
  exact ChangeSpec.post_blind hp

/-- Types whose data stay readable in a world that only grew. -/
def keptTypes (P : Program) (ts : List TypeId) : Bool := ts.all fun t => P.readableRec t && decide (t < P.types.size)
theorem Below.trodAllP {P : Program} (hl : laidOutB P = true) {H : Type} {enc : TypeId × Value → H} {W W' : World} (hb : Below W.heap.size W W') : ∀ (ts : List TypeId) (vs : List Value) (ds : List (DataW H)) (ps : List MemPlace), keptTypes P ts = true →
    DataW.TrodAll enc P W 0 (fun _ => true) true ts vs ds ps → (∀ x ∈ ps, x.block < W.heap.size) → DataW.TrodAll enc P W' 0 (fun b => decide (b < W.heap.size)) true ts vs ds ps := by
  intro ts
  induction ts with
  | nil =>
    intro vs ds ps _ h _
    cases vs with
    | cons => exact h.elim
    | nil =>
      cases ds with
      | cons => exact h.elim
      | nil => exact h
  | cons t ts ih =>
    intro vs ds ps hk h hlt
    cases vs with
    | nil => exact h.elim
    | cons v vs =>
      cases ds with
      | nil => exact h.elim
      | cons d ds =>
        obtain ⟨p, q, h1, h2, rfl⟩ := h
        unfold keptTypes at hk
        rw [List.all_cons, Bool.and_eq_true, Bool.and_eq_true] at hk
        exact ⟨p, q, Below.trod hl hk.1.1 (of_decide_eq_true hk.1.2) h1 hb (fun x hx => hlt x (List.mem_append.2 (.inl hx))), ih _ _ _ hk.2 h2 (fun x hx => hlt x (List.mem_append.2 (.inr hx))), rfl⟩
theorem Below.trodAll {H : Type} {enc : TypeId × Value → H} {W W' : World} (hb : Below W.heap.size W W') {ts : List TypeId} {vs : List Value} {ds : List (DataW H)} {ps : List MemPlace} (hk : keptTypes Tryz.prog ts = true)
    (h : DataW.TrodAll enc Tryz.prog W 0 (fun _ => true) true ts vs ds ps) (hlt : ∀ x ∈ ps, x.block < W.heap.size) : DataW.TrodAll enc Tryz.prog W' 0 (fun b => decide (b < W.heap.size)) true ts vs ds ps :=
  Below.trodAllP laidOut hb ts vs ds ps hk h hlt

/-- A number that came in lies in its kind's range. -/
theorem okWide_range {P : Program} {w : World} {base : Nat} {t : TypeId} {k : IntKind} {n : Int} (ht : P.underlying t = some (.int k)) (h : Value.okWide P w .any base t (.int k n)) : k.has n := by
  simp only [Value.okWide, ht, Cell.okWide] at h
  simp only [Cell.ok, ht] at h
  exact h.2
theorem TabB.of {l : List (String × DataW Unit)} {W : World} (h : laidMetH Tryz.prog l W) (hp : laidMetH Tryz.prog l W = laidMet Tryz.prog l W) (hm : ("math/bits.deBruijn64tab", Rows.laid_math_bits_deBruijn64tab) ∈ l) : TabB W := by
  rw [hp] at h
  obtain ⟨g, t, cs, fuel, p, hg, ht, hv, hd⟩ := Lib.laidMet.reads h hm
  obtain rfl := Option.some.inj ((show Tryz.prog.globalNamed "math/bits.deBruijn64tab" = some 0 by kernel_rfl).symm.trans hg)
  obtain rfl := Option.some.inj ((show (Tryz.prog.globals[0]?).map (·.type) = some 292 by kernel_rfl).symm.trans ht)
  have hc := Lib.cells_of_tab (k := .u8) (zs := Lib.deBruijn64tab.map fun (x : Nat) => (x : Int)) Tryz.underlying292 Tryz.underlying5 (by kernel_rfl) (by kernel_rfl) hd
  intro j hj
  rw [World.var?_cell hg hv j]
  have h1 : cs.toList[j]? = some (.int .u8 (Lib.deBruijn64tab.getD j 0)) := by
    rw [hc, List.getElem?_map, List.getElem?_map, List.getElem?_eq_getElem hj]
    simp [List.getD_eq_getElem?_getD, List.getElem?_eq_getElem hj]
  simpa using h1
end Go.Proofs.YtfhnamomiaekdaaGreatDoor

namespace Go.Proofs.YtfhnamomiaekdaaGreatDoor
open Go.Joins Go.ChangeShapes Go.WideShapes Go.ChangeAt Go.RowKit Go.Deep Go.Inq
section
variable {H : Type} {enc : TypeId × Value → H} {w : World} {base : Nat} {spare : Nat → Bool} {held : Bool}

theorem open_rows {α : Type} {size : Nat} {R : World → (Nat → Prop) → List Value → α → Prop} {te ts : TypeId} (P : α → Prop) (x0 : α) (hT : Tryz.prog.underlying ts = some (.slice te)) (hC : Tryz.prog.cellsOf te = size) (hs0 : 0 < size)
    (hop : ∀ n cs x, DataW.trod enc Tryz.prog w base spare held n te cs = some x → ∃ t, R w (Old w) cs t ∧ P t)
    {n : Nat} {v : Value} {x : DataW H × List MemPlace} (h : DataW.trod enc Tryz.prog w base spare held n ts [v] = some x) :
    ∃ (A : Option Addr) (c : Nat) (l : List α), v = .slice A l.length c ∧ SlR size R w (Old w) (.slice A l.length c) l ∧ l.length ≤ maxLen ∧ ∀ t ∈ l, P t := by
  rcases open_slice hT h with ⟨h1, _⟩ | ⟨a, len, cap, m, n', D, Pl, h1, _, hl, hm, hmm, hx, hi⟩
  · injection h1 with h1
    exact ⟨none, 0, [], h1, SlR.nil _ _ _ _ _ _, Nat.zero_le _, fun t ht => by simp at ht⟩
  · injection h1 with h1
    subst h1
    rw [hC] at hi
    have hlm : len ≤ m := by rw [hmm]; split <;> omega
    have hex : ∀ i, ∃ p : α × List Value, i < len → p.2.length = size ∧ R w (Old w) p.2 p.1 ∧ P p.1 ∧ ∀ j u, p.2[j]? = some u → w.cell? (a.add (i * size + j)) = some u := fun i => by
      by_cases hil : i < len
      · obtain ⟨cs, hc, ht⟩ := hi i (by omega)
        obtain ⟨t, hR, hP⟩ := hop _ _ _ ht
        obtain ⟨_, hcl, hat⟩ := World.cells?_some hc
        refine ⟨(t, cs), fun _ => ⟨by simpa using hcl, hR, hP, fun j u hj => ?_⟩⟩
        have hj4 : j < size := by
          rcases Nat.lt_or_ge j size with h | h
          · exact h
          · rw [List.getElem?_eq_none (by dsimp only; omega)] at hj; cases hj
        rw [← Go.Deep.add_add, hat j hj4]
        exact hj
      · exact ⟨(x0, []), fun h => absurd h hil⟩
    obtain ⟨f, hf⟩ := Classical.axiomOfChoice hex
    have hlen : ((List.range len).map fun i => (f i).1).length = len := by simp
    refine ⟨some a, cap, (List.range len).map fun i => (f i).1, by rw [hlen], ⟨some a, cap, (List.range len).map fun i => (f i).2, rfl, by omega, by simp, fun i cs x h1 h2 => ?_, fun h0 => ?_⟩, by omega, fun t ht => ?_⟩
    · simp only [List.getElem?_map] at h1 h2
      cases hr : (List.range len)[i]? with
      | none => rw [hr] at h1; cases h1
      | some k =>
        rw [hr] at h1 h2
        simp at h1 h2
        subst h1 h2
        have hk : k < len := by
          rw [List.getElem?_eq_some_iff] at hr
          obtain ⟨h3, h4⟩ := hr
          simp at h3 h4
          omega
        exact ⟨(hf k hk).1, (hf k hk).2.1⟩
    · rw [hlen] at h0
      obtain ⟨g1, _, _, g4⟩ := hf 0 h0
      have hc0 := g4 0 ((f 0).2[0]'(by omega)) (List.getElem?_eq_getElem (by omega))
      obtain ⟨_, _, _, _, hs⟩ := World.shape?_of_cell? hc0
      obtain ⟨b, o, sp⟩ := a
      have hsp : sp = none := by
        cases sp with
        | none => rfl
        | some q => simp [Addr.add] at hs
      subst hsp
      have hbl : b < w.heap.size := by have := block_lt_of_cell hc0; rwa [Addr.add_lit] at this
      refine ⟨b, o, rfl, hbl, fun i j cs u h1 h2 => ?_⟩
      simp only [List.getElem?_map] at h1
      cases hr : (List.range len)[i]? with
      | none => rw [hr] at h1; cases h1
      | some k =>
        rw [hr] at h1
        simp at h1
        subst h1
        have hk : k = i ∧ i < len := by
          rw [List.getElem?_eq_some_iff] at hr
          obtain ⟨h3, h4⟩ := hr
          simp at h3 h4
          exact ⟨h4.symm, h3⟩
        have := (hf i hk.2).2.2.2 j u (by rw [← hk.1]; exact h2)
        rw [Addr.add_lit, ← Nat.add_assoc] at this
        exact this
    · obtain ⟨k, hk, rfl⟩ := List.mem_map.1 ht
      exact (hf k (by simpa using hk)).2.2.1

theorem open_num {n : Nat} {cs : List Value} {x : DataW H × List MemPlace} (h : DataW.trod enc Tryz.prog w base spare held n 3 cs = some x) : ∃ k : Int, Go.Inq.Flat Go.Inq.encI w (Old w) cs k ∧ True := by
  obtain ⟨k, e, _⟩ := DataW.trod_int Tryz.underlying3 h
  exact ⟨k, e, trivial⟩
theorem open_nums {n : Nat} {v : Value} {x : DataW H × List MemPlace} (h : DataW.trod enc Tryz.prog w base spare held n 33 [v] = some x) :
    ∃ (A : Option Addr) (c : Nat) (l : List Int), v = .slice A l.length c ∧ IntS w (Old w) (.slice A l.length c) l ∧ l.length ≤ maxLen := by
  obtain ⟨A, c, l, h1, h2, h3, _⟩ := open_rows (R := Go.Inq.Flat Go.Inq.encI) (size := 1) (fun _ => True) 0 Tryz.underlying33 (by kernel_rfl) (by decide) (fun n cs x h => open_num h) h
  exact ⟨A, c, l, h1, h2, h3⟩
theorem open_take {n : Nat} {cs : List Value} {x : DataW H × List MemPlace} (hC : Tryz.prog.cellsOf 106 = 2) (h : DataW.trod enc Tryz.prog w base spare held n 106 cs = some x) : ∃ e : It, Go.Inq.Flat It.enc w (Old w) cs e ∧ True := by
  obtain ⟨y0, y1, n', _, hl, h0, h1⟩ := trod_struct2 Tryz.underlying106 h
  rw [hC] at hl
  have h31 : Tryz.prog.cellsOf 3 = 1 := by kernel_rfl
  simp only [h31] at h0 h1
  match cs, hl with
  | [a, b], _ =>
    obtain ⟨k0, e0, _⟩ := DataW.trod_int Tryz.underlying3 h0
    obtain ⟨k1, e1, _⟩ := DataW.trod_int Tryz.underlying3 h1
    simp at e0 e1
    exact ⟨⟨k0, k1⟩, by unfold Go.Inq.Flat; simp [It.enc, e0, e1], trivial⟩
theorem open_takes {n : Nat} {v : Value} {x : DataW H × List MemPlace} (h : DataW.trod enc Tryz.prog w base spare held n 107 [v] = some x) :
    ∃ (A : Option Addr) (c : Nat) (l : List It), v = .slice A l.length c ∧ ItS w (Old w) (.slice A l.length c) l ∧ l.length ≤ maxLen := by
  obtain ⟨A, c, l, h1, h2, h3, _⟩ := open_rows (R := Go.Inq.Flat It.enc) (size := 2) (fun _ => True) ⟨0, 0⟩ Tryz.underlying107 (by kernel_rfl) (by decide) (fun n cs x h => open_take (by kernel_rfl) h) h
  exact ⟨A, c, l, h1, h2, h3⟩
theorem open_txn {n : Nat} {cs : List Value} {x : DataW H × List MemPlace} (hC : Tryz.prog.cellsOf 109 = 3) (h : DataW.trod enc Tryz.prog w base spare held n 109 cs = some x) :
    ∃ t : Txn, TxnR w (Old w) cs t ∧ t.writes.length ≤ maxLen ∧ t.reads.length ≤ maxLen := by
  obtain ⟨y0, y1, y2, n', _, hl, h0, h1, h2⟩ := trod_struct3 Tryz.underlying109 h
  rw [hC] at hl
  have e1 : Tryz.prog.cellsOf 3 = 1 := by kernel_rfl
  have e2 : Tryz.prog.cellsOf 33 = 1 := by kernel_rfl
  have e3 : Tryz.prog.cellsOf 107 = 1 := by kernel_rfl
  simp only [e1, e2, e3] at h0 h1 h2
  match cs, hl with
  | [a, b, c], _ =>
    obtain ⟨k0, e0, _⟩ := DataW.trod_int Tryz.underlying3 h0
    simp at e0
    have h1' : DataW.trod enc Tryz.prog w base spare held n' 33 [b] = some y1 := by simpa using h1
    have h2' : DataW.trod enc Tryz.prog w base spare held n' 107 [c] = some y2 := by simpa using h2
    obtain ⟨A, c', l, hv, hev, hlen⟩ := open_nums h1'
    obtain ⟨A2, c2', l2, hv2, hev2, hlen2⟩ := open_takes h2'
    exact ⟨⟨k0, l, l2⟩, ⟨b, c, by rw [e0], by rw [hv]; exact hev, by rw [hv2]; exact hev2⟩, hlen, hlen2⟩
theorem open_txns {n : Nat} {v : Value} {x : DataW H × List MemPlace} (h : DataW.trod enc Tryz.prog w base spare held n 22 [v] = some x) :
    ∃ (A : Option Addr) (c : Nat) (l : List Txn), v = .slice A l.length c ∧ TxnS w (Old w) (.slice A l.length c) l ∧ l.length ≤ maxLen ∧ ∀ t ∈ l, t.writes.length ≤ maxLen ∧ t.reads.length ≤ maxLen :=
  open_rows (R := TxnR) (size := 3) (fun t => t.writes.length ≤ maxLen ∧ t.reads.length ≤ maxLen) ⟨0, [], []⟩ Tryz.underlying22 (by kernel_rfl) (by decide) (fun n cs x h => open_txn (by kernel_rfl) h) h
/-- A history. -/
theorem open_hist {n : Nat} {cs : List Value} {x : DataW H × List MemPlace} (hC : Tryz.prog.cellsOf 24 = 1) (h : DataW.trod enc Tryz.prog w base spare held n 24 cs = some x) :
    ∃ (A : Option Addr) (c : Nat) (l : List Txn), cs = [.slice A l.length c] ∧ TxnS w (Old w) (.slice A l.length c) l ∧ l.length ≤ maxLen ∧ ∀ t ∈ l, t.writes.length ≤ maxLen ∧ t.reads.length ≤ maxLen := by
  obtain ⟨y0, n', _, hl, h0⟩ := trod_struct1 Tryz.underlying24 h
  rw [hC] at hl
  have e1 : Tryz.prog.cellsOf 22 = 1 := by kernel_rfl
  simp only [e1] at h0
  match cs, hl with
  | [a], _ =>
    have h0' : DataW.trod enc Tryz.prog w base spare held n' 22 [a] = some y0 := by simpa using h0
    obtain ⟨A, c, l, hv, h1, h2, h3⟩ := open_txns h0'
    exact ⟨A, c, l, by rw [hv], h1, h2, h3⟩
end
end Go.Proofs.YtfhnamomiaekdaaGreatDoor
