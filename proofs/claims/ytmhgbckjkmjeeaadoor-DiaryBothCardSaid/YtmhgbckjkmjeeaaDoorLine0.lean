/-
  What the walks over lines share: what is handed back; the bytes of lines.
-/
import Derived.Test.YtmhgbckjkmjeeaaDoorProg
import Derived.Test.YtmhgbckjkmjeeaaDoorStr
set_option linter.unusedVariables false
set_option linter.unusedSimpArgs false
namespace Go.Proofs.YtmhgbckjkmjeeaaDoor
open Go.RowKit Go.Inq
set_option maxHeartbeats 1000000
attribute [local go_sem ↓] Go.wp_at_zero Go.wp_at_succ
theorem infoS : (Tryd.prog.info? 9).map (fun i => (i.zero, i.size, i.bytes)) = some (some (.string ByteArray.empty), 1, 16) := by kernel_rfl

/-- What a function of layer 2 hands back: a row of strings, of its own, and an error. -/
def RowOut (r : List (List UInt8) × Int) (w : World) (e : Ending) (w' : World) : Prop :=
  ∃ v, e = .returned (.tuple #[v, .int .i64 r.2]) ∧ StrS w' (fun b => w.heap.size ≤ b ∧ b < w'.heap.size) v (r.1.map mk) ∧ Below w.heap.size w w'

theorem RowOut.open {r : List (List UInt8) × Int} {w : World} {e : Ending} {w' : World} (h : RowOut r w e w') :
    ∃ A c, e = .returned (.tuple #[.slice A r.1.length c, .int .i64 r.2]) ∧ StrS w' (fun b => w.heap.size ≤ b ∧ b < w'.heap.size) (.slice A r.1.length c) (r.1.map mk) ∧ Below w.heap.size w w' := by
  obtain ⟨v, he, hv, hb⟩ := h
  obtain ⟨A, c, rfl⟩ := StrS.form hv
  rw [List.length_map] at he hv
  exact ⟨A, c, he, hv, hb⟩
/-- The lines' bytes. -/
def byt (l : List ByteArray) : List (List UInt8) := l.map (·.data.toList)
/-- A text of lines. -/
def joinL (ls : List (List UInt8)) : List UInt8 := (ls.map (· ++ [10])).flatten
theorem joinL_take {l : List ByteArray} {i : Nat} (hi : i < l.length) : joinL (byt (l.take (i + 1))) = joinL (byt (l.take i)) ++ l[i].data.toList ++ [10] := by
  unfold joinL byt
  rw [List.take_succ_eq_append_getElem hi]
  simp only [List.map_append, List.flatten_append, List.map_cons, List.map_nil, List.flatten_cons, List.flatten_nil, List.append_nil, List.append_assoc]
theorem joinL_le (l : List ByteArray) (i : Nat) : (joinL (byt (l.take i))).length ≤ (joinL (byt l)).length := by
  have e : byt l = byt (l.take i) ++ byt (l.drop i) := by unfold byt; rw [← List.map_append, List.take_append_drop]
  rw [e]
  unfold joinL
  rw [List.map_append, List.flatten_append, List.length_append]
  omega
theorem byte_ten (b : UInt8) : ((b.toNat : Int) == 10) = decide (b = 10) := by
  rw [Bool.eq_iff_iff, beq_iff_eq, decide_eq_true_iff]
  constructor
  · intro e; exact UInt8.toNat_inj.1 (by simpa using Int.ofNat_inj.1 e)
  · intro e; rw [e]; rfl
theorem bytes_at (s : ByteArray) {i : Nat} (h : i < s.size) : ∃ h2 : i < s.data.toList.length, s[i] = s.data.toList[i] := by
  have h2 : i < s.data.toList.length := by rw [← Lib.size_eq]; exact h
  refine ⟨h2, ?_⟩
  have := Lib.data_getElem? s i h
  rw [List.getElem?_eq_getElem h2] at this
  exact (Option.some.inj this).symm

end Go.Proofs.YtmhgbckjkmjeeaaDoor
