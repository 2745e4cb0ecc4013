/-
  Plain words of layer 7: transactions, who wrote what, a history; no program in sight.
-/
import Derived.Test.YtapkbinlhmddiaaEv
set_option linter.unusedVariables false
set_option linter.unusedSimpArgs false
namespace Go.Inq
open Go Go.RowKit

/-- The first number below n at which f is not 0. -/
def firstN (n : Nat) (f : Nat → Int) : Option Nat := (List.range n).find? fun i => f i != 0
theorem firstN_some {n k : Nat} {f : Nat → Int} (hk : k < n) (h : ∀ j, j < k → f j = 0) (hb : f k ≠ 0) : firstN n f = some k := by
  unfold firstN
  rw [List.find?_range_eq_some]
  exact ⟨by simpa using hb, by simpa using hk, fun j hj => by simpa using h j hj⟩
theorem firstN_none {n : Nat} {f : Nat → Int} (h : ∀ j, j < n → f j = 0) : firstN n f = none := by
  unfold firstN
  rw [List.find?_eq_none]
  intro x hx
  simpa using h x (by simpa using hx)
theorem firstN_ways (n : Nat) (f : Nat → Int) : (∃ k, k < n ∧ (∀ j, j < k → f j = 0) ∧ f k ≠ 0 ∧ firstN n f = some k) ∨ ((∀ j, j < n → f j = 0) ∧ firstN n f = none) := by
  cases h : firstN n f with
  | none =>
    refine .inr ⟨fun j hj => ?_, rfl⟩
    unfold firstN at h
    rw [List.find?_eq_none] at h
    simpa using h j (by simpa using hj)
  | some k =>
    unfold firstN at h
    rw [List.find?_range_eq_some] at h
    obtain ⟨h1, h2, h3⟩ := h
    exact .inl ⟨k, by simpa using h2, fun j hj => by simpa using h3 j hj, by simpa using h1, rfl⟩

structure Tx where
  sess : Int
  done : Bool
  first : Int
  ops : List Ev
structure Txn where
  sess : Int
  writes : List Int
  reads : List It
deriving DecidableEq

def mayE (e : Ev) : Bool := e.right && itemB e.kind
/-- A transaction may be looked at. -/
def mayT (t : Tx) : Bool := t.ops.all mayE && belowB t.sess 8
def isW (x : It) (e : Ev) : Bool := e.kind == 2 && e.key == x.a && e.val == x.b
/-- How often this is written among the first ops. -/
def wr (ops : List Ev) (many : Nat) (x : It) : Nat := ((ops.take many).filter (isW x)).length
theorem wr_zero (ops : List Ev) (x : It) : wr ops 0 x = 0 := rfl
theorem wr_step {ops : List Ev} {i : Nat} (hi : i < ops.length) (x : It) : wr ops (i + 1) x = wr ops i x + if isW x ops[i] = true then 1 else 0 := by
  unfold wr
  rw [List.take_succ_eq_append_getElem hi, List.filter_append, List.length_append]
  congr 1
  by_cases h : isW x ops[i] = true <;> simp [h]
theorem wr_le (ops : List Ev) (i : Nat) (x : It) : wr ops i x ≤ i := by
  unfold wr
  exact Nat.le_trans (List.length_filter_le _ _) (by rw [List.length_take]; omega)
def wrT (t : Tx) (x : It) : Nat := wr t.ops t.ops.length x
/-- How often the first transactions write it. -/
def sumW (l : List Tx) (n : Nat) (x : It) : Nat := ((l.take n).map fun t => wrT t x).sum
theorem sumW_step {l : List Tx} {i : Nat} (hi : i < l.length) (x : It) : sumW l (i + 1) x = sumW l i x + wrT l[i] x := by
  unfold sumW
  rw [List.take_succ_eq_append_getElem hi, List.map_append, List.sum_append]
  simp
/-- What is wrong with a write. -/
def opE (l : List Tx) (i : Nat) (ops : List Ev) (j : Nat) : Int := match ops[j]? with
  | none => 0
  | some e => if e.kind ≠ 2 then 0 else if e.val = 0 then 7 else if 0 < wr ops j ⟨e.key, e.val⟩ + sumW l i ⟨e.key, e.val⟩ then 8 else 0
/-- What is wrong with a transaction's writes. -/
def unlikeR (l : List Tx) (i : Nat) : Int := match l[i]? with
  | none => 0
  | some t => match firstN t.ops.length (opE l i t.ops) with
    | some j => opE l i t.ops j
    | none => 0
/-- A transaction's number among the committed ones. -/
def numR7 (l : List Tx) (i : Nat) : Nat := ((l.take i).filter (·.done)).length
theorem num7_step {l : List Tx} {i : Nat} (hi : i < l.length) : numR7 l (i + 1) = numR7 l i + if l[i].done = true then 1 else 0 := by
  unfold numR7
  rw [List.take_succ_eq_append_getElem hi, List.filter_append, List.length_append]
  congr 1
  by_cases h : l[i].done = true <;> simp [h]
theorem num7_le (l : List Tx) (i : Nat) : numR7 l i ≤ i := by
  unfold numR7
  exact Nat.le_trans (List.length_filter_le _ _) (by rw [List.length_take]; omega)
/-- The first transaction that writes it. -/
def whoR (l : List Tx) (x : It) : Option Nat := l.findIdx? fun t => decide (0 < wrT t x)
def middleB (ws : List It) (x : It) : Bool := ws.any fun y => y.a == x.a && y.b != x.b
/-- Whose a value of a key is. -/
def fromR (l : List Tx) (x : It) : Int × Int :=
  if x.b = 0 then (-1, 0) else match whoR l x with
    | none => (0, 12)
    | some k => match l[k]? with
      | none => (0, 12)
      | some t => if t.done = false then (0, 13) else if middleB (lookR t.ops).writes x = true then (0, 14) else ((numR7 l k : Int), 0)
/-- What is wrong with a read. -/
def readE (l : List Tx) (rs : List It) (i : Nat) : Int := match rs[i]? with | some r => (fromR l r).2 | none => 0
theorem readE_at {l : List Tx} {rs : List It} {i : Nat} (h : i < rs.length) : readE l rs i = (fromR l rs[i]).2 := by
  unfold readE; rw [List.getElem?_eq_getElem h]
/-- A committed transaction, as a history has it; or what is wrong with its reads. -/
def oneR (l : List Tx) (t : Tx) : Txn × Int :=
  let f := lookR t.ops
  match firstN f.reads.length (readE l f.reads) with
  | some i => (⟨0, [], []⟩, readE l f.reads i)
  | none => (⟨t.sess, f.writes.map (·.a), f.reads.map fun r => ⟨r.a, (fromR l r).1⟩⟩, 0)
def mayAt (l : List Tx) (i : Nat) : Int := match l[i]? with | some t => if mayT t = true then 0 else 1 | none => 0
def lookAt (l : List Tx) (i : Nat) : Int := match l[i]? with | some t => if t.done = true then (lookR t.ops).err else 0 | none => 0
def oneAt (l : List Tx) (i : Nat) : Int := match l[i]? with | some t => if t.done = true then (oneR l t).2 else 0 | none => 0
/-- The committed ones among the first. -/
def txnsTo (l : List Tx) (n : Nat) : List Txn := ((l.take n).filter (·.done)).map fun t => (oneR l t).1
theorem txnsTo_step {l : List Tx} {i : Nat} (hi : i < l.length) : txnsTo l (i + 1) = txnsTo l i ++ if l[i].done = true then [(oneR l l[i]).1] else [] := by
  unfold txnsTo
  rw [List.take_succ_eq_append_getElem hi, List.filter_append, List.map_append]
  congr 1
  by_cases h : l[i].done = true <;> simp [h]
/-- The history of transactions; or which one is wrong, and how. -/
def histR (l : List Tx) : List Txn × Int × Int :=
  if 32 < l.length then ([], 0, 4)
  else match firstN l.length (mayAt l) with
    | some i => ([], i, mayAt l i)
    | none => match firstN l.length (unlikeR l) with
      | some i => ([], i, unlikeR l i)
      | none => match firstN l.length (lookAt l) with
        | some i => ([], i, lookAt l i)
        | none => match firstN l.length (oneAt l) with
          | some i => ([], i, oneAt l i)
          | none => (txnsTo l l.length, 0, 0)
theorem histR_many {l : List Tx} (h : 32 < l.length) : histR l = ([], 0, 4) := by unfold histR; rw [if_pos h]
theorem histR_may {l : List Tx} (h : ¬ 32 < l.length) {i : Nat} (hi : i < l.length) (hj : ∀ j, j < i → mayAt l j = 0) (hb : mayAt l i ≠ 0) : histR l = ([], (i : Int), mayAt l i) := by
  unfold histR; rw [if_neg h, firstN_some hi hj hb]
theorem histR_unlike {l : List Tx} (h : ¬ 32 < l.length) (h1 : ∀ j, j < l.length → mayAt l j = 0) {i : Nat} (hi : i < l.length) (hj : ∀ j, j < i → unlikeR l j = 0) (hb : unlikeR l i ≠ 0) : histR l = ([], (i : Int), unlikeR l i) := by
  unfold histR; rw [if_neg h, firstN_none h1, firstN_some hi hj hb]
theorem histR_look {l : List Tx} (h : ¬ 32 < l.length) (h1 : ∀ j, j < l.length → mayAt l j = 0) (h2 : ∀ j, j < l.length → unlikeR l j = 0) {i : Nat} (hi : i < l.length) (hj : ∀ j, j < i → lookAt l j = 0) (hb : lookAt l i ≠ 0) : histR l = ([], (i : Int), lookAt l i) := by
  unfold histR; rw [if_neg h, firstN_none h1, firstN_none h2, firstN_some hi hj hb]
theorem histR_one {l : List Tx} (h : ¬ 32 < l.length) (h1 : ∀ j, j < l.length → mayAt l j = 0) (h2 : ∀ j, j < l.length → unlikeR l j = 0) (h3 : ∀ j, j < l.length → lookAt l j = 0) {i : Nat} (hi : i < l.length) (hj : ∀ j, j < i → oneAt l j = 0) (hb : oneAt l i ≠ 0) : histR l = ([], (i : Int), oneAt l i) := by
  unfold histR; rw [if_neg h, firstN_none h1, firstN_none h2, firstN_none h3, firstN_some hi hj hb]
theorem histR_good {l : List Tx} (h : ¬ 32 < l.length) (h1 : ∀ j, j < l.length → mayAt l j = 0) (h2 : ∀ j, j < l.length → unlikeR l j = 0) (h3 : ∀ j, j < l.length → lookAt l j = 0) (h4 : ∀ j, j < l.length → oneAt l j = 0) : histR l = (txnsTo l l.length, 0, 0) := by
  unfold histR; rw [if_neg h, firstN_none h1, firstN_none h2, firstN_none h3, firstN_none h4]
end Go.Inq
