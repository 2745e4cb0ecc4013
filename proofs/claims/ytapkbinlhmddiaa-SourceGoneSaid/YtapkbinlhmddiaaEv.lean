/-
  Plain words on events and items; no program in sight.
-/
import Derived.Test.YtapkbinlhmddiaaBase
set_option linter.unusedVariables false
set_option linter.unusedSimpArgs false
namespace Go.Inq
open Go Go.RowKit

structure Ev where
  kind : Int
  sess : Int
  key : Int
  val : Int
deriving DecidableEq

def Ev.enc (e : Ev) : List Value := [.int .i64 e.kind, .int .i64 e.sess, .int .i64 e.key, .int .i64 e.val]

def belowB (n m : Int) : Bool := decide (0 ≤ n) && decide (n < m)
def itemB (k : Int) : Bool := k == 1 || k == 2

/-- An event may be. -/
def Ev.right (e : Ev) : Bool := belowB e.kind 5 && belowB e.sess 8 && (if itemB e.kind then belowB e.key 16 && belowB e.val 2147483648 else e.key == 0 && e.val == 0)

/-- A slice of events. -/
def EvS (w : World) (K : Nat → Prop) (v : Value) (l : List Ev) : Prop := SlR 4 (Flat Ev.enc) w K v l

theorem EvS.keep {w w' : World} {K K' : Nat → Prop} {v : Value} {l : List Ev} (h : EvS w K v l) (ha : Agree K w w') (hk : ∀ b, K b → K' b) : EvS w' K' v l :=
  SlR.keep (Flat.stab _) h ha hk

theorem EvS.at_ {w : World} {K : Nat → Prop} {A : Option Addr} {n c : Nat} {l : List Ev} (h : EvS w K (.slice A n c) l) {i : Nat} (hi : i < l.length) :
    ∃ b off, A = some ⟨b, off, none⟩ ∧ K b ∧ w.cell? ⟨b, off + i * 4, none⟩ = some (.int .i64 l[i].kind) ∧ w.cell? ⟨b, off + i * 4 + 1, none⟩ = some (.int .i64 l[i].sess) ∧
      w.cell? ⟨b, off + i * 4 + 2, none⟩ = some (.int .i64 l[i].key) ∧ w.cell? ⟨b, off + i * 4 + 3, none⟩ = some (.int .i64 l[i].val) := by
  obtain ⟨b, off, cs, hA, hK, _, hR, hc⟩ := SlR.at_ h hi
  unfold Flat at hR
  subst hR
  exact ⟨b, off, hA, hK, hc 0 _ rfl, hc 1 _ rfl, hc 2 _ rfl, hc 3 _ rfl⟩

theorem EvS.below {w w' : World} {v : Value} {l : List Ev} (h : EvS w (Old w) v l) (hb : Below w.heap.size w w') : EvS w' (Old w') v l := SlR.below (Flat.stab _) h hb
theorem EvS.fit {w : World} {K K' : Nat → Prop} {v : Value} {l : List Ev} (h : EvS w K v l) (hk : ∀ b, K b → K' b) : EvS w K' v l := SlR.fit (Flat.stab _) h hk
theorem EvS.cells {w : World} {K : Nat → Prop} {b off n c : Nat} {l : List Ev} (h : EvS w K (.slice (some ⟨b, off, none⟩) n c) l) {i : Nat} (hi : i < l.length) :
    K b ∧ w.cell? ⟨b, off + i * 4, none⟩ = some (.int .i64 l[i].kind) ∧ w.cell? ⟨b, off + i * 4 + 1, none⟩ = some (.int .i64 l[i].sess) ∧
      w.cell? ⟨b, off + i * 4 + 2, none⟩ = some (.int .i64 l[i].key) ∧ w.cell? ⟨b, off + i * 4 + 3, none⟩ = some (.int .i64 l[i].val) := by
  obtain ⟨cs, hK, _, hR, hc⟩ := SlR.cells h hi
  unfold Flat at hR
  subst hR
  exact ⟨hK, hc 0 _ rfl, hc 1 _ rfl, hc 2 _ rfl, hc 3 _ rfl⟩

/-- A pair of numbers: a key, and a value (a take: a key, and from whom). -/
structure It where
  a : Int
  b : Int
deriving DecidableEq
def It.enc (e : It) : List Value := [.int .i64 e.a, .int .i64 e.b]

def ItS (w : World) (K : Nat → Prop) (v : Value) (l : List It) : Prop := SlR 2 (Flat It.enc) w K v l

theorem ItS.keep {w w' : World} {K K' : Nat → Prop} {v : Value} {l : List It} (h : ItS w K v l) (ha : Agree K w w') (hk : ∀ b, K b → K' b) : ItS w' K' v l :=
  SlR.keep (Flat.stab _) h ha hk

theorem ItS.below {w w' : World} {v : Value} {l : List It} (h : ItS w (Old w) v l) (hb : Below w.heap.size w w') : ItS w' (Old w') v l := SlR.below (Flat.stab _) h hb
theorem ItS.fit {w : World} {K K' : Nat → Prop} {v : Value} {l : List It} (h : ItS w K v l) (hk : ∀ b, K b → K' b) : ItS w K' v l := SlR.fit (Flat.stab _) h hk
theorem ItS.cells {w : World} {K : Nat → Prop} {b off n c : Nat} {l : List It} (h : ItS w K (.slice (some ⟨b, off, none⟩) n c) l) {i : Nat} (hi : i < l.length) :
    K b ∧ w.cell? ⟨b, off + i * 2, none⟩ = some (.int .i64 l[i].a) ∧ w.cell? ⟨b, off + i * 2 + 1, none⟩ = some (.int .i64 l[i].b) := by
  obtain ⟨cs, hK, _, hR, hc⟩ := SlR.cells h hi
  unfold Flat at hR
  subst hR
  exact ⟨hK, hc 0 _ rfl, hc 1 _ rfl⟩

theorem ItS.at_ {w : World} {K : Nat → Prop} {A : Option Addr} {n c : Nat} {l : List It} (h : ItS w K (.slice A n c) l) {i : Nat} (hi : i < l.length) :
    ∃ b off, A = some ⟨b, off, none⟩ ∧ K b ∧ w.cell? ⟨b, off + i * 2, none⟩ = some (.int .i64 l[i].a) ∧ w.cell? ⟨b, off + i * 2 + 1, none⟩ = some (.int .i64 l[i].b) := by
  obtain ⟨b, off, cs, hA, hK, _, hR, hc⟩ := SlR.at_ h hi
  unfold Flat at hR
  subst hR
  exact ⟨b, off, hA, hK, hc 0 _ rfl, hc 1 _ rfl⟩

/-- The last op of a kind and a key among the first k. -/
def aheadN (l : List Ev) (kind key : Int) : Nat → Int
  | 0 => -1
  | k + 1 => match l[k]? with
    | some e => if e.kind = kind ∧ e.key = key then k else aheadN l kind key k
    | none => aheadN l kind key k

theorem aheadN_hit {l : List Ev} {kind key : Int} {m : Nat} {x : Ev} (h : l[m]? = some x) (h1 : x.kind = kind) (h2 : x.key = key) : aheadN l kind key (m + 1) = m := by
  simp [aheadN, h, h1, h2]
theorem aheadN_miss {l : List Ev} {kind key : Int} {m : Nat} {x : Ev} (h : l[m]? = some x) (h1 : ¬ (x.kind = kind ∧ x.key = key)) : aheadN l kind key (m + 1) = aheadN l kind key m := by
  simp [aheadN, h, h1]
theorem aheadN_lt (l : List Ev) (kind key : Int) : ∀ k : Nat, -1 ≤ aheadN l kind key k ∧ aheadN l kind key k < k
  | 0 => by simp [aheadN]
  | k + 1 => by
    have := aheadN_lt l kind key k
    unfold aheadN
    split
    · split <;> omega
    · omega

/-- Does some write behind place i have this key and value? -/
def future (l : List Ev) (i : Nat) (key val : Int) : Bool := (l.drop (i + 1)).any fun x => x.kind == 2 && x.key == key && x.val == val
def valAt (l : List Ev) (k : Int) : Int := ((l[k.toNat]?).map (·.val)).getD 0

/-- What is wrong with the op e at place i, those ahead being right. -/
def wrongE (l : List Ev) (i : Nat) (e : Ev) : Int :=
  if e.right = false ∨ (e.kind ≠ 1 ∧ e.kind ≠ 2) then 1
  else if e.kind = 2 then 0
  else if 0 ≤ aheadN l 2 e.key i then (if valAt l (aheadN l 2 e.key i) = e.val then 0 else 10)
  else if 0 ≤ aheadN l 1 e.key i then (if valAt l (aheadN l 1 e.key i) = e.val then 0 else 11)
  else if future l i e.key e.val = true then 9 else 0
def wrongAt (l : List Ev) (i : Nat) : Int := match l[i]? with | some e => wrongE l i e | none => 0

/-- What a look at ops gives: what is read, what is written, the place, the error. -/
structure LookOut where
  reads : List It
  writes : List It
  at_ : Int
  err : Int

/-- The first place from k on with a key. -/
def firstI (key : Int) : List Ev → Nat → Int
  | [], _ => -1
  | x :: r, k => if x.key = key then k else firstI key r (k + 1)
def firstD (l : List Ev) (key : Int) (k : Nat) : Int := firstI key (l.drop k) k
theorem firstD_step {l : List Ev} {key : Int} {k : Nat} {x : Ev} (hx : l[k]? = some x) : firstD l key k = if x.key = key then (k : Int) else firstD l key (k + 1) := by
  have hk : k < l.length := by
    rcases Nat.lt_or_ge k l.length with h | h
    · exact h
    · rw [List.getElem?_eq_none h] at hx; cases hx
  rw [List.getElem?_eq_getElem hk] at hx
  injection hx with hx
  unfold firstD
  rw [List.drop_eq_getElem_cons hk, firstI, hx]
theorem firstD_end (l : List Ev) (key : Int) : firstD l key l.length = -1 := by simp [firstD, firstI]
theorem firstI_lt (key : Int) : ∀ (l : List Ev) (k : Nat), firstI key l k = -1 ∨ ((k : Int) ≤ firstI key l k ∧ firstI key l k < (k : Int) + l.length)
  | [], _ => .inl rfl
  | x :: r, k => by
    unfold firstI
    split
    · right; simp; omega
    · rcases firstI_lt key r (k + 1) with h | h
      · exact .inl h
      · right; simp; omega
theorem firstD_lt (l : List Ev) (key : Int) : -1 ≤ firstD l key 0 ∧ firstD l key 0 < l.length := by
  have := firstI_lt key (l.drop 0) 0
  unfold firstD
  simp only [List.drop_zero] at *
  omega

def kindAt (l : List Ev) (k : Int) : Int := ((l[k.toNat]?).map (·.kind)).getD 0
def readOf (l : List Ev) (key : Int) : Option It := if 0 ≤ firstD l key 0 ∧ kindAt l (firstD l key 0) = 1 then some ⟨key, valAt l (firstD l key 0)⟩ else none
def writeOf (l : List Ev) (key : Int) : Option It := if 0 ≤ aheadN l 2 key l.length then some ⟨key, valAt l (aheadN l 2 key l.length)⟩ else none
def readsTo (l : List Ev) (n : Nat) : List It := (List.range n).filterMap fun (k : Nat) => readOf l (k : Int)
def writesTo (l : List Ev) (n : Nat) : List It := (List.range n).filterMap fun (k : Nat) => writeOf l (k : Int)
theorem readsTo_succ (l : List Ev) (n : Nat) : readsTo l (n + 1) = readsTo l n ++ (readOf l n).toList := by
  unfold readsTo
  rw [List.range_succ, List.filterMap_append]
  congr 1
theorem writesTo_succ (l : List Ev) (n : Nat) : writesTo l (n + 1) = writesTo l n ++ (writeOf l n).toList := by
  unfold writesTo
  rw [List.range_succ, List.filterMap_append]
  congr 1
theorem readsTo_len (l : List Ev) (n : Nat) : (readsTo l n).length ≤ n := by
  unfold readsTo
  exact Nat.le_trans (List.length_filterMap_le _ _) (by simp)
theorem writesTo_len (l : List Ev) (n : Nat) : (writesTo l n).length ≤ n := by
  unfold writesTo
  exact Nat.le_trans (List.length_filterMap_le _ _) (by simp)

def firstBad (l : List Ev) : Option Nat := (List.range l.length).find? fun i => wrongAt l i != 0
theorem firstBad_some {l : List Ev} {k : Nat} (hk : k < l.length) (h : ∀ j, j < k → wrongAt l j = 0) (hb : wrongAt l k ≠ 0) : firstBad l = some k := by
  unfold firstBad
  rw [List.find?_range_eq_some]
  exact ⟨by simpa using hb, by simpa using hk, fun j hj => by simpa using h j hj⟩
theorem firstBad_none {l : List Ev} (h : ∀ j, j < l.length → wrongAt l j = 0) : firstBad l = none := by
  unfold firstBad
  rw [List.find?_eq_none]
  intro x hx
  simpa using h x (by simpa using hx)

/-- The reference's look: by definition. -/
def lookR (l : List Ev) : LookOut := match firstBad l with
  | some i => ⟨[], [], i, wrongAt l i⟩
  | none => ⟨readsTo l 16, writesTo l 16, 0, 0⟩

theorem future_step {l : List Ev} {i k : Nat} {key val : Int} {x : Ev} (hik : i < k) (hx : l[k]? = some x) :
    (l.drop k).any (fun x => x.kind == 2 && x.key == key && x.val == val) = ((x.kind == 2 && x.key == key && x.val == val) || (l.drop (k + 1)).any fun x => x.kind == 2 && x.key == key && x.val == val) := by
  have hk : k < l.length := by
    rcases Nat.lt_or_ge k l.length with h | h
    · exact h
    · rw [List.getElem?_eq_none h] at hx; cases hx
  rw [List.drop_eq_getElem_cons hk, List.any_cons]
  rw [List.getElem?_eq_getElem hk] at hx
  injection hx with hx
  rw [hx]

end Go.Inq
