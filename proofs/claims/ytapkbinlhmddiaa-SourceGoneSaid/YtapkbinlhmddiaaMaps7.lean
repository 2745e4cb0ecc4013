/-
  Maps whose key is a pair of numbers, as functions; no program in sight.
-/
import Derived.Test.YtapkbinlhmddiaaEv
import Derived.MapKept
import Derived.ChangeMaps4
import Derived.Carry
set_option linter.unusedVariables false
set_option linter.unusedSimpArgs false
namespace Go.Inq
open Go Go.RowKit
def It.key (x : It) : Value := .agg #[.int .i64 x.a, .int .i64 x.b]
/-- What is asked of the key's type: a struct, told apart by its two numbers. -/
structure PairKey (P : Program) (k : TypeId) : Prop where
  kind : ∃ fs, P.underlying k = some (.struct fs)
  check : ∀ (e : Bool) (x : It) (w : World), (Instr.checkKey e 10000 k x.key).run P w = .ok () w
  eq : ∀ (x y : It) (w : World), (Op.equal k x.key y.key).run P w = .ok (decide (x = y)) w
section
variable {P : Program} {k : TypeId} {α : Type} {enc : α → Value} {w : World} {g : Nat}

/-- The first entry with this key. -/
def atKey (x : It) : List (It × α) → Option (Nat × α)
  | [] => none
  | (y, v) :: r => if x = y then some (0, v) else (atKey x r).map fun p => (p.1 + 1, p.2)
/-- Entries that are these pairs. -/
def Reads (enc : α → Value) : List MapEntry → List (It × α) → Prop
  | [], [] => True
  | e :: es, (y, v) :: r => e.key = y.key ∧ e.val = enc v ∧ Reads enc es r
  | _, _ => False
theorem find_asking (K : PairKey P k) (x : It) (w : World) : ∀ (es : List MapEntry) (l : List (It × α)) (i : Nat), Reads enc es l →
    (Instr.findAsking k x.key es i).run P w = .ok ((atKey x l).map fun p => (i + p.1, enc p.2)) w
  | [], [], i, _ => by simp [Instr.findAsking, atKey]
  | e :: es, (y, v) :: r, i, h => by
    obtain ⟨h1, h2, h3⟩ := h
    unfold Instr.findAsking
    simp only [Sem.run_bind, h1, K.eq, Result.andThen_ok, atKey]
    by_cases hx : x = y
    · simp [hx, h2]
    · simp only [hx, decide_false, Bool.false_eq_true, if_false]
      rw [find_asking K x w es r (i + 1) h3]
      congr 1
      cases atKey x r with
      | none => rfl
      | some p => simp; omega
theorem find_key (K : PairKey P k) (x : It) (w : World) (es : List MapEntry) (l : List (It × α)) (h : Reads enc es l) : (Instr.findKey k x.key es).run P w = .ok ((atKey x l).map fun p => (p.1, enc p.2)) w := by
  obtain ⟨fs, hk⟩ := K.kind
  unfold Instr.findKey
  simp only [Sem.run_bind, run_underlying hk, Result.andThen_ok]
  cases es with
  | nil =>
    cases l with
    | nil => simp [Instr.findNow, atKey]
    | cons a r => exact h.elim
  | cons e es =>
    have : Instr.findNow (.struct fs) x.key (e :: es) 0 = none := by simp [Instr.findNow, Instr.sameNow]
    rw [this]
    have := find_asking K x w (e :: es) l 0 h
    simpa using this

/-- The entries with this one put. -/
def putL (x : It) (v : α) : List (It × α) → List (It × α)
  | [] => [(x, v)]
  | (y, u) :: r => if x = y then (x, v) :: r else (y, u) :: putL x v r
theorem atKey_put (x : It) (v : α) (y : It) : ∀ l : List (It × α), (atKey y (putL x v l)).map (·.2) = if y = x then some v else (atKey y l).map (·.2)
  | [] => by
    by_cases h : y = x <;> simp [putL, atKey, h]
  | (z, u) :: r => by
    have ih := atKey_put x v y r
    unfold putL
    by_cases hz : x = z
    · subst hz
      rw [if_pos rfl]
      by_cases hy : y = x
      · simp [atKey, hy]
      · simp [atKey, hy]
    · rw [if_neg hz]
      by_cases hy : y = z
      · subst hy
        simp [atKey, Ne.symm hz]
      · simp only [atKey, if_neg hy, Option.map_map]
        have e : ((fun p : Nat × α => p.2) ∘ fun p : Nat × α => (p.1 + 1, p.2)) = fun p => p.2 := rfl
        rw [e]
        exact ih
theorem atKey_some {x : It} : ∀ {l : List (It × α)} {i : Nat} {u : α} {es : List MapEntry}, atKey x l = some (i, u) → Reads enc es l → (es[i]?).map (·.key) = some x.key
  | [], _, _, _, h, _ => by simp [atKey] at h
  | (y, w) :: r, i, u, [], _, h => h.elim
  | (y, w) :: r, i, u, e :: es, h, hr => by
    obtain ⟨h1, h2, h3⟩ := hr
    unfold atKey at h
    by_cases hx : x = y
    · rw [if_pos hx] at h
      injection h with h
      injection h with h4 h5
      subst h4 hx
      simp [h1]
    · rw [if_neg hx] at h
      cases ha : atKey x r with
      | none => rw [ha] at h; simp at h
      | some p =>
        rw [ha] at h
        simp at h
        obtain ⟨rfl, rfl⟩ := h
        have := atKey_some (i := p.1) (u := p.2) ha h3
        simpa using this
theorem reads_modify {x : It} {v : α} : ∀ {l : List (It × α)} {i : Nat} {u : α} {es : List MapEntry}, atKey x l = some (i, u) → Reads enc es l →
    Reads enc (es.modify i fun e => { e with key := x.key, val := enc v }) (putL x v l)
  | [], _, _, _, h, _ => by simp [atKey] at h
  | (y, w) :: r, i, u, [], _, h => h.elim
  | (y, w) :: r, i, u, e :: es, h, hr => by
    obtain ⟨h1, h2, h3⟩ := hr
    unfold atKey at h
    unfold putL
    by_cases hx : x = y
    · rw [if_pos hx] at h ⊢
      injection h with h
      injection h with h4 h5
      subst h4
      rw [List.modify_zero_cons]
      exact ⟨rfl, rfl, h3⟩
    · rw [if_neg hx] at h ⊢
      cases ha : atKey x r with
      | none => rw [ha] at h; simp at h
      | some p =>
        rw [ha] at h
        simp at h
        obtain ⟨rfl, rfl⟩ := h
        rw [List.modify_succ_cons]
        exact ⟨h1, h2, reads_modify (i := p.1) (u := p.2) ha h3⟩
theorem reads_push {x : It} {v : α} {c : Nat} : ∀ {l : List (It × α)} {es : List MapEntry}, atKey x l = none → Reads enc es l → Reads enc (es ++ [⟨x.key, enc v, c⟩]) (putL x v l)
  | [], [], _, _ => ⟨rfl, rfl, trivial⟩
  | [], e :: es, _, h => h.elim
  | (y, w) :: r, [], _, h => h.elim
  | (y, w) :: r, e :: es, h, hr => by
    obtain ⟨h1, h2, h3⟩ := hr
    unfold atKey at h
    unfold putL
    by_cases hx : x = y
    · rw [if_pos hx] at h; cases h
    · rw [if_neg hx] at h ⊢
      exact ⟨h1, h2, reads_push (by simpa using h) h3⟩

/-- What a look-up hands back. -/
def valOr (enc : α → Value) (z : Value) : Option α → Value
  | some v => enc v
  | none => z
/-- Block g is a map that has, of each key, what B has. -/
def MapF (enc : α → Value) (w : World) (g : Nat) (B : It → Option α) : Prop :=
  ∃ es clock l, w.heap[g]? = some (.map es clock) ∧ Reads enc es.toList l ∧ ∀ x, (atKey x l).map (·.2) = B x
theorem MapF.lt {B : It → Option α} (h : MapF enc w g B) : g < w.heap.size := by
  obtain ⟨es, c, l, h1, _⟩ := h
  exact (Array.getElem?_eq_some_iff.1 h1).1
theorem MapF.new (w : World) : MapF enc (w.alloc (.map #[] 0)) w.heap.size (fun _ => none) := ⟨#[], 0, [], (MapKept.heap_alloc w _).1, trivial, fun _ => rfl⟩
theorem MapF.agree {w' : World} {B : It → Option α} (h : MapF enc w g B) (ha : w'.heap[g]? = w.heap[g]?) : MapF enc w' g B := by
  obtain ⟨es, c, l, h1, h2, h3⟩ := h
  exact ⟨es, c, l, ha.trans h1, h2, h3⟩
theorem MapF.below {w' : World} {n : Nat} {B : It → Option α} (h : MapF enc w g B) (hb : Below n w w') (hg : g < n) : MapF enc w' g B := h.agree (hb.block g hg)
theorem MapF.same {B B' : It → Option α} (h : MapF enc w g B) (hB : ∀ x, B x = B' x) : MapF enc w g B' := by
  obtain ⟨es, c, l, h1, h2, h3⟩ := h
  exact ⟨es, c, l, h1, h2, fun x => (h3 x).trans (hB x)⟩
theorem MapF.lookup (K : PairKey P k) {t e : TypeId} {z : Value} (ht : P.underlying t = some (.map k e)) (hz : ∀ w, (zeroValue e).run P w = .ok z w) {B : It → Option α} (h : MapF enc w g B) (x : It) :
    (Instr.lookup t (.map (some g)) x.key true).run P w = .ok (.tuple #[valOr enc z (B x), .bool (B x).isSome]) w := by
  obtain ⟨es, c, l, h1, h2, h3⟩ := h
  have hf := find_key K x w es.toList l h2
  have hB := h3 x
  unfold Instr.lookup
  simp only [Sem.run_bind, run_underlying ht, Result.andThen_ok, MapKept.run_getObj_map h1, Sem.run_pure, K.check, hf]
  cases ha : atKey x l with
  | none =>
    rw [ha] at hB
    rw [← hB]
    simp [hz, valOr]
  | some p =>
    rw [ha] at hB
    rw [← hB]
    simp [valOr]
theorem MapF.lookup1 (K : PairKey P k) {t e : TypeId} {z : Value} (ht : P.underlying t = some (.map k e)) (hz : ∀ w, (zeroValue e).run P w = .ok z w) {B : It → Option α} (h : MapF enc w g B) (x : It) :
    (Instr.lookup t (.map (some g)) x.key false).run P w = .ok (valOr enc z (B x)) w := by
  obtain ⟨es, c, l, h1, h2, h3⟩ := h
  have hf := find_key K x w es.toList l h2
  have hB := h3 x
  unfold Instr.lookup
  simp only [Sem.run_bind, run_underlying ht, Result.andThen_ok, MapKept.run_getObj_map h1, Sem.run_pure, K.check, hf]
  cases ha : atKey x l with
  | none =>
    rw [ha] at hB
    rw [← hB]
    simp [hz, valOr]
  | some p =>
    rw [ha] at hB
    rw [← hB]
    simp [valOr]
theorem MapF.update (K : PairKey P k) {t e : TypeId} (ht : P.underlying t = some (.map k e)) {B : It → Option α} (h : MapF enc w g B) (x : It) (v : α) :
    ∃ es c, (Instr.mapUpdate t (.map (some g)) x.key (enc v)).run P w = .ok () (ChangeMaps.setBlock w g (.map es c)) ∧ MapF enc (ChangeMaps.setBlock w g (.map es c)) g (fun y => if y = x then some v else B y) := by
  have hg := h.lt
  obtain ⟨es, c, l, h1, h2, h3⟩ := h
  have hf := find_key K x w es.toList l h2
  have hs : Instr.sameBits 10000 x.key x.key = true := by simp [It.key, Instr.sameBits]
  cases ha : atKey x l with
  | none =>
    refine ⟨es.push ⟨x.key, enc v, c⟩, c + 1, ?_, ⟨es.push ⟨x.key, enc v, c⟩, c + 1, putL x v l, ?_, ?_, fun y => ?_⟩⟩
    · unfold Instr.mapUpdate
      simp only [Sem.run_bind, run_underlying ht, Result.andThen_ok, MapKept.run_getObj_map h1, K.check, hf, ha, Option.map_none]
      exact MapKept.run_setObj_map _ h1
    · unfold ChangeMaps.setBlock; simp [hg]
    · rw [Array.toList_push]; exact reads_push ha h2
    · rw [atKey_put, h3]
  | some p =>
    obtain ⟨i, u⟩ := p
    have hk := atKey_some ha h2
    refine ⟨es.modify i fun e => { e with key := x.key, val := enc v }, c, ?_, ⟨es.modify i fun e => { e with key := x.key, val := enc v }, c, putL x v l, ?_, ?_, fun y => ?_⟩⟩
    · unfold Instr.mapUpdate
      simp only [Sem.run_bind, run_underlying ht, Result.andThen_ok, MapKept.run_getObj_map h1, K.check, hf, ha, Option.map_some]
      have hk2 : ((es[i]?).map (·.key)).getD x.key = x.key := by
        rw [← Array.getElem?_toList, hk]; rfl
      rw [hk2]
      unfold Instr.keyThatStays
      rw [hs]
      simp only [if_true, Sem.run_pure, Result.andThen_ok]
      exact MapKept.run_setObj_map _ h1
    · unfold ChangeMaps.setBlock; simp [hg]
    · rw [Array.toList_modify]; exact reads_modify ha h2
    · rw [atKey_put, h3]
end
end Go.Inq
