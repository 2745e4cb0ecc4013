/-
  Copies of elements of more than one cell; rows into which an element is put; no program in sight.
-/
import Derived.Lib.AppendZerosOnto
import Derived.Lib.Overlaps
import Derived.Laws.CopyRow
import Derived.Laws.NewBlocks
import Derived.Test.YtphcebgpllecjaaGreatDoorC01
set_option linter.unusedVariables false
set_option linter.unusedSimpArgs false
namespace Go.Inq
open Go Go.RowKit
variable {P : Program}

theorem run_copyN (w : World) (dT sT ty elem : TypeId) (size g o dLen dCap : Nat) (a : Addr) (sLen sCap : Nat) (cur : Array Value) (t : TypeId) (cs : List Value)
    (hu : P.underlying dT = some (.slice elem)) (hs : (P.info? elem).map (·.size) = some size)
    (hg : w.heap[g]? = some (.cells cur t (0, 0))) (hn : cs.length = Nat.min sLen dLen * size)
    (hsrc : ∀ j v, cs[j]? = some v → w.cell? (a.add j) = some v) (hfit : o + cs.length ≤ cur.size) (h1 : ∀ v ∈ cs, v.oneCell' = true) :
    (Builtin.copy_ #[dT, sT] ty #[.slice (some ⟨g, o, none⟩) dLen dCap, .slice (some a) sLen sCap]).run P w =
      .ok (goInt (Nat.min sLen dLen)) (w.setRow g (cur.toList.take o ++ cs ++ cur.toList.drop (o + cs.length)).toArray) := by
  have hl := run_loadCells_list (P := P) w a cs hsrc
  have hst := run_storeCells_at P g o t cs 0 cur w hg (by simpa using hfit) h1
  cases hq : P.info? elem with
  | none => simp [hq] at hs
  | some i =>
    have hi : i.size = size := by simpa [hq] using hs
    simp [Builtin.copy_, run_underlying hu, Builtin.lenOf, Builtin.firstCells, sizeOf, typeInfo, hq, hi, ← hn, hl, hst]

theorem wp_copy_go (w : World) {o : Oper} {a : Act} {K : Act → World → Prop} {Q : Exit → Act → World → Prop} (d s : Operand) (t t' : TypeId)
    (ho : o.op = .call { callee := .builtin .copy, args := #[d, s], argTypes := #[t, t'] }) (v u : Value) (hd : a.eval d = v) (hs : a.eval s = u) {v' : Value} {w' : World}
    (hr : (Builtin.copy_ #[t, t'] o.type #[v, u]).run P w = .ok v' w') (h : K (a.put o.dst v') w') : o.wp P a w K Q := by
  unfold Oper.wp execOp
  simp only [ho, resolve, invoke, builtin, Sem.run_bind, Sem.run_pure, Result.andThen_ok, List.map_toArray, List.map_cons, List.map_nil, hd, hs, hr]
  exact h

theorem wpList_copy_go (w : World) {ops : Array Oper} {rest : List Oper} {o : Oper} {a : Act} {Q : Exit → Act → World → Prop} (hgd : o.guard = none) (d s : Operand) (t t' : TypeId)
    (ho : o.op = .call { callee := .builtin .copy, args := #[d, s], argTypes := #[t, t'] }) (v u : Value) (hd : a.eval d = v) (hs : a.eval s = u) {v' : Value} {w' : World}
    (hr : (Builtin.copy_ #[t, t'] o.type #[v, u]).run P w = .ok v' w') (h : wpList P ops Q rest (a.put o.dst v') w') : wpList P ops Q (o :: rest) a w :=
  wpList_plain hgd fun _ hK => wp_copy_go w d s t t' ho v u hd hs hr (hK _ _ h)

section
variable {w : World} {base g n cap size : Nat} {e : TypeId} {cur : Array Value} {xs : List Value}

/-- A row written whole anew. -/
theorem own_setRow (hbase : base ≤ g) (hg : w.heap[g]? = some (.cells cur e (0, 0))) (cs : Array Value) (m : Nat) (ys : List Value) (hm : m ≤ cap) (hc : cap ≤ maxLen) (hcs : cs.size = cap * size) (hy : cs.toList.take (m * size) = ys) :
    (w.setRow g cs).ownsRow base e size (.slice (some ⟨g, 0, none⟩) m cap) m ys := by
  refine ⟨?_, .inr ⟨g, cap, cs, rfl, hbase, setRow_heap w g cur cs e (0, 0) hg, hm, hc, hcs, hy⟩⟩
  rw [← hy, List.length_take, Array.length_toList, hcs]
  exact Nat.min_eq_left (Nat.mul_le_mul_right _ hm)

theorem grown_setRow (w : World) (g : Nat) (cs : Array Value) : w.grownBy (w.setRow g cs) (some g) :=
  ⟨rfl, rfl, rfl, by simp, fun k _ hk => setRow_other w g k cs (fun e => hk (by rw [e]))⟩
end

/-- Shift, then put in: the two copies of an insertion where there is room. -/
theorem ins_room {l x : List Value} {i n s : Nat} (hi : i ≤ n) (hx : x.length = s) (hl : (n + 1) * s ≤ l.length) :
    ∀ r1 r2 : List Value, r1 = l.take ((i + 1) * s) ++ (l.take (n * s)).drop (i * s) ++ l.drop ((i + 1) * s + ((l.take (n * s)).drop (i * s)).length) → r2 = r1.take (i * s) ++ x ++ r1.drop (i * s + x.length) →
      r1.length = l.length ∧ r2.length = l.length ∧ r2.take ((n + 1) * s) = (l.take (n * s)).take (i * s) ++ x ++ (l.take (n * s)).drop (i * s) := by
  intro r1 r2 h1 h2
  have e1 : (i + 1) * s = i * s + s := by rw [Nat.add_mul]; omega
  have e2 : (n + 1) * s = n * s + s := by rw [Nat.add_mul]; omega
  have hin : i * s ≤ n * s := Nat.mul_le_mul_right _ hi
  rw [e1] at h1
  rw [e2] at hl ⊢
  generalize hI : i * s = I at *
  generalize hN : n * s = N at *
  have hd : ((l.take N).drop I).length = N - I := by rw [List.length_drop, List.length_take]; omega
  have hr1 : r1.length = l.length := by
    subst h1
    simp only [List.length_append, List.length_take, List.length_drop]
    omega
  have hr2 : r2.length = l.length := by
    subst h2
    simp only [List.length_append, List.length_take, List.length_drop]
    omega
  refine ⟨hr1, hr2, ?_⟩
  have t1 : r1.take I = l.take I := by
    subst h1
    rw [List.append_assoc, List.take_append_of_le_length (by rw [List.length_take]; omega), List.take_take]
    congr 1
    omega
  have t2 : r1.drop (I + x.length) = (l.take N).drop I ++ l.drop (I + s + ((l.take N).drop I).length) := by
    subst h1
    rw [List.append_assoc, hx, List.drop_append_of_le_length (by rw [List.length_take]; omega), List.drop_eq_nil_of_le (by rw [List.length_take]; omega), List.nil_append]
  subst h2
  rw [t1, t2, ← List.append_assoc, List.take_append_of_le_length (by simp only [List.length_append, List.length_take, List.length_drop]; omega), List.take_of_length_le (by simp only [List.length_append, List.length_take, List.length_drop]; omega), List.take_take]
  congr 3
  omega

/-- A new row: put in, then the rest behind. -/
theorem ins_grow {l x r : List Value} {i n s : Nat} (hi : i ≤ n) (hx : x.length = s) (hl : l.length = n * s) (hr : (n + 1) * s ≤ r.length) (hrt : r.take (i * s) = l.take (i * s)) :
    ∀ r1 r2 : List Value, r1 = r.take (i * s) ++ x ++ r.drop (i * s + x.length) → r2 = r1.take ((i + 1) * s) ++ l.drop (i * s) ++ r1.drop ((i + 1) * s + (l.drop (i * s)).length) →
      r1.length = r.length ∧ r2.length = r.length ∧ r2.take ((n + 1) * s) = l.take (i * s) ++ x ++ l.drop (i * s) := by
  intro r1 r2 h1 h2
  have e1 : (i + 1) * s = i * s + s := by rw [Nat.add_mul]; omega
  have e2 : (n + 1) * s = n * s + s := by rw [Nat.add_mul]; omega
  have hin : i * s ≤ n * s := Nat.mul_le_mul_right _ hi
  rw [e1] at h2
  rw [e2] at hr ⊢
  generalize hI : i * s = I at *
  generalize hN : n * s = N at *
  have hd : (l.drop I).length = N - I := by rw [List.length_drop]; omega
  have hr1 : r1.length = r.length := by
    subst h1
    simp only [List.length_append, List.length_take, List.length_drop]
    omega
  have hr2 : r2.length = r.length := by
    subst h2
    simp only [List.length_append, List.length_take, List.length_drop]
    omega
  refine ⟨hr1, hr2, ?_⟩
  have t1 : r1.take (I + s) = l.take I ++ x := by
    subst h1
    rw [hrt, List.take_append_of_le_length (by simp only [List.length_append, List.length_take]; omega), List.take_of_length_le (by simp only [List.length_append, List.length_take]; omega)]
  subst h2
  rw [t1, List.take_append_of_le_length (by simp only [List.length_append, List.length_take, List.length_drop]; omega), List.take_of_length_le (by simp only [List.length_append, List.length_take, List.length_drop]; omega)]
end Go.Inq
