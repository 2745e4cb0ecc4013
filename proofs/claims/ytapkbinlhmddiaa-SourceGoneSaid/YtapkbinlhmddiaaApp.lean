/-
  Appends for slices that read as lists: what is appended, one element or many, nil or not, onto a slice of the call's own; no program in sight.
-/
import Derived.Test.YtapkbinlhmddiaaBase
set_option linter.unusedVariables false
set_option linter.unusedSimpArgs false
namespace Go.Inq
open Go Go.RowKit

/-- The call's own slice v holds the list l, as elements that R tells of. -/
def OwnR {α : Type} (size : Nat) (R : World → (Nat → Prop) → List Value → α → Prop) (w : World) (K : Nat → Prop) (base : Nat) (e : TypeId) (v : Value) (l : List α) : Prop :=
  ∃ ys : List (List Value), w.ownsRow base e size v l.length ys.flatten ∧ ys.length = l.length ∧ ∀ (i : Nat) cs x, ys[i]? = some cs → l[i]? = some x → cs.length = size ∧ R w K cs x

section
variable {α : Type} {size : Nat} {R : World → (Nat → Prop) → List Value → α → Prop} {w w' : World} {K K' : Nat → Prop} {base : Nat} {e : TypeId} {v : Value} {l : List α}

theorem OwnR.nil (size : Nat) (R : World → (Nat → Prop) → List Value → α → Prop) (w : World) (K : Nat → Prop) (base : Nat) (e : TypeId) : OwnR size R w K base e (.slice none 0 0) ([] : List α) :=
  ⟨[], World.ownsRow_nil _ _ _ _, rfl, fun i cs x h => by simp at h⟩

theorem OwnR.lt (h : OwnR size R w K base e v l) : ∀ k, v.ownBlock = some k → base ≤ k ∧ k < w.heap.size := by
  obtain ⟨ys, h1, _⟩ := h
  exact h1.lt

theorem OwnR.form (h : OwnR size R w K base e v l) : ∃ A c, v = .slice A l.length c := by
  obtain ⟨ys, h1, _⟩ := h
  exact own_slice h1

theorem OwnR.sl (h : OwnR size R w K base e v l) (hK : ∀ g, v.ownBlock = some g → K g) : SlR size R w K v l := by
  obtain ⟨ys, h1, h2, h3⟩ := h
  exact SlR.of_own h1 rfl rfl h2 h3 hK

/-- What holds the same in K, and in the row, keeps it. -/
theorem OwnR.keep (hR : Stab R) (h : OwnR size R w K base e v l) (ha : Agree K w w') (hk : ∀ b, K b → K' b) (hr : ∀ g, v.ownBlock = some g → w'.heap[g]? = w.heap[g]?) : OwnR size R w' K' base e v l := by
  obtain ⟨ys, h1, h2, h3⟩ := h
  refine ⟨ys, ⟨h1.1, ?_⟩, h2, fun i cs x a b => ⟨(h3 i cs x a b).1, hR _ _ _ _ _ _ (h3 i cs x a b).2 ha hk⟩⟩
  rcases h1.2 with h4 | ⟨g, cap, cur, hv, hg, hh, r⟩
  · exact .inl h4
  · exact .inr ⟨g, cap, cur, hv, hg, by rw [hr g (by rw [hv]; rfl)]; exact hh, r⟩

theorem OwnR.flat {enc : α → List Value} (h : w.ownsRow base e size v l.length (l.map enc).flatten) (hs : ∀ x, (enc x).length = size) : OwnR size (Flat enc) w K base e v l :=
  ⟨l.map enc, h, by simp, fun i cs x h1 h2 => by
    rw [List.getElem?_map, h2] at h1
    injection h1 with h1
    exact ⟨by rw [← h1]; exact hs x, h1.symm⟩⟩
end

theorem run_append_own_nil {P : Program} (w : World) (base : Nat) (t ty e : TypeId) (i : TypeInfo) (size : Nat) (ht : P.underlying t = some (.slice e)) (hi : P.info? e = some i)
    (v : Value) (n : Nat) (xs : List Value) (hown : w.ownsRow base e size v n xs) (c : Nat) :
    (Builtin.append_ #[t, t] ty #[v, .slice none 0 c]).run P w = .ok v w := by
  rcases hown.2 with ⟨rfl, rfl⟩ | ⟨g, cap, cur, rfl, _, _, hnc, _⟩
  · simp [Builtin.append_, run_underlying ht, sizeOf, typeInfo, hi, Builtin.lenOf, Builtin.firstCells]
  · simp [Builtin.append_, run_underlying ht, sizeOf, typeInfo, hi, Builtin.lenOf, Builtin.firstCells, hnc, storeCells]

theorem flatten_at {size : Nat} : ∀ (ys : List (List Value)) (j : Nat) (u : Value), (∀ (i : Nat) cs, ys[i]? = some cs → cs.length = size) → ys.flatten[j]? = some u → ∃ i k cs, j = i * size + k ∧ ys[i]? = some cs ∧ cs[k]? = some u
  | [], j, u, _, h => by simp at h
  | y :: ys, j, u, hs, h => by
    have hy := hs 0 y rfl
    rw [List.flatten_cons] at h
    rcases Nat.lt_or_ge j y.length with hj | hj
    · rw [List.getElem?_append_left hj] at h
      exact ⟨0, j, y, by simp, rfl, h⟩
    · rw [List.getElem?_append_right hj] at h
      obtain ⟨i, k, cs, h1, h2, h3⟩ := flatten_at ys (j - y.length) u (fun i cs h => hs (i + 1) cs (by simpa using h)) h
      exact ⟨i + 1, k, cs, by rw [Nat.add_mul]; omega, by simpa using h2, h3⟩

/-- append(s, x...): s of the call's own, x whatever reads as a list. -/
theorem wpList_append_list {P : Program} {w : World} {ops : Array Oper} {rest : List Oper} {o : Oper} {a : Act} {Q : Exit → Act → World → Prop} {α : Type} {R : World → (Nat → Prop) → List Value → α → Prop}
    (hgd : o.guard = none) (s x : Operand) (t : TypeId) (ho : o.op = .call { callee := .builtin .append, args := #[s, x], argTypes := #[t, t] })
    (base : Nat) (e : TypeId) (i : TypeInfo) (z : Value) (size bytes : Nat) (ht : P.underlying t = some (.slice e)) (hi : P.info? e = some i) (hz : i.zero = some z)
    (hsize : i.size = size) (hby : i.bytes = bytes) (hzs : z.cells.size = size) (hsz : 0 < size)
    (v : Value) (K : Nat → Prop) (l : List α) (hs : a.eval s = v) (hown : OwnR size R w K base e v l)
    (vx : Value) (l2 : List α) (hx : a.eval x = vx) (hsrc : SlR size R w K vx l2)
    (h1 : ∀ cs x, R w K cs x → ∀ u ∈ cs, u.oneCell' = true) (h63 : l.length + l2.length ≤ maxLen) (hbytes : (l.length + l2.length) * bytes ≤ 140737488355328) (hbase : base ≤ w.heap.size)
    (hA : ∀ w', w.grownBy w' v.ownBlock → ∀ cs x, R w K cs x → R w' K cs x)
    (h : ∀ v' w', OwnR size R w' K base e v' (l ++ l2) → w.grownBy w' v.ownBlock → (v'.ownBlock = v.ownBlock ∨ v'.ownBlock = some w.heap.size) → wpList P ops Q rest (a.put o.dst v') w') :
    wpList P ops Q (o :: rest) a w := by
  obtain ⟨ys, hy, hyl, hyR⟩ := hown
  obtain ⟨A, c, xs, rfl, hc, hxl, hxR, hxc⟩ := hsrc
  have join : ∀ w', w.grownBy w' v.ownBlock → ∀ (i : Nat) cs x, (ys ++ xs)[i]? = some cs → (l ++ l2)[i]? = some x → cs.length = size ∧ R w' K cs x := fun w' ha i cs x g1 g2 => by
    by_cases hil : i < l.length
    · rw [List.getElem?_append_left (by omega)] at g1 g2
      exact ⟨(hyR i cs x g1 g2).1, hA w' ha _ _ (hyR i cs x g1 g2).2⟩
    · rw [List.getElem?_append_right (by omega)] at g1 g2
      rw [hyl] at g1
      exact ⟨(hxR _ cs x g1 g2).1, hA w' ha _ _ (hxR _ cs x g1 g2).2⟩
  have fin : ∀ v' w', w'.ownsRow base e size v' (l.length + l2.length) (ys.flatten ++ xs.flatten) → w.grownBy w' v.ownBlock → OwnR size R w' K base e v' (l ++ l2) := fun v' w' g1 g2 =>
    ⟨ys ++ xs, by rw [List.length_append, List.flatten_append]; exact g1, by simp [hyl, hxl], join w' g2⟩
  have hlen : ∀ (i : Nat) cs, xs[i]? = some cs → cs.length = size := fun i cs g => by
    have hil : i < l2.length := by
      rw [← hxl]
      rcases Nat.lt_or_ge i xs.length with h | h
      · exact h
      · rw [List.getElem?_eq_none h] at g; cases g
    exact (hxR i cs l2[i] g (List.getElem?_eq_getElem hil)).1
  have hnl : xs.flatten.length = l2.length * size := by
    rw [← hxl]
    clear join fin hxR hxc hxl hx
    induction xs with
    | nil => simp
    | cons y ys ih =>
      rw [List.flatten_cons, List.length_append, hlen 0 y rfl, ih (fun i cs h => hlen (i + 1) cs (by simpa using h)), List.length_cons, Nat.add_mul]
      omega
  have hone : ∀ u ∈ xs.flatten, u.oneCell' = true := fun u hu => by
    obtain ⟨cs, hcs, hu⟩ := List.mem_flatten.1 hu
    obtain ⟨i, hi⟩ := List.getElem?_of_mem hcs
    have hil : i < l2.length := by
      rw [← hxl]
      rcases Nat.lt_or_ge i xs.length with h | h
      · exact h
      · rw [List.getElem?_eq_none h] at hi; cases hi
    exact h1 cs l2[i] (hxR i cs l2[i] hi (List.getElem?_eq_getElem hil)).2 u hu
  cases A with
  | some ad =>
    refine wpList_append_own_at w hgd s x t ho base e i z size bytes ht hi hz hsize hby hzs hsz v l.length ys.flatten hs hy ad l2.length c xs.flatten hx hnl (fun j u hj => ?_) hone h63 hbytes hbase (fun v' w' g1 g2 _ g3 => h v' w' (fin v' w' g1 g2) g2 g3)
    have hpos : 0 < l2.length := by
      rcases Nat.lt_or_ge 0 l2.length with h | h
      · exact h
      · have : xs = [] := List.eq_nil_of_length_eq_zero (by omega)
        subst this; simp at hj
    obtain ⟨b, off, hA, hb, hcell⟩ := hxc hpos
    injection hA with hA
    subst hA
    obtain ⟨i, k, cs, hj2, hi2, hk2⟩ := flatten_at xs j u hlen hj
    rw [Addr.add_lit, hj2, ← Nat.add_assoc]
    exact hcell i k cs u hi2 hk2
  | none =>
    have hz2 : l2 = [] := by
      rcases Nat.lt_or_ge 0 l2.length with h | h
      · obtain ⟨b, off, hA, _⟩ := hxc h; cases hA
      · exact List.eq_nil_of_length_eq_zero (by omega)
    subst hz2
    have hr := run_append_own_nil (P := P) w base t o.type e i size ht hi v l.length ys.flatten hy c
    refine wpList_plain hgd fun K' hK' => ?_
    unfold Oper.wp execOp
    simp only [ho, resolve, invoke, builtin, Sem.run_bind, Sem.run_pure, Result.andThen_ok, List.map_toArray, List.map_cons, List.map_nil, hs, hx, List.length_nil, hr]
    refine hK' _ _ (h v w (by rw [List.append_nil]; exact ⟨ys, hy, hyl, hyR⟩) ⟨rfl, rfl, rfl, Nat.le_refl _, fun _ _ _ => rfl⟩ (.inl rfl))

theorem OwnR.raw {α : Type} {size : Nat} {enc : α → List Value} {w : World} {K : Nat → Prop} {base : Nat} {e : TypeId} {v : Value} {l : List α} (h : OwnR size (Flat enc) w K base e v l) : w.ownsRow base e size v l.length (l.map enc).flatten := by
  obtain ⟨ys, h1, h2, h3⟩ := h
  have : ys = l.map enc := by
    refine List.ext_getElem (by simp [h2]) fun i g1 g2 => ?_
    have := (h3 i _ _ (List.getElem?_eq_getElem g1) (List.getElem?_eq_getElem (by omega))).2
    rw [List.getElem_map]
    exact this
  rw [← this]
  exact h1

/-- The same, of elements that are told by their cells alone. -/
theorem wpList_append_flat {P : Program} {w : World} {ops : Array Oper} {rest : List Oper} {o : Oper} {a : Act} {Q : Exit → Act → World → Prop} {α : Type} {enc : α → List Value}
    (hgd : o.guard = none) (s x : Operand) (t : TypeId) (ho : o.op = .call { callee := .builtin .append, args := #[s, x], argTypes := #[t, t] })
    (base : Nat) (e : TypeId) (i : TypeInfo) (z : Value) (size bytes : Nat) (ht : P.underlying t = some (.slice e)) (hi : P.info? e = some i) (hz : i.zero = some z)
    (hsize : i.size = size) (hby : i.bytes = bytes) (hzs : z.cells.size = size) (hsz : 0 < size)
    (v : Value) (K : Nat → Prop) (l : List α) (hs : a.eval s = v) (hown : w.ownsRow base e size v l.length (l.map enc).flatten) (hen : ∀ x, (enc x).length = size)
    (vx : Value) (l2 : List α) (hx : a.eval x = vx) (hsrc : SlR size (Flat enc) w K vx l2)
    (h1 : ∀ x, ∀ u ∈ enc x, u.oneCell' = true) (h63 : l.length + l2.length ≤ maxLen) (hbytes : (l.length + l2.length) * bytes ≤ 140737488355328) (hbase : base ≤ w.heap.size)
    (h : ∀ v' w', w'.ownsRow base e size v' (l ++ l2).length ((l ++ l2).map enc).flatten → w.grownBy w' v.ownBlock → (v'.ownBlock = v.ownBlock ∨ v'.ownBlock = some w.heap.size) → wpList P ops Q rest (a.put o.dst v') w') :
    wpList P ops Q (o :: rest) a w :=
  wpList_append_list hgd s x t ho base e i z size bytes ht hi hz hsize hby hzs hsz v K l hs (OwnR.flat hown hen) vx l2 hx hsrc (fun cs x g u hu => h1 x u (by unfold Flat at g; rw [← g]; exact hu)) h63 hbytes hbase
    (fun _ _ _ _ g => g) fun v' w' g1 g2 g3 => h v' w' g1.raw g2 g3

/-- A block of one element, as a slice of one. -/
theorem SlR.one {α : Type} {size : Nat} {R : World → (Nat → Prop) → List Value → α → Prop} {w : World} {K : Nat → Prop} {g : Nat} {t : TypeId} {cs : Array Value} {x : α} (h : Blk w g t cs) (hl : cs.size = size) (hR : R w K cs.toList x) (hK : K g) :
    SlR size R w K (.slice (some ⟨g, 0, none⟩) 1 1) [x] := by
  refine ⟨some ⟨g, 0, none⟩, 1, [cs.toList], rfl, by simp, rfl, fun i ds y h1 h2 => ?_, fun _ => ⟨g, 0, rfl, hK, fun i j ds u h1 h2 => ?_⟩⟩
  · cases i with
    | zero => simp at h1 h2; subst h1 h2; exact ⟨by simpa using hl, hR⟩
    | succ i => simp at h1
  · cases i with
    | zero =>
      simp at h1; subst h1
      have := h.cell j
      simp only [Nat.zero_mul, Nat.zero_add]
      rw [this]
      simpa using h2
    | succ i => simp at h1
end Go.Inq
