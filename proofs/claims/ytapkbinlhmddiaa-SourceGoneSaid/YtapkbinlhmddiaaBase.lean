/-
  Words for memory that all texts of this family share: slices that read as lists, over a set of blocks; no program in sight.
-/
import Derived.WalkKit
import Derived.WalkSpells
import Derived.WalkLawsBesides
import Derived.Handy
import Derived.Deep.QuietTactic
import Derived.BigQuiet
import Derived.Deep.RegionHeld3
import Derived.Deep.DrawnRows
import Derived.Below
import Derived.Laws.OwnMore
import Derived.Deep.AppendLies
import Derived.Deep.Draws
import Derived.Laws.Rows
import Derived.Maps.AppendAt
import Derived.RegionTactic
import Derived.OwnWalk
import Derived.Deep.Light
import Derived.Deep.LoopGhost
import Derived.Deep.DeepCutAuto
import Derived.BigGuardPart
import Derived.StillTailTactics
import Derived.Deep.AppendSrc
set_option linter.unusedVariables false
set_option linter.unusedSimpArgs false
namespace Go.Inq
open Go Go.RowKit

theorem hide {p : Prop} (h : p) : Hid p := h
theorem ret_bool {a b : Bool} (h : a = b) : Ending.returned (.bool a) = .returned (.bool b) := by rw [h]
theorem ret_int {k : IntKind} {a b : Int} (h : a = b) : Ending.returned (.int k a) = .returned (.int k b) := by rw [h]

/-- The worlds w and w' hold the same in the blocks of K. -/
def Agree (K : Nat → Prop) (w w' : World) : Prop := ∀ b, K b → w'.heap[b]? = w.heap[b]?

section
variable {K K' : Nat → Prop} {w w' w'' : World}
theorem Agree.refl (K : Nat → Prop) (w : World) : Agree K w w := fun _ _ => rfl
theorem Agree.trans (h : Agree K w w') (h' : Agree K w' w'') : Agree K w w'' := fun b hb => (h' b hb).trans (h b hb)
theorem Agree.mono (h : Agree K w w') (hk : ∀ b, K' b → K b) : Agree K' w w' := fun b hb => h b (hk b hb)
theorem Agree.cell (h : Agree K w w') {p : Addr} (hp : K p.block) : w'.cell? p = w.cell? p := World.cell?_of_block (h _ hp)
theorem Agree.frozen (h : Agree K w w') {p : Addr} (hp : K p.block) : w'.frozen? p = w.frozen? p := World.frozen?_of_block (h _ hp)
theorem Agree.drew (K : Nat → Prop) (w : World) : Agree K w w.drew := fun _ _ => rfl
theorem Agree.drewN (K : Nat → Prop) (w : World) (n : Nat) : Agree K w (w.drewN n) := fun _ _ => rfl
theorem Agree.alloc (hk : ∀ b, K b → b < w.heap.size) (o : Obj) : Agree K w (w.alloc o) := fun b hb => Below.heap_alloc w o b (hk b hb)
theorem Agree.setCell (p : Addr) (hk : ¬ K p.block) (u : Value) : Agree K w (w.setCell p u) :=
  fun b hb => Below.heap_setCell w p u b (fun e => hk (e ▸ hb))
theorem Agree.below {B : Nat} (h : Below B w w') (hk : ∀ b, K b → b < B) : Agree K w w' := fun b hb => h.block b (hk b hb)
theorem Agree.grown {row : Option Nat} (h : w.grownBy w' row) (hk : ∀ b, K b → b < w.heap.size ∧ some b ≠ row) : Agree K w w' := fun b hb => h.block b (hk b hb).1 (hk b hb).2
end

/-- The slice v reads as the list l; each element lies in 'size' cells that R tells of; all lies in blocks of K. -/
def SlR {α : Type} (size : Nat) (R : World → (Nat → Prop) → List Value → α → Prop) (w : World) (K : Nat → Prop) (v : Value) (l : List α) : Prop :=
  ∃ (A : Option Addr) (c : Nat) (xs : List (List Value)), v = .slice A l.length c ∧ l.length ≤ c ∧ xs.length = l.length ∧
    (∀ (i : Nat) cs x, xs[i]? = some cs → l[i]? = some x → cs.length = size ∧ R w K cs x) ∧
    (0 < l.length → ∃ b off, A = some ⟨b, off, none⟩ ∧ K b ∧ ∀ (i j : Nat) cs u, xs[i]? = some cs → cs[j]? = some u → w.cell? ⟨b, off + i * size + j, none⟩ = some u)

/-- R's word stands in each later world that holds the same in K, and over each greater set. -/
def Stab {α : Type} (R : World → (Nat → Prop) → List Value → α → Prop) : Prop :=
  ∀ w w' K K' cs x, R w K cs x → Agree K w w' → (∀ b, K b → K' b) → R w' K' cs x

theorem SlR.keep {α : Type} {size : Nat} {R : World → (Nat → Prop) → List Value → α → Prop} (hR : Stab R) {w w' : World} {K K' : Nat → Prop} {v : Value} {l : List α}
    (h : SlR size R w K v l) (ha : Agree K w w') (hk : ∀ b, K b → K' b) : SlR size R w' K' v l := by
  obtain ⟨A, c, xs, hv, hc, hl, he, hm⟩ := h
  refine ⟨A, c, xs, hv, hc, hl, fun i cs x h1 h2 => ⟨(he i cs x h1 h2).1, hR _ _ _ _ _ _ (he i cs x h1 h2).2 ha hk⟩, fun h0 => ?_⟩
  obtain ⟨b, off, hA, hb, hcell⟩ := hm h0
  exact ⟨b, off, hA, hk b hb, fun i j cs u h1 h2 => (ha.cell (p := ⟨b, off + i * size + j, none⟩) hb).trans (hcell i j cs u h1 h2)⟩

/-- All blocks that are there. -/
def Old (w : World) : Nat → Prop := fun b => b < w.heap.size

theorem SlR.below {α : Type} {size : Nat} {R : World → (Nat → Prop) → List Value → α → Prop} (hR : Stab R) {w w' : World} {v : Value} {l : List α}
    (h : SlR size R w (Old w) v l) (hb : Below w.heap.size w w') : SlR size R w' (Old w') v l :=
  h.keep hR (Agree.below hb fun _ h => h) fun _ h => Nat.lt_of_lt_of_le h hb.size
theorem SlR.fit {α : Type} {size : Nat} {R : World → (Nat → Prop) → List Value → α → Prop} (hR : Stab R) {w : World} {K K' : Nat → Prop} {v : Value} {l : List α}
    (h : SlR size R w K v l) (hk : ∀ b, K b → K' b) : SlR size R w K' v l := h.keep hR (Agree.refl _ _) hk

/-- Elements that are told by their cells alone. -/
def Flat {α : Type} (enc : α → List Value) : World → (Nat → Prop) → List Value → α → Prop := fun _ _ cs x => cs = enc x
theorem Flat.stab {α : Type} (enc : α → List Value) : Stab (Flat enc) := fun _ _ _ _ _ _ h _ _ => h

theorem SlR.len {α : Type} {size : Nat} {R : World → (Nat → Prop) → List Value → α → Prop} {w : World} {K : Nat → Prop} {v : Value} {l : List α} (h : SlR size R w K v l) :
    ∃ A c, v = .slice A l.length c ∧ l.length ≤ c := by
  obtain ⟨A, c, xs, hv, hc, _⟩ := h
  exact ⟨A, c, hv, hc⟩

theorem SlR.nil {α : Type} (size : Nat) (R : World → (Nat → Prop) → List Value → α → Prop) (w : World) (K : Nat → Prop) (c : Nat) (A : Option Addr) : SlR size R w K (.slice A 0 c) ([] : List α) :=
  ⟨A, c, [], rfl, Nat.zero_le _, rfl, fun i cs x h => by simp at h, fun h => by simp at h⟩

/-- One element's cells. -/
theorem SlR.at_ {α : Type} {size : Nat} {R : World → (Nat → Prop) → List Value → α → Prop} {w : World} {K : Nat → Prop} {A : Option Addr} {n c : Nat} {l : List α} (h : SlR size R w K (.slice A n c) l) {i : Nat} (hi : i < l.length) :
    ∃ b off cs, A = some ⟨b, off, none⟩ ∧ K b ∧ cs.length = size ∧ R w K cs l[i] ∧ ∀ (j : Nat) u, cs[j]? = some u → w.cell? ⟨b, off + i * size + j, none⟩ = some u := by
  obtain ⟨A', c', xs, hv, hc, hl, he, hm⟩ := h
  obtain ⟨b, off, hA, hb, hcell⟩ := hm (by omega)
  injection hv with h1 h2 h3
  have hx : xs[i]? = some (xs[i]'(by omega)) := List.getElem?_eq_getElem (by omega)
  have := he i _ l[i] hx (List.getElem?_eq_getElem hi)
  exact ⟨b, off, xs[i]'(by omega), by rw [h1, hA], hb, this.1, this.2, fun j u hj => hcell i j _ u hx hj⟩

theorem SlR.cells {α : Type} {size : Nat} {R : World → (Nat → Prop) → List Value → α → Prop} {w : World} {K : Nat → Prop} {b off n c : Nat} {l : List α} (h : SlR size R w K (.slice (some ⟨b, off, none⟩) n c) l) {i : Nat} (hi : i < l.length) :
    ∃ cs, K b ∧ cs.length = size ∧ R w K cs l[i] ∧ ∀ (j : Nat) u, cs[j]? = some u → w.cell? ⟨b, off + i * size + j, none⟩ = some u := by
  obtain ⟨b', off', cs, hA, h1, h2, h3, h4⟩ := h.at_ hi
  injection hA with hA
  injection hA with hb ho
  subst hb ho
  exact ⟨cs, h1, h2, h3, h4⟩

/-- The first k elements. -/
theorem SlR.take {α : Type} {size : Nat} {R : World → (Nat → Prop) → List Value → α → Prop} {w : World} {K : Nat → Prop} {A : Option Addr} {n c : Nat} {l : List α} (h : SlR size R w K (.slice A n c) l) {k : Nat} (hk : k ≤ l.length) :
    SlR size R w K (.slice A k c) (l.take k) := by
  obtain ⟨A', c', xs, hv, hc, hl, he, hm⟩ := h
  injection hv with h1 h2 h3
  subst h1 h3
  have hlk : (l.take k).length = k := by rw [List.length_take]; omega
  refine ⟨A, c, xs.take k, by rw [hlk], by omega, by rw [List.length_take, List.length_take]; omega, fun i cs x h1 h2 => ?_, fun h0 => ?_⟩
  · rw [List.getElem?_take] at h1 h2
    split at h1
    · rename_i hik; rw [if_pos hik] at h2; exact he i cs x h1 h2
    · cases h1
  · obtain ⟨b, off, hA, hb, hcell⟩ := hm (by omega)
    refine ⟨b, off, hA, hb, fun i j cs u h1 h2 => ?_⟩
    rw [List.getElem?_take] at h1
    split at h1
    · exact hcell i j cs u h1 h2
    · cases h1

/-- What is left behind the first k elements: 's[k:]', with the model's own 'if'. -/
theorem SlR.drop {α : Type} {size : Nat} {R : World → (Nat → Prop) → List Value → α → Prop} {w : World} {K : Nat → Prop} {A : Option Addr} {n c : Nat} {l : List α} (h : SlR size R w K (.slice A n c) l) {k : Nat} (hk : k ≤ l.length) :
    SlR size R w K (.slice (if c = k then A else A.map (·.add (k * size))) (n - k) (c - k)) (l.drop k) := by
  obtain ⟨A', c', xs, hv, hc, hl, he, hm⟩ := h
  injection hv with h1 h2 h3
  subst h1 h3
  have hlk : (l.drop k).length = l.length - k := List.length_drop
  refine ⟨_, _, xs.drop k, by rw [hlk, h2], by rw [hlk]; omega, by rw [List.length_drop, List.length_drop, hl], fun i cs x h1 h2 => ?_, fun h0 => ?_⟩
  · rw [List.getElem?_drop] at h1 h2
    exact he _ cs x h1 h2
  · rw [hlk] at h0
    obtain ⟨b, off, hA, hb, hcell⟩ := hm (by omega)
    rw [if_neg (by omega), hA]
    refine ⟨b, off + k * size, ?_, hb, fun i j cs u h1 h2 => ?_⟩
    · simp only [Option.map_some, Addr.add]
      split
      · rename_i h0; rw [h0]; rfl
      · rfl
    · rw [List.getElem?_drop] at h1
      have := hcell (k + i) j cs u h1 h2
      rw [Nat.add_mul, ← Nat.add_assoc] at this
      exact this

/-- An owned row reads as a list, over whatever set holds its block. -/
theorem SlR.of_own {α : Type} {size : Nat} {R : World → (Nat → Prop) → List Value → α → Prop} {w : World} {K : Nat → Prop} {base : Nat} {e : TypeId} {v : Value} {n : Nat} {xs : List Value} {l : List α} {ys : List (List Value)}
    (h : w.ownsRow base e size v n xs) (hn : n = l.length) (hx : xs = ys.flatten) (hy : ys.length = l.length) (he : ∀ (i : Nat) cs x, ys[i]? = some cs → l[i]? = some x → cs.length = size ∧ R w K cs x)
    (hK : ∀ g, v.ownBlock = some g → K g) : SlR size R w K v l := by
  have hcell : ∀ g, v.ownBlock = some g → ∀ j u, xs[j]? = some u → w.cell? ⟨g, j, none⟩ = some u := by
    intro g hg j u hu
    have := h.cells hg j u hu
    rwa [show (⟨g, 0, none⟩ : Addr).add j = ⟨g, j, none⟩ by unfold Addr.add; split <;> simp_all] at this
  have hflat : ∀ (ys : List (List Value)) (i j : Nat) cs u, (∀ (i : Nat) cs, ys[i]? = some cs → cs.length = size) → ys[i]? = some cs → cs[j]? = some u → ys.flatten[i * size + j]? = some u := by
    intro ys
    induction ys with
    | nil => intro i j cs u _ h; simp at h
    | cons y ys ih =>
      intro i j cs u hs h1 h2
      have hy := hs 0 y rfl
      cases i with
      | zero =>
        simp at h1; subst h1
        have hj : j < y.length := by
          rcases Nat.lt_or_ge j y.length with h | h
          · exact h
          · rw [List.getElem?_eq_none h] at h2; cases h2
        rw [List.flatten_cons, List.getElem?_append_left (by omega)]
        simpa using h2
      | succ i =>
        simp at h1
        rw [List.flatten_cons, List.getElem?_append_right (by rw [hy, Nat.add_mul]; omega), hy, show (i + 1) * size + j - size = i * size + j by rw [Nat.add_mul]; omega]
        exact ih i j cs u (fun i cs h => hs (i + 1) cs (by simpa using h)) h1 h2
  have hsz : ∀ (i : Nat) cs, ys[i]? = some cs → cs.length = size := by
    intro i cs h1
    have hi : i < l.length := by
      rw [← hy]
      rcases Nat.lt_or_ge i ys.length with h | h
      · exact h
      · rw [List.getElem?_eq_none h] at h1; cases h1
    exact (he i cs l[i] h1 (List.getElem?_eq_getElem hi)).1
  rcases h.2 with ⟨hv, h0⟩ | ⟨g, cap, cur, hv, hg, hh, hn', hcap, hcs, htake⟩
  · subst hv
    have : l = [] := List.eq_nil_of_length_eq_zero (by omega)
    subst this
    exact SlR.nil _ _ _ _ _ _
  · refine ⟨some ⟨g, 0, none⟩, cap, ys, by rw [hv, hn], by omega, hy, he, fun _ => ⟨g, 0, rfl, hK g (by rw [hv]; rfl), fun i j cs u h1 h2 => ?_⟩⟩
    rw [Nat.zero_add]
    exact hcell g (by rw [hv]; rfl) _ u (by rw [hx]; exact hflat ys i j cs u hsz h1 h2)

theorem SlR.of_flat {α : Type} {size : Nat} {enc : α → List Value} {w : World} {K : Nat → Prop} {base : Nat} {e : TypeId} {v : Value} {n : Nat} {l : List α}
    (h : w.ownsRow base e size v n (l.map enc).flatten) (hn : n = l.length) (hs : ∀ x, (enc x).length = size) (hK : ∀ g, base ≤ g → g < w.heap.size → K g) : SlR size (Flat enc) w K v l := by
  refine SlR.of_own (ys := l.map enc) h hn rfl (by simp) (fun i cs x h1 h2 => ?_) (fun g hg => hK g (h.lt g hg).1 (h.lt g hg).2)
  rw [List.getElem?_map, h2] at h1
  injection h1 with h1
  exact ⟨by rw [← h1]; exact hs x, h1.symm⟩

/-- Block g is just the cells cs of element type t, none frozen. -/
def Blk (w : World) (g : Nat) (t : TypeId) (cs : Array Value) : Prop := w.heap[g]? = some (.cells cs t (0, 0))
section
variable {w w' : World} {g : Nat} {t : TypeId} {cs : Array Value}
theorem Blk.lt (h : Blk w g t cs) : g < w.heap.size := by
  rcases Nat.lt_or_ge g w.heap.size with hlt | hge
  · exact hlt
  · unfold Blk at h; rw [Array.getElem?_eq_none hge] at h; cases h
theorem Blk.cell (h : Blk w g t cs) (i : Nat) : w.cell? ⟨g, i, none⟩ = cs[i]? := cell_of_row w g i cs t (0, 0) h
theorem Blk.frozen (h : Blk w g t cs) (i : Nat) : w.frozen? ⟨g, i, none⟩ = false := by
  unfold Blk at h
  simp [World.frozen?, h]
theorem Blk.new (w : World) (t : TypeId) (cs : Array Value) : Blk (w.alloc (.cells cs t)) w.heap.size t cs := heap_alloc_new w _
theorem Blk.drew (h : Blk w g t cs) : Blk w.drew g t cs := h
theorem Blk.drewN (h : Blk w g t cs) (n : Nat) : Blk (w.drewN n) g t cs := h
theorem Blk.alloc (h : Blk w g t cs) (o : Obj) : Blk (w.alloc o) g t cs := (Below.heap_alloc w o g h.lt).trans h
theorem Blk.set_ (h : Blk w g t cs) (i : Nat) (u : Value) : Blk (w.setCell ⟨g, i, none⟩ u) g t (cs.setIfInBounds i u) := by
  unfold Blk at h ⊢
  simp [World.setCell, Array.getElem?_modify, h]
theorem Blk.far (h : Blk w g t cs) {p : Addr} (hp : g ≠ p.block) (u : Value) : Blk (w.setCell p u) g t cs := (Below.heap_setCell w p u g hp).trans h
theorem Blk.below {B : Nat} (h : Blk w g t cs) (hb : Below B w w') (hg : g < B) : Blk w' g t cs := (hb.block g hg).trans h
theorem Blk.grown {row : Option Nat} (h : Blk w g t cs) (hb : w.grownBy w' row) (hg : some g ≠ row) : Blk w' g t cs := (hb.block g h.lt hg).trans h
theorem Blk.agree {K : Nat → Prop} (h : Blk w g t cs) (ha : Agree K w w') (hg : K g) : Blk w' g t cs := (ha g hg).trans h
theorem own_below {base B : Nat} {e : TypeId} {size n : Nat} {v : Value} {xs : List Value} (h : w.ownsRow base e size v n xs) (hb : Below B w w') (hB : w.heap.size ≤ B) : w'.ownsRow base e size v n xs :=
  h.kept (row := none) ⟨hb.os, hb.tape, hb.output, hb.size, fun k hk _ => hb.block k (by omega)⟩ (by cases v.ownBlock <;> simp)
theorem own_setCell {base : Nat} {e : TypeId} {size n : Nat} {v : Value} {xs : List Value} (h : w.ownsRow base e size v n xs) {p : Addr} (hp : v.ownBlock ≠ some p.block) (u : Value) : (w.setCell p u).ownsRow base e size v n xs := by
  refine ⟨h.1, ?_⟩
  rcases h.2 with h2 | ⟨g, cap, cur, hv, hg, hh, r⟩
  · exact .inl h2
  · refine .inr ⟨g, cap, cur, hv, hg, ?_, r⟩
    rw [Below.heap_setCell _ _ _ _ (fun e => hp (by rw [hv]; simp [Value.ownBlock, e]))]
    exact hh
theorem own_slice {base : Nat} {e : TypeId} {size n : Nat} {v : Value} {xs : List Value} (h : w.ownsRow base e size v n xs) : ∃ A c, v = .slice A n c := by
  rcases h.2 with ⟨h1, h2⟩ | ⟨g, cap, cur, hv, _⟩
  · subst h2; exact ⟨none, 0, h1⟩
  · exact ⟨_, _, hv⟩
theorem own_drewN {base : Nat} {e : TypeId} {size n : Nat} {v : Value} {xs : List Value} (h : w.ownsRow base e size v n xs) (k : Nat) : (w.drewN k).ownsRow base e size v n xs := h
end

theorem flat_snoc {α : Type} (enc : α → List Value) (l : List α) (x : α) : ((l ++ [x]).map enc).flatten = (l.map enc).flatten ++ enc x := by simp
theorem take_snoc' {α : Type} {l : List α} {k : Nat} (h : k < l.length) : l.take (k + 1) = l.take k ++ [l[k]] := by rw [List.take_succ_eq_append_getElem h]

end Go.Inq
