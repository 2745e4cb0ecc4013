/-
  Words for memory that all texts of this family share: slices that read as lists, over a set of blocks; no program in sight.
-/
import Derived.WalkKit
import Derived.WalkSpells
import Derived.WalkLawsBesides
import Derived.Handy
import Derived.Deep.QuietTactic
import Derived.BigQuiet
import Derived.Deep.RegionHeld3
import Derived.Deep.DrawnRows
import Derived.Below
import Derived.Laws.OwnMore
import Derived.Deep.AppendLies
import Derived.Deep.Draws
import Derived.Laws.Rows
import Derived.Maps.AppendAt
import Derived.RegionTactic
import Derived.OwnWalk
import Derived.Deep.Light
import Derived.Deep.LoopGhost
import Derived.Deep.DeepCutAuto
import Derived.BigGuardPart
import Derived.StillTailTactics
import Derived.Deep.AppendSrc
import Derived.Lib.SlicesCompact
import Derived.Laws.BitsAllLaws
import Derived.Lib.TrailingZeros
import Derived.Test.YtjomijnbnbideaaGreatDoorProg
import Derived.Laws.Shifts
set_option linter.unusedVariables false
set_option linter.unusedSimpArgs false
namespace Go.Inq
open Go Go.RowKit

theorem hide {p : Prop} (h : p) : Hid p := h
theorem ret_bool {a b : Bool} (h : a = b) : Ending.returned (.bool a) = .returned (.bool b) := by rw [h]
theorem ret_int {k : IntKind} {a b : Int} (h : a = b) : Ending.returned (.int k a) = .returned (.int k b) := by rw [h]

def Agree (K : Nat → Prop) (w w' : World) : Prop := ∀ b, K b → w'.heap[b]? = w.heap[b]?

section
variable {K K' : Nat → Prop} {w w' w'' : World}
theorem Agree.refl (K : Nat → Prop) (w : World) : Agree K w w := fun _ _ => rfl
theorem Agree.trans (h : Agree K w w') (h' : Agree K w' w'') : Agree K w w'' := fun b hb => (h' b hb).trans (h b hb)
theorem Agree.mono (h : Agree K w w') (hk : ∀ b, K' b → K b) : Agree K' w w' := fun b hb => h b (hk b hb)
theorem Agree.cell (h : Agree K w w') {p : Addr} (hp : K p.block) : w'.cell? p = w.cell? p := World.cell?_of_block (h _ hp)
theorem Agree.frozen (h : Agree K w w') {p : Addr} (hp : K p.block) : w'.frozen? p = w.frozen? p := World.frozen?_of_block (h _ hp)
theorem Agree.drew (K : Nat → Prop) (w : World) : Agree K w w.drew := fun _ _ => rfl
theorem Agree.drewN (K : Nat → Prop) (w : World) (n : Nat) : Agree K w (w.drewN n) := fun _ _ => rfl
theorem Agree.alloc (hk : ∀ b, K b → b < w.heap.size) (o : Obj) : Agree K w (w.alloc o) := fun b hb => Below.heap_alloc w o b (hk b hb)
theorem Agree.setCell (p : Addr) (hk : ¬ K p.block) (u : Value) : Agree K w (w.setCell p u) :=
  fun b hb => Below.heap_setCell w p u b (fun e => hk (e ▸ hb))
theorem Agree.below {B : Nat} (h : Below B w w') (hk : ∀ b, K b → b < B) : Agree K w w' := fun b hb => h.block b (hk b hb)
theorem Agree.grown {row : Option Nat} (h : w.grownBy w' row) (hk : ∀ b, K b → b < w.heap.size ∧ some b ≠ row) : Agree K w w' := fun b hb => h.block b (hk b hb).1 (hk b hb).2
end

def SlR {α : Type} (size : Nat) (R : World → (Nat → Prop) → List Value → α → Prop) (w : World) (K : Nat → Prop) (v : Value) (l : List α) : Prop :=
  ∃ (A : Option Addr) (c : Nat) (xs : List (List Value)), v = .slice A l.length c ∧ l.length ≤ c ∧ xs.length = l.length ∧
    (∀ (i : Nat) cs x, xs[i]? = some cs → l[i]? = some x → cs.length = size ∧ R w K cs x) ∧
    (0 < l.length → ∃ b off, A = some ⟨b, off, none⟩ ∧ K b ∧ ∀ (i j : Nat) cs u, xs[i]? = some cs → cs[j]? = some u → w.cell? ⟨b, off + i * size + j, none⟩ = some u)

def Stab {α : Type} (R : World → (Nat → Prop) → List Value → α → Prop) : Prop :=
  ∀ w w' K K' cs x, R w K cs x → Agree K w w' → (∀ b, K b → K' b) → R w' K' cs x

theorem SlR.keep {α : Type} {size : Nat} {R : World → (Nat → Prop) → List Value → α → Prop} (hR : Stab R) {w w' : World} {K K' : Nat → Prop} {v : Value} {l : List α}
    (h : SlR size R w K v l) (ha : Agree K w w') (hk : ∀ b, K b → K' b) : SlR size R w' K' v l := by
  obtain ⟨A, c, xs, hv, hc, hl, he, hm⟩ := h
  refine ⟨A, c, xs, hv, hc, hl, fun i cs x h1 h2 => ⟨(he i cs x h1 h2).1, hR _ _ _ _ _ _ (he i cs x h1 h2).2 ha hk⟩, fun h0 => ?_⟩
  obtain ⟨b, off, hA, hb, hcell⟩ := hm h0
  exact ⟨b, off, hA, hk b hb, fun i j cs u h1 h2 => (ha.cell (p := ⟨b, off + i * size + j, none⟩) hb).trans (hcell i j cs u h1 h2)⟩

def Old (w : World) : Nat → Prop := fun b => b < w.heap.size

theorem SlR.below {α : Type} {size : Nat} {R : World → (Nat → Prop) → List Value → α → Prop} (hR : Stab R) {w w' : World} {v : Value} {l : List α}
    (h : SlR size R w (Old w) v l) (hb : Below w.heap.size w w') : SlR size R w' (Old w') v l :=
  h.keep hR (Agree.below hb fun _ h => h) fun _ h => Nat.lt_of_lt_of_le h hb.size
theorem SlR.fit {α : Type} {size : Nat} {R : World → (Nat → Prop) → List Value → α → Prop} (hR : Stab R) {w : World} {K K' : Nat → Prop} {v : Value} {l : List α}
    (h : SlR size R w K v l) (hk : ∀ b, K b → K' b) : SlR size R w K' v l := h.keep hR (Agree.refl _ _) hk

def Flat {α : Type} (enc : α → List Value) : World → (Nat → Prop) → List Value → α → Prop := fun _ _ cs x => cs = enc x
theorem Flat.stab {α : Type} (enc : α → List Value) : Stab (Flat enc) := fun _ _ _ _ _ _ h _ _ => h

theorem SlR.len {α : Type} {size : Nat} {R : World → (Nat → Prop) → List Value → α → Prop} {w : World} {K : Nat → Prop} {v : Value} {l : List α} (h : SlR size R w K v l) :
    ∃ A c, v = .slice A l.length c ∧ l.length ≤ c := by
  obtain ⟨A, c, xs, hv, hc, _⟩ := h
  exact ⟨A, c, hv, hc⟩

theorem SlR.nil {α : Type} (size : Nat) (R : World → (Nat → Prop) → List Value → α → Prop) (w : World) (K : Nat → Prop) (c : Nat) (A : Option Addr) : SlR size R w K (.slice A 0 c) ([] : List α) :=
  ⟨A, c, [], rfl, Nat.zero_le _, rfl, fun i cs x h => by simp at h, fun h => by simp at h⟩

theorem SlR.at_ {α : Type} {size : Nat} {R : World → (Nat → Prop) → List Value → α → Prop} {w : World} {K : Nat → Prop} {A : Option Addr} {n c : Nat} {l : List α} (h : SlR size R w K (.slice A n c) l) {i : Nat} (hi : i < l.length) :
    ∃ b off cs, A = some ⟨b, off, none⟩ ∧ K b ∧ cs.length = size ∧ R w K cs l[i] ∧ ∀ (j : Nat) u, cs[j]? = some u → w.cell? ⟨b, off + i * size + j, none⟩ = some u := by
  obtain ⟨A', c', xs, hv, hc, hl, he, hm⟩ := h
  obtain ⟨b, off, hA, hb, hcell⟩ := hm (by omega)
  injection hv with h1 h2 h3
  have hx : xs[i]? = some (xs[i]'(by omega)) := List.getElem?_eq_getElem (by omega)
  have := he i _ l[i] hx (List.getElem?_eq_getElem hi)
  exact ⟨b, off, xs[i]'(by omega), by rw [h1, hA], hb, this.1, this.2, fun j u hj => hcell i j _ u hx hj⟩

theorem SlR.cells {α : Type} {size : Nat} {R : World → (Nat → Prop) → List Value → α → Prop} {w : World} {K : Nat → Prop} {b off n c : Nat} {l : List α} (h : SlR size R w K (.slice (some ⟨b, off, none⟩) n c) l) {i : Nat} (hi : i < l.length) :
    ∃ cs, K b ∧ cs.length = size ∧ R w K cs l[i] ∧ ∀ (j : Nat) u, cs[j]? = some u → w.cell? ⟨b, off + i * size + j, none⟩ = some u := by
  obtain ⟨b', off', cs, hA, h1, h2, h3, h4⟩ := h.at_ hi
  injection hA with hA
  injection hA with hb ho
  subst hb ho
  exact ⟨cs, h1, h2, h3, h4⟩

theorem SlR.take {α : Type} {size : Nat} {R : World → (Nat → Prop) → List Value → α → Prop} {w : World} {K : Nat → Prop} {A : Option Addr} {n c : Nat} {l : List α} (h : SlR size R w K (.slice A n c) l) {k : Nat} (hk : k ≤ l.length) :
    SlR size R w K (.slice A k c) (l.take k) := by
  obtain ⟨A', c', xs, hv, hc, hl, he, hm⟩ := h
  injection hv with h1 h2 h3
  subst h1 h3
  have hlk : (l.take k).length = k := by rw [List.length_take]; omega
  refine ⟨A, c, xs.take k, by rw [hlk], by omega, by rw [List.length_take, List.length_take]; omega, fun i cs x h1 h2 => ?_, fun h0 => ?_⟩
  · rw [List.getElem?_take] at h1 h2
    split at h1
    · rename_i hik; rw [if_pos hik] at h2; exact he i cs x h1 h2
    · cases h1
  · obtain ⟨b, off, hA, hb, hcell⟩ := hm (by omega)
    refine ⟨b, off, hA, hb, fun i j cs u h1 h2 => ?_⟩
    rw [List.getElem?_take] at h1
    split at h1
    · exact hcell i j cs u h1 h2
    · cases h1

theorem SlR.drop {α : Type} {size : Nat} {R : World → (Nat → Prop) → List Value → α → Prop} {w : World} {K : Nat → Prop} {A : Option Addr} {n c : Nat} {l : List α} (h : SlR size R w K (.slice A n c) l) {k : Nat} (hk : k ≤ l.length) :
    SlR size R w K (.slice (if c = k then A else A.map (·.add (k * size))) (n - k) (c - k)) (l.drop k) := by
  obtain ⟨A', c', xs, hv, hc, hl, he, hm⟩ := h
  injection hv with h1 h2 h3
  subst h1 h3
  have hlk : (l.drop k).length = l.length - k := List.length_drop
  refine ⟨_, _, xs.drop k, by rw [hlk, h2], by rw [hlk]; omega, by rw [List.length_drop, List.length_drop, hl], fun i cs x h1 h2 => ?_, fun h0 => ?_⟩
  · rw [List.getElem?_drop] at h1 h2
    exact he _ cs x h1 h2
  · rw [hlk] at h0
    obtain ⟨b, off, hA, hb, hcell⟩ := hm (by omega)
    rw [if_neg (by omega), hA]
    refine ⟨b, off + k * size, ?_, hb, fun i j cs u h1 h2 => ?_⟩
    · simp only [Option.map_some, Addr.add]
      split
      · rename_i h0; rw [h0]; rfl
      · rfl
    · rw [List.getElem?_drop] at h1
      have := hcell (k + i) j cs u h1 h2
      rw [Nat.add_mul, ← Nat.add_assoc] at this
      exact this

theorem SlR.of_own {α : Type} {size : Nat} {R : World → (Nat → Prop) → List Value → α → Prop} {w : World} {K : Nat → Prop} {base : Nat} {e : TypeId} {v : Value} {n : Nat} {xs : List Value} {l : List α} {ys : List (List Value)}
    (h : w.ownsRow base e size v n xs) (hn : n = l.length) (hx : xs = ys.flatten) (hy : ys.length = l.length) (he : ∀ (i : Nat) cs x, ys[i]? = some cs → l[i]? = some x → cs.length = size ∧ R w K cs x)
    (hK : ∀ g, v.ownBlock = some g → K g) : SlR size R w K v l := by
  have hcell : ∀ g, v.ownBlock = some g → ∀ j u, xs[j]? = some u → w.cell? ⟨g, j, none⟩ = some u := by
    intro g hg j u hu
    have := h.cells hg j u hu
    rwa [show (⟨g, 0, none⟩ : Addr).add j = ⟨g, j, none⟩ by unfold Addr.add; split <;> simp_all] at this
  have hflat : ∀ (ys : List (List Value)) (i j : Nat) cs u, (∀ (i : Nat) cs, ys[i]? = some cs → cs.length = size) → ys[i]? = some cs → cs[j]? = some u → ys.flatten[i * size + j]? = some u := by
    intro ys
    induction ys with
    | nil => intro i j cs u _ h; simp at h
    | cons y ys ih =>
      intro i j cs u hs h1 h2
      have hy := hs 0 y rfl
      cases i with
      | zero =>
        simp at h1; subst h1
        have hj : j < y.length := by
          rcases Nat.lt_or_ge j y.length with h | h
          · exact h
          · rw [List.getElem?_eq_none h] at h2; cases h2
        rw [List.flatten_cons, List.getElem?_append_left (by omega)]
        simpa using h2
      | succ i =>
        simp at h1
        rw [List.flatten_cons, List.getElem?_append_right (by rw [hy, Nat.add_mul]; omega), hy, show (i + 1) * size + j - size = i * size + j by rw [Nat.add_mul]; omega]
        exact ih i j cs u (fun i cs h => hs (i + 1) cs (by simpa using h)) h1 h2
  have hsz : ∀ (i : Nat) cs, ys[i]? = some cs → cs.length = size := by
    intro i cs h1
    have hi : i < l.length := by
      rw [← hy]
      rcases Nat.lt_or_ge i ys.length with h | h
      · exact h
      · rw [List.getElem?_eq_none h] at h1; cases h1
    exact (he i cs l[i] h1 (List.getElem?_eq_getElem hi)).1
  rcases h.2 with ⟨hv, h0⟩ | ⟨g, cap, cur, hv, hg, hh, hn', hcap, hcs, htake⟩
  · subst hv
    have : l = [] := List.eq_nil_of_length_eq_zero (by omega)
    subst this
    exact SlR.nil _ _ _ _ _ _
  · refine ⟨some ⟨g, 0, none⟩, cap, ys, by rw [hv, hn], by omega, hy, he, fun _ => ⟨g, 0, rfl, hK g (by rw [hv]; rfl), fun i j cs u h1 h2 => ?_⟩⟩
    rw [Nat.zero_add]
    exact hcell g (by rw [hv]; rfl) _ u (by rw [hx]; exact hflat ys i j cs u hsz h1 h2)

theorem SlR.of_flat {α : Type} {size : Nat} {enc : α → List Value} {w : World} {K : Nat → Prop} {base : Nat} {e : TypeId} {v : Value} {n : Nat} {l : List α}
    (h : w.ownsRow base e size v n (l.map enc).flatten) (hn : n = l.length) (hs : ∀ x, (enc x).length = size) (hK : ∀ g, base ≤ g → g < w.heap.size → K g) : SlR size (Flat enc) w K v l := by
  refine SlR.of_own (ys := l.map enc) h hn rfl (by simp) (fun i cs x h1 h2 => ?_) (fun g hg => hK g (h.lt g hg).1 (h.lt g hg).2)
  rw [List.getElem?_map, h2] at h1
  injection h1 with h1
  exact ⟨by rw [← h1]; exact hs x, h1.symm⟩

def Blk (w : World) (g : Nat) (t : TypeId) (cs : Array Value) : Prop := w.heap[g]? = some (.cells cs t (0, 0))
section
variable {w w' : World} {g : Nat} {t : TypeId} {cs : Array Value}
theorem Blk.lt (h : Blk w g t cs) : g < w.heap.size := by
  rcases Nat.lt_or_ge g w.heap.size with hlt | hge
  · exact hlt
  · unfold Blk at h; rw [Array.getElem?_eq_none hge] at h; cases h
theorem Blk.cell (h : Blk w g t cs) (i : Nat) : w.cell? ⟨g, i, none⟩ = cs[i]? := cell_of_row w g i cs t (0, 0) h
theorem Blk.frozen (h : Blk w g t cs) (i : Nat) : w.frozen? ⟨g, i, none⟩ = false := by
  unfold Blk at h
  simp [World.frozen?, h]
theorem Blk.new (w : World) (t : TypeId) (cs : Array Value) : Blk (w.alloc (.cells cs t)) w.heap.size t cs := heap_alloc_new w _
theorem Blk.drew (h : Blk w g t cs) : Blk w.drew g t cs := h
theorem Blk.drewN (h : Blk w g t cs) (n : Nat) : Blk (w.drewN n) g t cs := h
theorem Blk.alloc (h : Blk w g t cs) (o : Obj) : Blk (w.alloc o) g t cs := (Below.heap_alloc w o g h.lt).trans h
theorem Blk.set_ (h : Blk w g t cs) (i : Nat) (u : Value) : Blk (w.setCell ⟨g, i, none⟩ u) g t (cs.setIfInBounds i u) := by
  unfold Blk at h ⊢
  simp [World.setCell, Array.getElem?_modify, h]
theorem Blk.far (h : Blk w g t cs) {p : Addr} (hp : g ≠ p.block) (u : Value) : Blk (w.setCell p u) g t cs := (Below.heap_setCell w p u g hp).trans h
theorem Blk.below {B : Nat} (h : Blk w g t cs) (hb : Below B w w') (hg : g < B) : Blk w' g t cs := (hb.block g hg).trans h
theorem Blk.grown {row : Option Nat} (h : Blk w g t cs) (hb : w.grownBy w' row) (hg : some g ≠ row) : Blk w' g t cs := (hb.block g h.lt hg).trans h
theorem Blk.agree {K : Nat → Prop} (h : Blk w g t cs) (ha : Agree K w w') (hg : K g) : Blk w' g t cs := (ha g hg).trans h
theorem own_below {base B : Nat} {e : TypeId} {size n : Nat} {v : Value} {xs : List Value} (h : w.ownsRow base e size v n xs) (hb : Below B w w') (hB : w.heap.size ≤ B) : w'.ownsRow base e size v n xs :=
  h.kept (row := none) ⟨hb.os, hb.tape, hb.output, hb.size, fun k hk _ => hb.block k (by omega)⟩ (by cases v.ownBlock <;> simp)
theorem own_slice {base : Nat} {e : TypeId} {size n : Nat} {v : Value} {xs : List Value} (h : w.ownsRow base e size v n xs) : ∃ A c, v = .slice A n c := by
  rcases h.2 with ⟨h1, h2⟩ | ⟨g, cap, cur, hv, _⟩
  · subst h2; exact ⟨none, 0, h1⟩
  · exact ⟨_, _, hv⟩
theorem own_drewN {base : Nat} {e : TypeId} {size n : Nat} {v : Value} {xs : List Value} (h : w.ownsRow base e size v n xs) (k : Nat) : (w.drewN k).ownsRow base e size v n xs := h
end

theorem take_snoc' {α : Type} {l : List α} {k : Nat} (h : k < l.length) : l.take (k + 1) = l.take k ++ [l[k]] := by rw [List.take_succ_eq_append_getElem h]

theorem gA {α : Type} {l : List α} {i : Nat} : l.toArray[i]? = l[i]? := List.getElem?_toArray ..
theorem gZ {α : Type} {a : α} {l : List α} : (a :: l)[0]? = some a := List.getElem?_cons_zero ..
theorem gS {α : Type} {a : α} {l : List α} {i : Nat} : (a :: l)[i + 1]? = l[i]? := List.getElem?_cons_succ ..
theorem sA {α : Type} {l : List α} {i : Nat} {a : α} : l.toArray.setIfInBounds i a = (l.set i a).toArray := List.setIfInBounds_toArray ..
theorem sZ {α : Type} {a b : α} {l : List α} : (a :: l).set 0 b = b :: l := List.set_cons_zero ..
theorem sS {α : Type} {a b : α} {l : List α} {n : Nat} : (a :: l).set (n + 1) b = a :: l.set n b := List.set_cons_succ ..
theorem Blk.n0 {w : World} {g : Nat} {t : TypeId} {x0 : Value} {l : List Value} (h : Blk w g t (x0 :: l).toArray) : w.cell? ⟨g, 0, none⟩ = some x0 := h.cell 0
theorem Blk.n1 {w : World} {g : Nat} {t : TypeId} {x0 x1 : Value} {l : List Value} (h : Blk w g t (x0 :: x1 :: l).toArray) : w.cell? ⟨g, 1, none⟩ = some x1 := h.cell 1
theorem Blk.n2 {w : World} {g : Nat} {t : TypeId} {x0 x1 x2 : Value} {l : List Value} (h : Blk w g t (x0 :: x1 :: x2 :: l).toArray) : w.cell? ⟨g, 2, none⟩ = some x2 := h.cell 2
theorem Blk.n3 {w : World} {g : Nat} {t : TypeId} {x0 x1 x2 x3 : Value} {l : List Value} (h : Blk w g t (x0 :: x1 :: x2 :: x3 :: l).toArray) : w.cell? ⟨g, 3, none⟩ = some x3 := h.cell 3
theorem Blk.n4 {w : World} {g : Nat} {t : TypeId} {x0 x1 x2 x3 x4 : Value} {l : List Value} (h : Blk w g t (x0 :: x1 :: x2 :: x3 :: x4 :: l).toArray) : w.cell? ⟨g, 4, none⟩ = some x4 := h.cell 4
theorem Blk.n5 {w : World} {g : Nat} {t : TypeId} {x0 x1 x2 x3 x4 x5 : Value} {l : List Value} (h : Blk w g t (x0 :: x1 :: x2 :: x3 :: x4 :: x5 :: l).toArray) : w.cell? ⟨g, 5, none⟩ = some x5 := h.cell 5
theorem Blk.n6 {w : World} {g : Nat} {t : TypeId} {x0 x1 x2 x3 x4 x5 x6 : Value} {l : List Value} (h : Blk w g t (x0 :: x1 :: x2 :: x3 :: x4 :: x5 :: x6 :: l).toArray) : w.cell? ⟨g, 6, none⟩ = some x6 := h.cell 6
theorem Blk.n7 {w : World} {g : Nat} {t : TypeId} {x0 x1 x2 x3 x4 x5 x6 x7 : Value} {l : List Value} (h : Blk w g t (x0 :: x1 :: x2 :: x3 :: x4 :: x5 :: x6 :: x7 :: l).toArray) : w.cell? ⟨g, 7, none⟩ = some x7 := h.cell 7
theorem Blk.n8 {w : World} {g : Nat} {t : TypeId} {x0 x1 x2 x3 x4 x5 x6 x7 x8 : Value} {l : List Value} (h : Blk w g t (x0 :: x1 :: x2 :: x3 :: x4 :: x5 :: x6 :: x7 :: x8 :: l).toArray) : w.cell? ⟨g, 8, none⟩ = some x8 := h.cell 8
theorem Blk.n9 {w : World} {g : Nat} {t : TypeId} {x0 x1 x2 x3 x4 x5 x6 x7 x8 x9 : Value} {l : List Value} (h : Blk w g t (x0 :: x1 :: x2 :: x3 :: x4 :: x5 :: x6 :: x7 :: x8 :: x9 :: l).toArray) : w.cell? ⟨g, 9, none⟩ = some x9 := h.cell 9
end Go.Inq

namespace Go.Inq
open Go Go.RowKit

def OwnR {α : Type} (size : Nat) (R : World → (Nat → Prop) → List Value → α → Prop) (w : World) (K : Nat → Prop) (base : Nat) (e : TypeId) (v : Value) (l : List α) : Prop :=
  ∃ ys : List (List Value), w.ownsRow base e size v l.length ys.flatten ∧ ys.length = l.length ∧ ∀ (i : Nat) cs x, ys[i]? = some cs → l[i]? = some x → cs.length = size ∧ R w K cs x

section
variable {α : Type} {size : Nat} {R : World → (Nat → Prop) → List Value → α → Prop} {w w' : World} {K K' : Nat → Prop} {base : Nat} {e : TypeId} {v : Value} {l : List α}

theorem OwnR.nil (size : Nat) (R : World → (Nat → Prop) → List Value → α → Prop) (w : World) (K : Nat → Prop) (base : Nat) (e : TypeId) : OwnR size R w K base e (.slice none 0 0) ([] : List α) :=
  ⟨[], World.ownsRow_nil _ _ _ _, rfl, fun i cs x h => by simp at h⟩

theorem OwnR.lt (h : OwnR size R w K base e v l) : ∀ k, v.ownBlock = some k → base ≤ k ∧ k < w.heap.size := by
  obtain ⟨ys, h1, _⟩ := h
  exact h1.lt

theorem OwnR.form (h : OwnR size R w K base e v l) : ∃ A c, v = .slice A l.length c := by
  obtain ⟨ys, h1, _⟩ := h
  exact own_slice h1

theorem OwnR.sl (h : OwnR size R w K base e v l) (hK : ∀ g, v.ownBlock = some g → K g) : SlR size R w K v l := by
  obtain ⟨ys, h1, h2, h3⟩ := h
  exact SlR.of_own h1 rfl rfl h2 h3 hK

theorem OwnR.keep (hR : Stab R) (h : OwnR size R w K base e v l) (ha : Agree K w w') (hk : ∀ b, K b → K' b) (hr : ∀ g, v.ownBlock = some g → w'.heap[g]? = w.heap[g]?) : OwnR size R w' K' base e v l := by
  obtain ⟨ys, h1, h2, h3⟩ := h
  refine ⟨ys, ⟨h1.1, ?_⟩, h2, fun i cs x a b => ⟨(h3 i cs x a b).1, hR _ _ _ _ _ _ (h3 i cs x a b).2 ha hk⟩⟩
  rcases h1.2 with h4 | ⟨g, cap, cur, hv, hg, hh, r⟩
  · exact .inl h4
  · exact .inr ⟨g, cap, cur, hv, hg, by rw [hr g (by rw [hv]; rfl)]; exact hh, r⟩

theorem OwnR.flat {enc : α → List Value} (h : w.ownsRow base e size v l.length (l.map enc).flatten) (hs : ∀ x, (enc x).length = size) : OwnR size (Flat enc) w K base e v l :=
  ⟨l.map enc, h, by simp, fun i cs x h1 h2 => by
    rw [List.getElem?_map, h2] at h1
    injection h1 with h1
    exact ⟨by rw [← h1]; exact hs x, h1.symm⟩⟩
end

theorem run_append_own_nil {P : Program} (w : World) (base : Nat) (t ty e : TypeId) (i : TypeInfo) (size : Nat) (ht : P.underlying t = some (.slice e)) (hi : P.info? e = some i)
    (v : Value) (n : Nat) (xs : List Value) (hown : w.ownsRow base e size v n xs) (c : Nat) :
    (Builtin.append_ #[t, t] ty #[v, .slice none 0 c]).run P w = .ok v w := by
  rcases hown.2 with ⟨rfl, rfl⟩ | ⟨g, cap, cur, rfl, _, _, hnc, _⟩
  · simp [Builtin.append_, run_underlying ht, sizeOf, typeInfo, hi, Builtin.lenOf, Builtin.firstCells]
  · simp [Builtin.append_, run_underlying ht, sizeOf, typeInfo, hi, Builtin.lenOf, Builtin.firstCells, hnc, storeCells]

theorem flatten_at {size : Nat} : ∀ (ys : List (List Value)) (j : Nat) (u : Value), (∀ (i : Nat) cs, ys[i]? = some cs → cs.length = size) → ys.flatten[j]? = some u → ∃ i k cs, j = i * size + k ∧ ys[i]? = some cs ∧ cs[k]? = some u
  | [], j, u, _, h => by simp at h
  | y :: ys, j, u, hs, h => by
    have hy := hs 0 y rfl
    rw [List.flatten_cons] at h
    rcases Nat.lt_or_ge j y.length with hj | hj
    · rw [List.getElem?_append_left hj] at h
      exact ⟨0, j, y, by simp, rfl, h⟩
    · rw [List.getElem?_append_right hj] at h
      obtain ⟨i, k, cs, h1, h2, h3⟩ := flatten_at ys (j - y.length) u (fun i cs h => hs (i + 1) cs (by simpa using h)) h
      exact ⟨i + 1, k, cs, by rw [Nat.add_mul]; omega, by simpa using h2, h3⟩

theorem wpList_append_list {P : Program} {w : World} {ops : Array Oper} {rest : List Oper} {o : Oper} {a : Act} {Q : Exit → Act → World → Prop} {α : Type} {R : World → (Nat → Prop) → List Value → α → Prop}
    (hgd : o.guard = none) (s x : Operand) (t : TypeId) (ho : o.op = .call { callee := .builtin .append, args := #[s, x], argTypes := #[t, t] })
    (base : Nat) (e : TypeId) (i : TypeInfo) (z : Value) (size bytes : Nat) (ht : P.underlying t = some (.slice e)) (hi : P.info? e = some i) (hz : i.zero = some z)
    (hsize : i.size = size) (hby : i.bytes = bytes) (hzs : z.cells.size = size) (hsz : 0 < size)
    (v : Value) (K : Nat → Prop) (l : List α) (hs : a.eval s = v) (hown : OwnR size R w K base e v l)
    (vx : Value) (l2 : List α) (hx : a.eval x = vx) (hsrc : SlR size R w K vx l2)
    (h1 : ∀ cs x, R w K cs x → ∀ u ∈ cs, u.oneCell' = true) (h63 : l.length + l2.length ≤ maxLen) (hbytes : (l.length + l2.length) * bytes ≤ 140737488355328) (hbase : base ≤ w.heap.size)
    (hA : ∀ w', w.grownBy w' v.ownBlock → ∀ cs x, R w K cs x → R w' K cs x)
    (h : ∀ v' w', OwnR size R w' K base e v' (l ++ l2) → w.grownBy w' v.ownBlock → (v'.ownBlock = v.ownBlock ∨ v'.ownBlock = some w.heap.size) → wpList P ops Q rest (a.put o.dst v') w') :
    wpList P ops Q (o :: rest) a w := by
  obtain ⟨ys, hy, hyl, hyR⟩ := hown
  obtain ⟨A, c, xs, rfl, hc, hxl, hxR, hxc⟩ := hsrc
  have join : ∀ w', w.grownBy w' v.ownBlock → ∀ (i : Nat) cs x, (ys ++ xs)[i]? = some cs → (l ++ l2)[i]? = some x → cs.length = size ∧ R w' K cs x := fun w' ha i cs x g1 g2 => by
    by_cases hil : i < l.length
    · rw [List.getElem?_append_left (by omega)] at g1 g2
      exact ⟨(hyR i cs x g1 g2).1, hA w' ha _ _ (hyR i cs x g1 g2).2⟩
    · rw [List.getElem?_append_right (by omega)] at g1 g2
      rw [hyl] at g1
      exact ⟨(hxR _ cs x g1 g2).1, hA w' ha _ _ (hxR _ cs x g1 g2).2⟩
  have fin : ∀ v' w', w'.ownsRow base e size v' (l.length + l2.length) (ys.flatten ++ xs.flatten) → w.grownBy w' v.ownBlock → OwnR size R w' K base e v' (l ++ l2) := fun v' w' g1 g2 =>
    ⟨ys ++ xs, by rw [List.length_append, List.flatten_append]; exact g1, by simp [hyl, hxl], join w' g2⟩
  have hlen : ∀ (i : Nat) cs, xs[i]? = some cs → cs.length = size := fun i cs g => by
    have hil : i < l2.length := by
      rw [← hxl]
      rcases Nat.lt_or_ge i xs.length with h | h
      · exact h
      · rw [List.getElem?_eq_none h] at g; cases g
    exact (hxR i cs l2[i] g (List.getElem?_eq_getElem hil)).1
  have hnl : xs.flatten.length = l2.length * size := by
    rw [← hxl]
    clear join fin hxR hxc hxl hx
    induction xs with
    | nil => simp
    | cons y ys ih =>
      rw [List.flatten_cons, List.length_append, hlen 0 y rfl, ih (fun i cs h => hlen (i + 1) cs (by simpa using h)), List.length_cons, Nat.add_mul]
      omega
  have hone : ∀ u ∈ xs.flatten, u.oneCell' = true := fun u hu => by
    obtain ⟨cs, hcs, hu⟩ := List.mem_flatten.1 hu
    obtain ⟨i, hi⟩ := List.getElem?_of_mem hcs
    have hil : i < l2.length := by
      rw [← hxl]
      rcases Nat.lt_or_ge i xs.length with h | h
      · exact h
      · rw [List.getElem?_eq_none h] at hi; cases hi
    exact h1 cs l2[i] (hxR i cs l2[i] hi (List.getElem?_eq_getElem hil)).2 u hu
  cases A with
  | some ad =>
    refine wpList_append_own_at w hgd s x t ho base e i z size bytes ht hi hz hsize hby hzs hsz v l.length ys.flatten hs hy ad l2.length c xs.flatten hx hnl (fun j u hj => ?_) hone h63 hbytes hbase (fun v' w' g1 g2 _ g3 => h v' w' (fin v' w' g1 g2) g2 g3)
    have hpos : 0 < l2.length := by
      rcases Nat.lt_or_ge 0 l2.length with h | h
      · exact h
      · have : xs = [] := List.eq_nil_of_length_eq_zero (by omega)
        subst this; simp at hj
    obtain ⟨b, off, hA, hb, hcell⟩ := hxc hpos
    injection hA with hA
    subst hA
    obtain ⟨i, k, cs, hj2, hi2, hk2⟩ := flatten_at xs j u hlen hj
    rw [Addr.add_lit, hj2, ← Nat.add_assoc]
    exact hcell i k cs u hi2 hk2
  | none =>
    have hz2 : l2 = [] := by
      rcases Nat.lt_or_ge 0 l2.length with h | h
      · obtain ⟨b, off, hA, _⟩ := hxc h; cases hA
      · exact List.eq_nil_of_length_eq_zero (by omega)
    subst hz2
    have hr := run_append_own_nil (P := P) w base t o.type e i size ht hi v l.length ys.flatten hy c
    refine wpList_plain hgd fun K' hK' => ?_
    unfold Oper.wp execOp
    simp only [ho, resolve, invoke, builtin, Sem.run_bind, Sem.run_pure, Result.andThen_ok, List.map_toArray, List.map_cons, List.map_nil, hs, hx, List.length_nil, hr]
    refine hK' _ _ (h v w (by rw [List.append_nil]; exact ⟨ys, hy, hyl, hyR⟩) ⟨rfl, rfl, rfl, Nat.le_refl _, fun _ _ _ => rfl⟩ (.inl rfl))

theorem OwnR.raw {α : Type} {size : Nat} {enc : α → List Value} {w : World} {K : Nat → Prop} {base : Nat} {e : TypeId} {v : Value} {l : List α} (h : OwnR size (Flat enc) w K base e v l) : w.ownsRow base e size v l.length (l.map enc).flatten := by
  obtain ⟨ys, h1, h2, h3⟩ := h
  have : ys = l.map enc := by
    refine List.ext_getElem (by simp [h2]) fun i g1 g2 => ?_
    have := (h3 i _ _ (List.getElem?_eq_getElem g1) (List.getElem?_eq_getElem (by omega))).2
    rw [List.getElem_map]
    exact this
  rw [← this]
  exact h1

theorem wpList_append_flat {P : Program} {w : World} {ops : Array Oper} {rest : List Oper} {o : Oper} {a : Act} {Q : Exit → Act → World → Prop} {α : Type} {enc : α → List Value}
    (hgd : o.guard = none) (s x : Operand) (t : TypeId) (ho : o.op = .call { callee := .builtin .append, args := #[s, x], argTypes := #[t, t] })
    (base : Nat) (e : TypeId) (i : TypeInfo) (z : Value) (size bytes : Nat) (ht : P.underlying t = some (.slice e)) (hi : P.info? e = some i) (hz : i.zero = some z)
    (hsize : i.size = size) (hby : i.bytes = bytes) (hzs : z.cells.size = size) (hsz : 0 < size)
    (v : Value) (K : Nat → Prop) (l : List α) (hs : a.eval s = v) (hown : w.ownsRow base e size v l.length (l.map enc).flatten) (hen : ∀ x, (enc x).length = size)
    (vx : Value) (l2 : List α) (hx : a.eval x = vx) (hsrc : SlR size (Flat enc) w K vx l2)
    (h1 : ∀ x, ∀ u ∈ enc x, u.oneCell' = true) (h63 : l.length + l2.length ≤ maxLen) (hbytes : (l.length + l2.length) * bytes ≤ 140737488355328) (hbase : base ≤ w.heap.size)
    (h : ∀ v' w', w'.ownsRow base e size v' (l ++ l2).length ((l ++ l2).map enc).flatten → w.grownBy w' v.ownBlock → (v'.ownBlock = v.ownBlock ∨ v'.ownBlock = some w.heap.size) → wpList P ops Q rest (a.put o.dst v') w') :
    wpList P ops Q (o :: rest) a w :=
  wpList_append_list hgd s x t ho base e i z size bytes ht hi hz hsize hby hzs hsz v K l hs (OwnR.flat hown hen) vx l2 hx hsrc (fun cs x g u hu => h1 x u (by unfold Flat at g; rw [← g]; exact hu)) h63 hbytes hbase
    (fun _ _ _ _ g => g) fun v' w' g1 g2 g3 => h v' w' g1.raw g2 g3

theorem SlR.one {α : Type} {size : Nat} {R : World → (Nat → Prop) → List Value → α → Prop} {w : World} {K : Nat → Prop} {g : Nat} {t : TypeId} {cs : Array Value} {x : α} (h : Blk w g t cs) (hl : cs.size = size) (hR : R w K cs.toList x) (hK : K g) :
    SlR size R w K (.slice (some ⟨g, 0, none⟩) 1 1) [x] := by
  refine ⟨some ⟨g, 0, none⟩, 1, [cs.toList], rfl, by simp, rfl, fun i ds y h1 h2 => ?_, fun _ => ⟨g, 0, rfl, hK, fun i j ds u h1 h2 => ?_⟩⟩
  · cases i with
    | zero => simp at h1 h2; subst h1 h2; exact ⟨by simpa using hl, hR⟩
    | succ i => simp at h1
  · cases i with
    | zero =>
      simp at h1; subst h1
      have := h.cell j
      simp only [Nat.zero_mul, Nat.zero_add]
      rw [this]
      simpa using h2
    | succ i => simp at h1
end Go.Inq

namespace Go.Inq
open Go Go.RowKit

def encI (n : Int) : List Value := [.int .i64 n]
def IntS (w : World) (K : Nat → Prop) (v : Value) (l : List Int) : Prop := SlR 1 (Flat Go.Inq.encI) w K v l

section
variable {w w' : World} {K K' : Nat → Prop} {v : Value} {l : List Int}
theorem IntS.keep (h : IntS w K v l) (ha : Agree K w w') (hk : ∀ b, K b → K' b) : IntS w' K' v l := SlR.keep (Flat.stab _) h ha hk
theorem IntS.below (h : IntS w (Old w) v l) (hb : Below w.heap.size w w') : IntS w' (Old w') v l := SlR.below (Flat.stab _) h hb
theorem IntS.fit (h : IntS w K v l) (hk : ∀ b, K b → K' b) : IntS w K' v l := SlR.fit (Flat.stab _) h hk
theorem IntS.form (h : IntS w K v l) : ∃ A c, v = .slice A l.length c := by
  obtain ⟨A, c, hv, _⟩ := SlR.len h
  exact ⟨A, c, hv⟩
theorem IntS.at_ {A : Option Addr} {n c : Nat} (h : IntS w K (.slice A n c) l) {i : Nat} (hi : i < l.length) : ∃ b off, A = some ⟨b, off, none⟩ ∧ K b ∧ w.cell? ⟨b, off + i, none⟩ = some (.int .i64 l[i]) := by
  obtain ⟨b, off, cs, hA, hK, _, hR, hc⟩ := SlR.at_ h hi
  unfold Flat at hR
  subst hR
  have := hc 0 _ rfl
  rw [Nat.mul_one, Nat.add_zero] at this
  exact ⟨b, off, hA, hK, this⟩
theorem IntS.cells {b off n c : Nat} (h : IntS w K (.slice (some ⟨b, off, none⟩) n c) l) {i : Nat} (hi : i < l.length) : K b ∧ w.cell? ⟨b, off + i, none⟩ = some (.int .i64 l[i]) := by
  obtain ⟨cs, hK, _, hR, hc⟩ := SlR.cells h hi
  unfold Flat at hR
  subst hR
  have := hc 0 _ rfl
  rw [Nat.mul_one, Nat.add_zero] at this
  exact ⟨hK, this⟩
theorem IntS.nil (w : World) (K : Nat → Prop) (A : Option Addr) (c : Nat) : IntS w K (.slice A 0 c) [] := SlR.nil _ _ _ _ _ _
theorem IntS.of_blk {g : Nat} {t : TypeId} (h : Blk w g t (l.map (Value.int .i64)).toArray) (hK : K g) : IntS w K (.slice (some ⟨g, 0, none⟩) l.length l.length) l := by
  refine ⟨some ⟨g, 0, none⟩, l.length, l.map Go.Inq.encI, rfl, Nat.le_refl _, by simp, fun i cs x h1 h2 => ?_, fun _ => ⟨g, 0, rfl, hK, fun i j cs u h1 h2 => ?_⟩⟩
  · rw [List.getElem?_map, h2] at h1
    injection h1 with h1
    exact ⟨by rw [← h1]; rfl, h1.symm⟩
  · rw [List.getElem?_map] at h1
    cases hl : l[i]? with
    | none => rw [hl] at h1; cases h1
    | some x =>
      rw [hl] at h1
      injection h1 with h1
      subst h1
      cases j with
      | zero =>
        injection h2 with h2
        rw [Nat.zero_add, Nat.mul_one, Nat.add_zero, h.cell, gA, List.getElem?_map, hl, ← h2]
        rfl
      | succ j => simp [Go.Inq.encI] at h2
end
theorem encI_one : ∀ (x : Int), ∀ u ∈ Go.Inq.encI x, u.oneCell' = true := by
  intro x u hu
  simp [Go.Inq.encI] at hu
  subst hu
  rfl
end Go.Inq

namespace Go.Inq
open Go Go.RowKit

structure Ev where
  kind : Int
  sess : Int
  key : Int
  val : Int
deriving DecidableEq

def Ev.enc (e : Ev) : List Value := [.int .i64 e.kind, .int .i64 e.sess, .int .i64 e.key, .int .i64 e.val]

def belowB (n m : Int) : Bool := decide (0 ≤ n) && decide (n < m)
def itemB (k : Int) : Bool := k == 1 || k == 2

def Ev.right (e : Ev) : Bool := belowB e.kind 5 && belowB e.sess 8 && (if itemB e.kind then belowB e.key 16 && belowB e.val 2147483648 else e.key == 0 && e.val == 0)

def EvS (w : World) (K : Nat → Prop) (v : Value) (l : List Ev) : Prop := SlR 4 (Flat Ev.enc) w K v l

theorem EvS.keep {w w' : World} {K K' : Nat → Prop} {v : Value} {l : List Ev} (h : EvS w K v l) (ha : Agree K w w') (hk : ∀ b, K b → K' b) : EvS w' K' v l :=
  SlR.keep (Flat.stab _) h ha hk

theorem EvS.at_ {w : World} {K : Nat → Prop} {A : Option Addr} {n c : Nat} {l : List Ev} (h : EvS w K (.slice A n c) l) {i : Nat} (hi : i < l.length) :
    ∃ b off, A = some ⟨b, off, none⟩ ∧ K b ∧ w.cell? ⟨b, off + i * 4, none⟩ = some (.int .i64 l[i].kind) ∧ w.cell? ⟨b, off + i * 4 + 1, none⟩ = some (.int .i64 l[i].sess) ∧
      w.cell? ⟨b, off + i * 4 + 2, none⟩ = some (.int .i64 l[i].key) ∧ w.cell? ⟨b, off + i * 4 + 3, none⟩ = some (.int .i64 l[i].val) := by
  obtain ⟨b, off, cs, hA, hK, _, hR, hc⟩ := SlR.at_ h hi
  unfold Flat at hR
  subst hR
  exact ⟨b, off, hA, hK, hc 0 _ rfl, hc 1 _ rfl, hc 2 _ rfl, hc 3 _ rfl⟩

theorem EvS.below {w w' : World} {v : Value} {l : List Ev} (h : EvS w (Old w) v l) (hb : Below w.heap.size w w') : EvS w' (Old w') v l := SlR.below (Flat.stab _) h hb
theorem EvS.fit {w : World} {K K' : Nat → Prop} {v : Value} {l : List Ev} (h : EvS w K v l) (hk : ∀ b, K b → K' b) : EvS w K' v l := SlR.fit (Flat.stab _) h hk
theorem EvS.cells {w : World} {K : Nat → Prop} {b off n c : Nat} {l : List Ev} (h : EvS w K (.slice (some ⟨b, off, none⟩) n c) l) {i : Nat} (hi : i < l.length) :
    K b ∧ w.cell? ⟨b, off + i * 4, none⟩ = some (.int .i64 l[i].kind) ∧ w.cell? ⟨b, off + i * 4 + 1, none⟩ = some (.int .i64 l[i].sess) ∧
      w.cell? ⟨b, off + i * 4 + 2, none⟩ = some (.int .i64 l[i].key) ∧ w.cell? ⟨b, off + i * 4 + 3, none⟩ = some (.int .i64 l[i].val) := by
  obtain ⟨cs, hK, _, hR, hc⟩ := SlR.cells h hi
  unfold Flat at hR
  subst hR
  exact ⟨hK, hc 0 _ rfl, hc 1 _ rfl, hc 2 _ rfl, hc 3 _ rfl⟩

structure It where
  a : Int
  b : Int
deriving DecidableEq
def It.enc (e : It) : List Value := [.int .i64 e.a, .int .i64 e.b]

def ItS (w : World) (K : Nat → Prop) (v : Value) (l : List It) : Prop := SlR 2 (Flat It.enc) w K v l

theorem ItS.keep {w w' : World} {K K' : Nat → Prop} {v : Value} {l : List It} (h : ItS w K v l) (ha : Agree K w w') (hk : ∀ b, K b → K' b) : ItS w' K' v l :=
  SlR.keep (Flat.stab _) h ha hk

theorem ItS.below {w w' : World} {v : Value} {l : List It} (h : ItS w (Old w) v l) (hb : Below w.heap.size w w') : ItS w' (Old w') v l := SlR.below (Flat.stab _) h hb
theorem ItS.fit {w : World} {K K' : Nat → Prop} {v : Value} {l : List It} (h : ItS w K v l) (hk : ∀ b, K b → K' b) : ItS w K' v l := SlR.fit (Flat.stab _) h hk
theorem ItS.cells {w : World} {K : Nat → Prop} {b off n c : Nat} {l : List It} (h : ItS w K (.slice (some ⟨b, off, none⟩) n c) l) {i : Nat} (hi : i < l.length) :
    K b ∧ w.cell? ⟨b, off + i * 2, none⟩ = some (.int .i64 l[i].a) ∧ w.cell? ⟨b, off + i * 2 + 1, none⟩ = some (.int .i64 l[i].b) := by
  obtain ⟨cs, hK, _, hR, hc⟩ := SlR.cells h hi
  unfold Flat at hR
  subst hR
  exact ⟨hK, hc 0 _ rfl, hc 1 _ rfl⟩

theorem ItS.at_ {w : World} {K : Nat → Prop} {A : Option Addr} {n c : Nat} {l : List It} (h : ItS w K (.slice A n c) l) {i : Nat} (hi : i < l.length) :
    ∃ b off, A = some ⟨b, off, none⟩ ∧ K b ∧ w.cell? ⟨b, off + i * 2, none⟩ = some (.int .i64 l[i].a) ∧ w.cell? ⟨b, off + i * 2 + 1, none⟩ = some (.int .i64 l[i].b) := by
  obtain ⟨b, off, cs, hA, hK, _, hR, hc⟩ := SlR.at_ h hi
  unfold Flat at hR
  subst hR
  exact ⟨b, off, hA, hK, hc 0 _ rfl, hc 1 _ rfl⟩

def valAt (l : List Ev) (k : Int) : Int := ((l[k.toNat]?).map (·.val)).getD 0

def firstI (key : Int) : List Ev → Nat → Int
  | [], _ => -1
  | x :: r, k => if x.key = key then k else firstI key r (k + 1)
def firstD (l : List Ev) (key : Int) (k : Nat) : Int := firstI key (l.drop k) k
def kindAt (l : List Ev) (k : Int) : Int := ((l[k.toNat]?).map (·.kind)).getD 0
def readOf (l : List Ev) (key : Int) : Option It := if 0 ≤ firstD l key 0 ∧ kindAt l (firstD l key 0) = 1 then some ⟨key, valAt l (firstD l key 0)⟩ else none
def readsTo (l : List Ev) (n : Nat) : List It := (List.range n).filterMap fun (k : Nat) => readOf l (k : Int)
theorem readsTo_len (l : List Ev) (n : Nat) : (readsTo l n).length ≤ n := by
  unfold readsTo
  exact Nat.le_trans (List.length_filterMap_le _ _) (by simp)
end Go.Inq

namespace Go.Inq
open Go Go.RowKit

structure Tx where
  sess : Int
  done : Bool
  first : Int
  ops : List Ev
structure Txn where
  sess : Int
  writes : List Int
  reads : List It
deriving DecidableEq

def isW (x : It) (e : Ev) : Bool := e.kind == 2 && e.key == x.a && e.val == x.b
def wr (ops : List Ev) (many : Nat) (x : It) : Nat := ((ops.take many).filter (isW x)).length
end Go.Inq

namespace Go.Inq
open Go Go.RowKit

def lastIx : List Tx → Int → Option Nat
  | [], _ => none
  | t :: r, s => match lastIx r s with
    | some k => some (k + 1)
    | none => if t.sess = s then some 0 else none
structure Grp where
  out : List Tx
  opn : List Bool
def Grp.at_ (g : Grp) (s : Int) : Option Nat := match lastIx g.out s with
  | some k => if g.opn[k]? = some true then some k else none
  | none => none
end Go.Inq

namespace Go.Inq
open Go Go.RowKit

def lastK (l : List Int) : Int := (l.getLast?).getD (-1)
theorem lastK_snoc (l : List Int) (k : Int) : lastK (l ++ [k]) = k := by simp [lastK]
def wF (l : List Int) (j : Nat) : Bool := match l[j]? with | some k => decide (lastK (l.take j) < k) && decide (k < 16) | none => true
theorem wF_at {l : List Int} {j : Nat} (h : j < l.length) : wF l j = (decide (lastK (l.take j) < l[j]) && decide (l[j] < 16)) := by
  unfold wF; rw [List.getElem?_eq_getElem h]
def wFs (l : List Int) (n : Nat) : List Bool := (List.range n).map (wF l)
theorem wFs_step (l : List Int) (n : Nat) : wFs l (n + 1) = wFs l n ++ [wF l n] := by unfold wFs; rw [List.range_succ, List.map_append]; rfl
def wrOf (H : List Txn) (i : Int) : List Int := ((H[i.toNat]?).map (·.writes)).getD []
def thereB (H : List Txn) (n : Nat) (x : It) : Bool := x.b == -1 || (decide (0 ≤ x.b) && decide (x.b < (H.length : Int)) && x.b != (n : Int) && (wrOf H x.b).contains x.a)
def rF (H : List Txn) (n : Nat) (l : List It) (j : Nat) : Bool := match l[j]? with | some x => decide (lastK ((l.take j).map (·.a)) < x.a) && decide (x.a < 16) && thereB H n x | none => true
theorem rF_at {H : List Txn} {n : Nat} {l : List It} {j : Nat} (h : j < l.length) : rF H n l j = (decide (lastK ((l.take j).map (·.a)) < l[j].a) && decide (l[j].a < 16) && thereB H n l[j]) := by
  unfold rF; rw [List.getElem?_eq_getElem h]
def rFs (H : List Txn) (m : Nat) (l : List It) (n : Nat) : List Bool := (List.range n).map (rF H m l)
theorem rFs_step (H : List Txn) (m : Nat) (l : List It) (n : Nat) : rFs H m l (n + 1) = rFs H m l n ++ [rF H m l n] := by unfold rFs; rw [List.range_succ, List.map_append]; rfl
def txF (H : List Txn) (n : Nat) : List Bool := match H[n]? with
  | some t => wFs t.writes t.writes.length ++ rFs H n t.reads t.reads.length ++ [belowB t.sess 8]
  | none => []
theorem txF_at {H : List Txn} {n : Nat} (h : n < H.length) : txF H n = wFs H[n].writes H[n].writes.length ++ rFs H n H[n].reads H[n].reads.length ++ [belowB H[n].sess 8] := by
  unfold txF; rw [List.getElem?_eq_getElem h]
def faultsTo (H : List Txn) (n : Nat) : List Bool := ((List.range n).map (txF H)).flatten
theorem faultsTo_step (H : List Txn) (n : Nat) : faultsTo H (n + 1) = faultsTo H n ++ txF H n := by
  unfold faultsTo; rw [List.range_succ, List.map_append, List.flatten_append]; simp
def faultsL (H : List Txn) : List Bool := decide (H.length ≤ 32) :: faultsTo H H.length
def rightH (H : List Txn) : Bool := (faultsL H).all id

theorem pre_false {l p : List Bool} (h : p <+: l) (hf : false ∈ p) : l.all id = false := by
  rw [List.all_eq_false]
  exact ⟨false, h.subset hf, by simp⟩
theorem rise_iff (l : List Int) (n : Nat) (hn : n ≤ l.length) : (wFs l n).all id = true ↔ (l.take n).Pairwise (· < ·) ∧ ∀ k ∈ l.take n, 0 ≤ k ∧ k < 16 := by
  induction n with
  | zero => simp [wFs]
  | succ n ih =>
    rw [wFs_step, List.all_append, Bool.and_eq_true, ih (by omega), List.take_succ_eq_append_getElem (by omega), List.pairwise_append]
    rw [show ([wF l n].all id = true) = (wF l n = true) by simp, wF_at (by omega), Bool.and_eq_true, decide_eq_true_eq, decide_eq_true_eq]
    have hmid : ∀ (P : List Int) (k : Int), P.Pairwise (· < ·) → (∀ y ∈ P, 0 ≤ y ∧ y < 16) → (lastK P < k ↔ (∀ y ∈ P, y < k) ∧ 0 ≤ k) := by
      intro P k h1 h2
      rcases List.eq_nil_or_concat P with rfl | ⟨Q, z, rfl⟩
      · simp [lastK]; omega
      · rw [List.concat_eq_append] at *
        rw [lastK_snoc]
        have hz := h2 z (by simp)
        constructor
        · intro g
          refine ⟨fun y hy => ?_, by omega⟩
          rcases List.mem_append.1 hy with hy | hy
          · have := (List.pairwise_append.1 h1).2.2 y hy z (by simp); omega
          · simp at hy; omega
        · intro g; exact g.1 z (by simp)
    constructor
    · rintro ⟨⟨h1, h2⟩, h3, h4⟩
      have := (hmid _ _ h1 h2).1 h3
      refine ⟨⟨h1, by simp, fun y hy z hz => ?_⟩, fun k hk => ?_⟩
      · simp at hz; subst hz; exact this.1 y hy
      · rcases List.mem_append.1 hk with hk | hk
        · exact h2 k hk
        · simp at hk; subst hk; exact ⟨this.2, h4⟩
    · rintro ⟨⟨h1, _, h3⟩, h4⟩
      have g2 : ∀ k ∈ l.take n, 0 ≤ k ∧ k < 16 := fun k hk => h4 k (List.mem_append.2 (.inl hk))
      have g3 := h4 l[n] (List.mem_append.2 (.inr (by simp)))
      exact ⟨⟨h1, g2⟩, (hmid _ _ h1 g2).2 ⟨fun y hy => h3 y hy _ (by simp), g3.1⟩, g3.2⟩
theorem rises_iff (H : List Txn) (m : Nat) (l : List It) (n : Nat) (hn : n ≤ l.length) : (rFs H m l n).all id = true ↔ (wFs (l.map (·.a)) n).all id = true ∧ ∀ x ∈ l.take n, thereB H m x = true := by
  induction n with
  | zero => simp [wFs, rFs]
  | succ n ih =>
    rw [rFs_step, wFs_step, List.all_append, List.all_append, Bool.and_eq_true, Bool.and_eq_true, ih (by omega), List.take_succ_eq_append_getElem (by omega)]
    rw [show ([wF (l.map (·.a)) n].all id = true) = (wF (l.map (·.a)) n = true) by simp, show ([rF H m l n].all id = true) = (rF H m l n = true) by simp, rF_at (by omega), wF_at (by rw [List.length_map]; omega), List.getElem_map, ← List.map_take, Bool.and_eq_true (_ && _)]
    constructor
    · rintro ⟨⟨h1, h2⟩, h3, h4⟩
      refine ⟨⟨h1, h3⟩, fun x hx => ?_⟩
      rcases List.mem_append.1 hx with hx | hx
      · exact h2 x hx
      · simp at hx; subst hx; exact h4
    · rintro ⟨⟨h1, h2⟩, h3⟩
      exact ⟨⟨h1, fun x hx => h3 x (List.mem_append.2 (.inl hx))⟩, h2, h3 _ (List.mem_append.2 (.inr (by simp)))⟩
structure TxnOk (H : List Txn) (n : Nat) (t : Txn) : Prop where
  wrise : t.writes.Pairwise (· < ·)
  wkey : ∀ k ∈ t.writes, 0 ≤ k ∧ k < 16
  rrise : (t.reads.map (·.a)).Pairwise (· < ·)
  rkey : ∀ x ∈ t.reads, 0 ≤ x.a ∧ x.a < 16
  there : ∀ x ∈ t.reads, thereB H n x = true
  sess : 0 ≤ t.sess ∧ t.sess < 8
theorem txF_iff {H : List Txn} {n : Nat} (h : n < H.length) : (txF H n).all id = true ↔ TxnOk H n H[n] := by
  rw [txF_at h, List.all_append, List.all_append, Bool.and_eq_true, Bool.and_eq_true, rise_iff _ _ (Nat.le_refl _), rises_iff _ _ _ _ (Nat.le_refl _), rise_iff _ _ (by simp)]
  rw [List.take_length, List.take_length, List.take_of_length_le (show (H[n].reads.map (·.a)).length ≤ H[n].reads.length by simp)]
  have hs : ([belowB H[n].sess 8].all id = true) ↔ 0 ≤ H[n].sess ∧ H[n].sess < 8 := by simp [belowB]
  rw [hs]
  constructor
  · rintro ⟨⟨⟨h1, h2⟩, ⟨h3, h4⟩, h5⟩, h6⟩
    exact ⟨h1, h2, h3, fun x hx => h4 _ (List.mem_map_of_mem hx), h5, h6⟩
  · rintro ⟨h1, h2, h3, h4, h5, h6⟩
    exact ⟨⟨⟨h1, h2⟩, ⟨h3, fun k hk => by obtain ⟨x, hx, rfl⟩ := List.mem_map.1 hk; exact h4 x hx⟩, h5⟩, h6⟩
theorem faultsTo_iff (H : List Txn) (n : Nat) (hn : n ≤ H.length) : (faultsTo H n).all id = true ↔ ∀ j (hj : j < H.length), j < n → TxnOk H j H[j] := by
  induction n with
  | zero => simp [faultsTo]
  | succ n ih =>
    rw [faultsTo_step, List.all_append, Bool.and_eq_true, ih (by omega), txF_iff (by omega)]
    constructor
    · rintro ⟨h1, h2⟩ j hj hjn
      by_cases e : j = n
      · subst e; exact h2
      · exact h1 j hj (by omega)
    · intro h
      exact ⟨fun j hj hjn => h j hj (by omega), h n (by omega) (by omega)⟩
theorem rightH_iff (H : List Txn) : rightH H = true ↔ H.length ≤ 32 ∧ ∀ j (hj : j < H.length), TxnOk H j H[j] := by
  unfold rightH faultsL
  rw [List.all_cons, Bool.and_eq_true, faultsTo_iff H _ (Nat.le_refl _)]
  constructor
  · rintro ⟨h1, h2⟩
    exact ⟨by simpa using h1, fun j hj => h2 j hj hj⟩
  · rintro ⟨h1, h2⟩
    exact ⟨by simpa using h1, fun j hj _ => h2 j hj⟩
theorem thereB_iff (H : List Txn) (n : Nat) (x : It) : thereB H n x = true ↔ x.b = -1 ∨ ∃ k, ∃ hk : k < H.length, x.b = (k : Int) ∧ k ≠ n ∧ x.a ∈ H[k].writes := by
  unfold thereB
  rw [Bool.or_eq_true, Bool.and_eq_true, Bool.and_eq_true, Bool.and_eq_true, decide_eq_true_eq, decide_eq_true_eq, beq_iff_eq, bne_iff_ne, List.contains_iff_mem]
  constructor
  · rintro (h | ⟨⟨⟨h1, h2⟩, h3⟩, h4⟩)
    · exact .inl h
    · refine .inr ⟨x.b.toNat, by omega, by omega, by omega, ?_⟩
      unfold wrOf at h4
      rw [List.getElem?_eq_getElem (by omega)] at h4
      exact h4
  · rintro (h | ⟨k, hk, h1, h2, h3⟩)
    · exact .inl h
    · refine .inr ⟨⟨⟨by omega, by omega⟩, by omega⟩, ?_⟩
      unfold wrOf
      rw [h1, Int.toNat_natCast, List.getElem?_eq_getElem hk]
      exact h3

end Go.Inq

namespace Go.Inq
open Go.Lib

theorem compact_rise (d : Array Int) (hs : ∀ i j, i ≤ j → j < d.size → d[i]! ≤ d[j]!) : ∀ m, m ≤ d.size →
    (compactUpTo d m).Pairwise (· < ·) ∧ ∀ x, x ∈ compactUpTo d m ↔ ∃ j, j < m ∧ d[j]! = x
  | 0, _ => ⟨by simp [compactUpTo], fun x => by simp [compactUpTo]⟩
  | m + 1, hm => by
    obtain ⟨h1, h2⟩ := compact_rise d hs m (by omega)
    rw [compactUpTo_succ]
    by_cases hk : keeps d m = true
    · rw [if_pos hk]
      refine ⟨List.pairwise_append.2 ⟨h1, by simp, fun a ha b hb => ?_⟩, fun x => ?_⟩
      · obtain rfl : b = d[m]! := by simpa using hb
        obtain ⟨j, hj, rfl⟩ := (h2 a).1 ha
        have hne : d[m]! ≠ d[m - 1]! := by
          unfold keeps at hk
          have := of_decide_eq_true hk
          rcases this with h | h
          · omega
          · exact h
        have e1 := hs j (m - 1) (by omega) (by omega)
        have e2 := hs (m - 1) m (by omega) (by omega)
        omega
      · rw [List.mem_append, h2]
        constructor
        · rintro (⟨j, hj, e⟩ | h)
          · exact ⟨j, by omega, e⟩
          · exact ⟨m, by omega, by simpa using (List.mem_singleton.1 h).symm⟩
        · rintro ⟨j, hj, e⟩
          by_cases he : j = m
          · subst he; exact .inr (by simp [e])
          · exact .inl ⟨j, by omega, e⟩
    · rw [if_neg hk, List.append_nil]
      refine ⟨h1, fun x => ?_⟩
      rw [h2]
      have hk2 : ¬ (m = 0 ∨ d[m]! ≠ d[m - 1]!) := fun h => hk (by unfold keeps; exact decide_eq_true h)
      constructor
      · rintro ⟨j, hj, e⟩; exact ⟨j, by omega, e⟩
      · rintro ⟨j, hj, e⟩
        by_cases he : j = m
        · subst he
          exact ⟨j - 1, by omega, by rw [← e]; exact Eq.symm (Classical.byContradiction fun h => hk2 (.inr h))⟩
        · exact ⟨j, by omega, e⟩

theorem rise_eq : ∀ {a b : List Int}, a.Pairwise (· < ·) → b.Pairwise (· < ·) → (∀ x, x ∈ a ↔ x ∈ b) → a = b
  | [], [], _, _, _ => rfl
  | [], y :: _, _, _, h => by have := (h y).2 (by simp); cases this
  | x :: _, [], _, _, h => by have := (h x).1 (by simp); cases this
  | x :: a, y :: b, ha, hb, h => by
    rw [List.pairwise_cons] at ha hb
    have hxy : x = y := by
      have h1 := (h x).1 (by simp)
      have h2 := (h y).2 (by simp)
      rw [List.mem_cons] at h1 h2
      rcases h1 with h1 | h1
      · exact h1
      · rcases h2 with h2 | h2
        · exact h2.symm
        · have := ha.1 _ h2; have := hb.1 _ h1; omega
    subst hxy
    rw [rise_eq ha.2 hb.2 (fun z => ?_)]
    have hz := h z
    rw [List.mem_cons, List.mem_cons] at hz
    constructor
    · intro hm
      rcases hz.1 (.inr hm) with e | e
      · have := ha.1 _ hm; omega
      · exact e
    · intro hm
      rcases hz.2 (.inr hm) with e | e
      · have := hb.1 _ hm; omega
      · exact e

theorem compact_sorted (l : List Int) : (compact (l.mergeSort fun x y => decide (x ≤ y))).Pairwise (· < ·) ∧ ∀ x, x ∈ compact (l.mergeSort fun x y => decide (x ≤ y)) ↔ x ∈ l := by
  have hp := List.pairwise_mergeSort (le := fun x y : Int => decide (x ≤ y)) (fun a b c h1 h2 => by simp at *; omega) (fun a b => by simp; omega) l
  have hm : ∀ x, x ∈ (l.mergeSort fun x y => decide (x ≤ y)) ↔ x ∈ l := fun x => List.mem_mergeSort
  generalize (l.mergeSort fun x y => decide (x ≤ y)) = s at *
  have hs : ∀ i j, i ≤ j → j < s.toArray.size → s.toArray[i]! ≤ s.toArray[j]! := by
    intro i j hij hj
    have hj' : j < s.length := by simpa using hj
    rw [getElem!_pos s.toArray i (by simp; omega), getElem!_pos s.toArray j hj]
    rcases Nat.lt_or_eq_of_le hij with h | h
    · have := List.pairwise_iff_getElem.1 hp i j (by omega) hj' h
      simpa using this
    · subst h; exact Int.le_refl _
  obtain ⟨h1, h2⟩ := compact_rise s.toArray hs s.length (by simp)
  refine ⟨h1, fun x => ?_⟩
  unfold compact
  rw [h2, ← hm]
  constructor
  · rintro ⟨j, hj, rfl⟩
    rw [getElem!_pos s.toArray j (by simpa using hj)]
    simp
  · intro h
    obtain ⟨j, hj, rfl⟩ := List.getElem_of_mem h
    exact ⟨j, hj, by rw [getElem!_pos s.toArray j (by simpa using hj)]; simp⟩

structure Cho where
  key : Int
  a : Int
  b : Int
deriving DecidableEq

def txnAt (H : List Txn) (t : Nat) : Txn := H.getD t ⟨0, [], []⟩
theorem txnAt_of {H : List Txn} {t : Nat} (h : t < H.length) : txnAt H t = H[t] := by unfold txnAt; rw [List.getD_eq_getElem?_getD, List.getElem?_eq_getElem h]; rfl

def wrsTo (H : List Txn) (key : Int) (n : Nat) : List Nat := (List.range n).filter fun t => (txnAt H t).writes.contains key
def wrsL (H : List Txn) (key : Int) : List Nat := wrsTo H key H.length
theorem wrsTo_step (H : List Txn) (key : Int) (n : Nat) : wrsTo H key (n + 1) = wrsTo H key n ++ (if (txnAt H n).writes.contains key then [n] else []) := by
  unfold wrsTo
  rw [List.range_succ, List.filter_append]
  congr 1
  rw [List.filter_cons, List.filter_nil]
theorem wrsL_mem {H : List Txn} {key : Int} {t : Nat} : t ∈ wrsL H key ↔ t < H.length ∧ key ∈ (txnAt H t).writes := by
  unfold wrsL wrsTo; rw [List.mem_filter, List.mem_range, List.contains_iff_mem]
theorem wrsL_len (H : List Txn) (key : Int) : (wrsL H key).length ≤ H.length := Nat.le_trans (List.length_filter_le _ _) (by simp)

def keysL (H : List Txn) : List Int := compact ((H.map (·.writes)).flatten.mergeSort fun x y => decide (x ≤ y))
theorem keysL_mem {H : List Txn} {k : Int} : k ∈ keysL H ↔ ∃ t, t ∈ H ∧ k ∈ t.writes := by
  unfold keysL
  rw [(compact_sorted _).2, List.mem_flatten]
  constructor
  · rintro ⟨l, hl, hk⟩
    obtain ⟨t, ht, rfl⟩ := List.mem_map.1 hl
    exact ⟨t, ht, hk⟩
  · rintro ⟨t, ht, hk⟩
    exact ⟨t.writes, List.mem_map_of_mem ht, hk⟩
theorem keysL_rise (H : List Txn) : (keysL H).Pairwise (· < ·) := (compact_sorted _).1

theorem keysL_16 {H : List Txn} (h : ∀ t ∈ H, ∀ k ∈ t.writes, 0 ≤ k ∧ k < 16) : keysL H = ((List.range 16).filter fun (k : Nat) => decide (wrsL H (k : Int) ≠ [])).map fun (k : Nat) => (k : Int) := by
  refine rise_eq (keysL_rise H) ?_ (fun x => ?_)
  · refine List.pairwise_map.2 ?_
    exact (List.Pairwise.filter _ List.pairwise_lt_range).imp (fun hab => by omega)
  · rw [keysL_mem]
    constructor
    · rintro ⟨t, ht, hx⟩
      have hb := h t ht x hx
      obtain ⟨i, hi, rfl⟩ := List.getElem_of_mem ht
      refine List.mem_map.2 ⟨x.toNat, List.mem_filter.2 ⟨by simp; omega, ?_⟩, by omega⟩
      rw [show ((x.toNat : Nat) : Int) = x by omega]
      refine decide_eq_true (fun e => ?_)
      have : i ∈ wrsL H x := wrsL_mem.2 ⟨hi, by rw [txnAt_of hi]; exact hx⟩
      rw [e] at this; cases this
    · intro hx
      obtain ⟨k, hk, rfl⟩ := List.mem_map.1 hx
      obtain ⟨_, hk2⟩ := List.mem_filter.1 hk
      have hk3 := of_decide_eq_true hk2
      cases hw : wrsL H (k : Int) with
      | nil => exact absurd hw hk3
      | cons t r =>
        have : t ∈ wrsL H (k : Int) := by rw [hw]; simp
        obtain ⟨h1, h2⟩ := wrsL_mem.1 this
        rw [txnAt_of h1] at h2
        exact ⟨_, List.getElem_mem h1, h2⟩

def pairsK (key : Int) : List Nat → List Cho
  | [] => []
  | a :: r => r.map (fun (b : Nat) => (⟨key, a, b⟩ : Cho)) ++ pairsK key r
def pairsL (H : List Txn) : List Cho := ((keysL H).map fun k => pairsK k (wrsL H k)).flatten

def rdsL (H : List Txn) (key src : Int) : List Nat := ((List.range H.length).map fun t => ((txnAt H t).reads.filter fun r => decide (r.a = key) && decide (r.b = src)).map fun _ => t).flatten
theorem rdsL_mem {H : List Txn} {key src : Int} {t : Nat} : t ∈ rdsL H key src ↔ t < H.length ∧ ∃ r ∈ (txnAt H t).reads, r.a = key ∧ r.b = src := by
  unfold rdsL
  rw [List.mem_flatten]
  constructor
  · rintro ⟨l, hl, ht⟩
    obtain ⟨u, hu, rfl⟩ := List.mem_map.1 hl
    obtain ⟨r, hr, rfl⟩ := List.mem_map.1 ht
    obtain ⟨h1, h2⟩ := List.mem_filter.1 hr
    exact ⟨by simpa using hu, r, h1, by simpa using h2⟩
  · rintro ⟨h, r, hr, hk⟩
    exact ⟨_, List.mem_map.2 ⟨t, by simpa using h, rfl⟩, List.mem_map.2 ⟨r, List.mem_filter.2 ⟨hr, by simpa using hk⟩, rfl⟩⟩
end Go.Inq

namespace Go.Inq

def pairsI (key : Int) (l : List Nat) (i : Nat) : List Cho := ((List.range i).map fun a => (l.drop (a + 1)).map fun (b : Nat) => (⟨key, (l.getD a 0 : Nat), b⟩ : Cho)).flatten
theorem pairsI_step (key : Int) (l : List Nat) {i : Nat} (h : i < l.length) : pairsI key l (i + 1) = pairsI key l i ++ (l.drop (i + 1)).map fun (b : Nat) => (⟨key, (l[i] : Nat), b⟩ : Cho) := by
  unfold pairsI
  rw [List.range_succ, List.map_append, List.flatten_append]
  simp [List.getD_eq_getElem?_getD, List.getElem?_eq_getElem h]
theorem pairsI_cons (key : Int) (a : Nat) (r : List Nat) : ∀ i, pairsI key (a :: r) (i + 1) = (r.map fun (b : Nat) => (⟨key, a, b⟩ : Cho)) ++ pairsI key r i
  | 0 => by simp [pairsI, List.range_succ]
  | i + 1 => by
    have h1 : pairsI key (a :: r) (i + 1 + 1) = pairsI key (a :: r) (i + 1) ++ ((a :: r).drop (i + 1 + 1)).map fun (b : Nat) => (⟨key, ((a :: r).getD (i + 1) 0 : Nat), b⟩ : Cho) := by
      unfold pairsI; rw [List.range_succ, List.map_append, List.flatten_append]; simp
    have h2 : pairsI key r (i + 1) = pairsI key r i ++ (r.drop (i + 1)).map fun (b : Nat) => (⟨key, (r.getD i 0 : Nat), b⟩ : Cho) := by
      unfold pairsI; rw [List.range_succ, List.map_append, List.flatten_append]; simp
    rw [h1, h2, pairsI_cons key a r i]
    simp
theorem pairsI_all (key : Int) : ∀ l : List Nat, pairsI key l l.length = pairsK key l
  | [] => by simp [pairsI, pairsK]
  | a :: r => by rw [List.length_cons, pairsI_cons, pairsI_all key r]; rfl
def pairsTo (H : List Txn) (k : Nat) : List Cho := (((keysL H).take k).map fun key => pairsK key (wrsL H key)).flatten
theorem pairsTo_step {H : List Txn} {k : Nat} (h : k < (keysL H).length) : pairsTo H (k + 1) = pairsTo H k ++ pairsK (keysL H)[k] (wrsL H (keysL H)[k]) := by
  unfold pairsTo
  rw [List.take_succ_eq_append_getElem h, List.map_append, List.flatten_append]; simp
theorem pairsTo_all (H : List Txn) : pairsTo H (keysL H).length = pairsL H := by unfold pairsTo pairsL; rw [List.take_length]
theorem pairsK_len (key : Int) : ∀ l : List Nat, (pairsK key l).length ≤ l.length * l.length
  | [] => by simp [pairsK]
  | a :: r => by
    unfold pairsK
    rw [List.length_append, List.length_map, List.length_cons]
    have := pairsK_len key r
    rw [Nat.add_mul, Nat.mul_add]
    omega
theorem pairsI_len (key : Int) (l : List Nat) : ∀ i, (pairsI key l i).length ≤ i * l.length
  | 0 => by simp [pairsI]
  | i + 1 => by
    have h1 : pairsI key l (i + 1) = pairsI key l i ++ (l.drop (i + 1)).map fun (b : Nat) => (⟨key, (l.getD i 0 : Nat), b⟩ : Cho) := by
      unfold pairsI; rw [List.range_succ, List.map_append, List.flatten_append]; simp
    rw [h1, List.length_append, List.length_map, List.length_drop, Nat.add_mul]
    have := pairsI_len key l i
    omega
theorem keysL_16len {H : List Txn} (hr : rightH H = true) : (keysL H).length ≤ 16 := by
  have hb : ∀ t ∈ H, ∀ k ∈ t.writes, 0 ≤ k ∧ k < 16 := fun t ht k hk => by
    obtain ⟨i, hi, rfl⟩ := List.getElem_of_mem ht
    exact (((rightH_iff H).1 hr).2 i hi).wkey k hk
  rw [keysL_16 hb, List.length_map]
  exact Nat.le_trans (List.length_filter_le _ _) (by simp)
theorem pairsTo_len {H : List Txn} (h32 : H.length ≤ 32) : ∀ k, k ≤ (keysL H).length → (pairsTo H k).length ≤ k * 1024
  | 0, _ => by simp [pairsTo]
  | k + 1, hk => by
    rw [pairsTo_step (by omega), List.length_append]
    have h1 := pairsTo_len h32 k (by omega)
    have h2 := pairsK_len (keysL H)[k] (wrsL H (keysL H)[k])
    have h3 := wrsL_len H (keysL H)[k]
    have h4 : (wrsL H (keysL H)[k]).length * (wrsL H (keysL H)[k]).length ≤ 32 * 32 := Nat.mul_le_mul (by omega) (by omega)
    omega
theorem pairsL_len {H : List Txn} (hr : rightH H = true) : (pairsL H).length ≤ 16384 := by
  have h1 := pairsTo_len ((rightH_iff H).1 hr).1 _ (Nat.le_refl _)
  rw [pairsTo_all] at h1
  have := keysL_16len hr
  omega
def wrB (H : List Txn) (t key : Int) : Bool := decide (0 ≤ t) && decide (t < (H.length : Int)) && (txnAt H t.toNat).writes.contains key
def oneB (H : List Txn) (c : Cho) : Bool := decide (c.a ≠ c.b) && wrB H c.a c.key && wrB H c.b c.key
def rightC (H : List Txn) (l : List Cho) : Bool := rightH H && decide (l.length ≤ 20000) && l.all (oneB H)
theorem wrB_nat {H : List Txn} {t : Nat} {key : Int} (h : t < H.length) : wrB H (t : Int) key = (txnAt H t).writes.contains key := by unfold wrB; simp [h]
theorem wrB_iff {H : List Txn} {t key : Int} : wrB H t key = true ↔ ∃ n : Nat, t = n ∧ n < H.length ∧ key ∈ (txnAt H n).writes := by
  unfold wrB
  constructor
  · intro h
    simp only [Bool.and_eq_true, decide_eq_true_eq, List.contains_iff_mem] at h
    exact ⟨t.toNat, by omega, by omega, h.2⟩
  · rintro ⟨n, rfl, h1, h2⟩
    simp [h1, h2]
theorem oneB_iff {H : List Txn} {c : Cho} : oneB H c = true ↔ ∃ a b : Nat, c.a = a ∧ c.b = b ∧ a ≠ b ∧ a < H.length ∧ b < H.length ∧ c.key ∈ (txnAt H a).writes ∧ c.key ∈ (txnAt H b).writes := by
  unfold oneB
  rw [Bool.and_eq_true, Bool.and_eq_true, wrB_iff, wrB_iff]
  constructor
  · rintro ⟨⟨h1, a, ha, h2, h3⟩, b, hb, h4, h5⟩
    have := of_decide_eq_true h1
    exact ⟨a, b, ha, hb, by omega, h2, h4, h3, h5⟩
  · rintro ⟨a, b, ha, hb, h1, h2, h3, h4, h5⟩
    exact ⟨⟨decide_eq_true (by omega), a, ha, h2, h4⟩, b, hb, h3, h5⟩
def turnB (c : Cho) : Cho := ⟨c.key, c.b, c.a⟩
theorem turn_one {H : List Txn} {c : Cho} (h : oneB H c = true) : oneB H (turnB c) = true := by
  obtain ⟨a, b, ha, hb, h1, h2, h3, h4, h5⟩ := oneB_iff.1 h
  exact oneB_iff.2 ⟨b, a, hb, ha, h1.symm, h3, h2, h5, h4⟩
end Go.Inq

namespace Go.Inq

def setB (p : Nat → Bool) : Nat → Nat
  | 0 => 0
  | n + 1 => setB p n ||| (if p n then 2 ^ n else 0)

theorem testBit_setB (p : Nat → Bool) : ∀ (n i : Nat), (setB p n).testBit i = (decide (i < n) && p i)
  | 0, i => by simp [setB]
  | n + 1, i => by
    unfold setB
    rw [Nat.testBit_or, testBit_setB p n i]
    by_cases h : i = n
    · subst h
      cases hp : p i <;> simp [hp, Nat.testBit_two_pow]
    · have h2 : (if p n = true then 2 ^ n else 0).testBit i = false := by
        split
        · rw [Nat.testBit_two_pow]; simp; omega
        · simp
      rw [h2]
      have h3 : decide (i < n + 1) = decide (i < n) := by simp; omega
      rw [h3]; simp

theorem setB_lt (p : Nat → Bool) (n : Nat) : setB p n < 2 ^ n := by
  refine Nat.lt_pow_two_of_testBit _ (fun i hi => ?_)
  rw [testBit_setB]; simp; omega

theorem setB_eq {p : Nat → Bool} {n x : Nat} (hx : x < 2 ^ n) (h : ∀ i, i < n → x.testBit i = p i) : x = setB p n := by
  refine Nat.eq_of_testBit_eq (fun i => ?_)
  rw [testBit_setB]
  by_cases hi : i < n
  · rw [h i hi]; simp [hi]
  · rw [Nat.testBit_lt_two_pow (Nat.lt_of_lt_of_le hx (Nat.pow_le_pow_right (by decide) (by omega)))]; simp [hi]

theorem setB_congr {p q : Nat → Bool} {n : Nat} (h : ∀ i, i < n → p i = q i) : setB p n = setB q n :=
  setB_eq (setB_lt p n) (fun i hi => by rw [testBit_setB, h i hi]; simp [hi])

theorem one_or (x i : Nat) (j : Nat) : (x ||| 2 ^ i).testBit j = (x.testBit j || decide (i = j)) := by
  rw [Nat.testBit_or, Nat.testBit_two_pow]

theorem and_one (x i : Nat) : (x &&& 2 ^ i = 0) ↔ x.testBit i = false := by
  constructor
  · intro h
    have := congrArg (fun y => y.testBit i) h
    simpa [Nat.testBit_and, Nat.testBit_two_pow] using this
  · intro h
    refine Nat.eq_of_testBit_eq (fun j => ?_)
    rw [Nat.testBit_and, Nat.testBit_two_pow]
    by_cases e : i = j
    · subst e; simp [h]
    · simp [e]


def rowsG (n : Nat) (E : Nat → Nat → Bool) : List Nat := (List.range n).map fun a => setB (E a) n
theorem rowsG_length (n : Nat) (E : Nat → Nat → Bool) : (rowsG n E).length = n := by simp [rowsG]
theorem rowsG_at {n : Nat} {E : Nat → Nat → Bool} {a : Nat} (h : a < n) : (rowsG n E)[a]'(by rw [rowsG_length]; exact h) = setB (E a) n := by simp [rowsG]
theorem rowsG_congr {n : Nat} {E F : Nat → Nat → Bool} (h : ∀ a b, a < n → b < n → E a b = F a b) : rowsG n E = rowsG n F := by
  unfold rowsG
  refine List.map_congr_left (fun a ha => setB_congr (fun b hb => h a b (by simpa using ha) hb))
end Go.Inq

namespace Go.Inq

def listB (x : Nat) : List Nat := (List.range 64).filter fun i => x.testBit i

theorem filter_least (p : Nat → Bool) (k : Nat) (hk : p k = true) (hl : ∀ i, i < k → p i = false) : ∀ n, k < n → (List.range n).filter p = k :: (List.range n).filter (fun i => p i && decide (i ≠ k))
  | 0, h => absurd h (by omega)
  | n + 1, h => by
    rw [List.range_succ, List.filter_append, List.filter_append]
    by_cases e : k = n
    · subst e
      have h1 : (List.range k).filter p = [] := by
        rw [List.filter_eq_nil_iff]; intro i hi; rw [hl i (by simpa using hi)]; simp
      have h2 : (List.range k).filter (fun i => p i && decide (i ≠ k)) = [] := by
        rw [List.filter_eq_nil_iff]; intro i hi; rw [hl i (by simpa using hi)]; simp
      rw [h1, h2]; simp [hk]
    · rw [filter_least p k hk hl n (by omega)]
      have e2 : decide (n ≠ k) = true := by simp; omega
      simp only [List.filter_cons, List.filter_nil, e2, Bool.and_true, List.cons_append]

theorem odd_bit (k m i : Nat) : (2 ^ k * (2 * m + 1)).testBit i = (decide (k ≤ i) && (decide (i = k) || m.testBit (i - k - 1))) := by
  rw [Nat.mul_comm, Nat.testBit_mul_two_pow]
  by_cases h : k ≤ i
  · by_cases e : i = k
    · subst e; simp [Nat.testBit_zero]
    · obtain ⟨j, rfl⟩ : ∃ j, i = k + (j + 1) := ⟨i - k - 1, by omega⟩
      rw [show k + (j + 1) - k = j + 1 by omega, Nat.testBit_succ, show (2 * m + 1) / 2 = m by omega, show j + 1 - 1 = j by omega]
      simp
  · simp [h]

theorem less_bit (k m i : Nat) : (2 ^ k * (2 * m + 1) - 1).testBit i = (decide (i < k) || (decide (k < i) && m.testBit (i - k - 1))) := by
  have e : 2 ^ k * (2 * m + 1) - 1 = 2 ^ k * (2 * m) + (2 ^ k - 1) := by
    have := Nat.two_pow_pos k
    rw [Nat.mul_add, Nat.mul_one]; omega
  rw [e, Nat.testBit_two_pow_mul_add _ (by have := Nat.two_pow_pos k; omega)]
  by_cases h : i < k
  · rw [if_pos h, Nat.testBit_two_pow_sub_one]; simp [h]
  · rw [if_neg h]
    by_cases e : i = k
    · subst e; simp [Nat.testBit_zero]
    · obtain ⟨j, rfl⟩ : ∃ j, i = k + (j + 1) := ⟨i - k - 1, by omega⟩
      rw [show k + (j + 1) - k = j + 1 by omega, Nat.testBit_succ, show 2 * m / 2 = m by omega, show j + 1 - 1 = j by omega, decide_eq_false h, decide_eq_true (show k < k + (j + 1) by omega)]
      simp

theorem drop_bit (x : Nat) (h0 : x ≠ 0) (hx : x < 2 ^ 64) : x.testBit (Lib.ctz 64 x) = true ∧ (∀ i, i < Lib.ctz 64 x → x.testBit i = false) ∧ Lib.ctz 64 x < 64 ∧ ∀ i, (x &&& (x - 1)).testBit i = (x.testBit i && decide (i ≠ Lib.ctz 64 x)) := by
  have e : Lib.ctz 64 x = Lib.ctzFrom 64 x := by unfold Lib.ctz; rw [if_neg h0]
  rw [e]
  obtain ⟨m, hm, hk⟩ := Lib.ctzFrom_spec 64 x (by omega) hx
  generalize Lib.ctzFrom 64 x = k at *
  subst hm
  refine ⟨?_, ?_, hk, ?_⟩
  · rw [odd_bit]; simp
  · intro i hi; rw [odd_bit]; simp; omega
  · intro i
    rw [Nat.testBit_and, odd_bit, less_bit]
    by_cases h1 : i < k
    · have : ¬ k ≤ i := by omega
      simp [this]
    · by_cases h2 : i = k
      · subst h2; simp
      · have h3 : k < i := by omega
        have h4 : k ≤ i := by omega
        simp [h1, h2, h3, h4]

theorem listB_next (x : Nat) (h0 : x ≠ 0) (hx : x < 2 ^ 64) : listB x = Lib.ctz 64 x :: listB (x &&& (x - 1)) := by
  obtain ⟨h1, h2, h3, h4⟩ := drop_bit x h0 hx
  unfold listB
  rw [filter_least _ _ h1 h2 64 h3]
  congr 1
  refine List.filter_congr (fun i _ => (h4 i).symm)
theorem listB_zero : listB 0 = [] := by simp [listB]
theorem and_less (x : Nat) (hx : x < 2 ^ 64) : x &&& (x - 1) < 2 ^ 64 := Nat.lt_of_le_of_lt Nat.and_le_left hx
theorem listB_len (x : Nat) : (listB x).length ≤ 64 := Nat.le_trans (List.length_filter_le _ _) (by simp)
end Go.Inq

namespace Go.Inq

theorem rowsG_lt {n : Nat} {E : Nat → Nat → Bool} {x : Nat} (h : x ∈ rowsG n E) : x < 2 ^ n := by
  unfold rowsG at h
  obtain ⟨a, _, rfl⟩ := List.mem_map.1 h
  exact setB_lt _ _

abbrev Edges := Nat → Nat → Bool
def orE (E F : Edges) : Edges := fun a b => E a b || F a b
def thenE (n : Nat) (E F : Edges) : Edges := fun a c => (List.range n).any fun b => E a b && F b c
def turnE (E : Edges) : Edges := fun a b => E b a

def soE (H : List Txn) : Edges := fun a b => decide (a < b) && decide ((txnAt H a).sess = (txnAt H b).sess)
def wrE (H : List Txn) : Edges := fun a b => decide (a ≠ b) && (txnAt H b).reads.any fun r => decide (r.b = (a : Int))
def initE (H : List Txn) : Edges := fun a b => decide (a ≠ b) && (txnAt H a).reads.any fun r => decide (r.b = -1) && (txnAt H b).writes.contains r.a
def pastE (H : List Txn) : Edges := orE (soE H) (wrE H)
def wwE (l : List Cho) : Edges := fun a b => l.any fun c => decide (c.a = (a : Int)) && decide (c.b = (b : Int))
def rwE (H : List Txn) (l : List Cho) : Edges := fun t b => initE H t b || l.any fun c => decide (c.b = (b : Int)) && decide (t ≠ b) && (txnAt H t).reads.any fun r => decide (r.a = c.key) && decide (r.b = c.a)
def fullE (H : List Txn) (level : Int) (l : List Cho) : Edges :=
  let d := orE (pastE H) (wwE l)
  orE d (if level = 1 then thenE H.length d (rwE H l) else rwE H l)

theorem initE_iff {H : List Txn} {a b : Nat} (ha : a < H.length) (hb : b < H.length) : initE H a b = true ↔ a ≠ b ∧ ∃ k ∈ keysL H, a ∈ rdsL H k (-1) ∧ b ∈ wrsL H k := by
  unfold initE
  rw [Bool.and_eq_true, List.any_eq_true]
  constructor
  · rintro ⟨h1, r, hr, h2⟩
    rw [Bool.and_eq_true, List.contains_iff_mem] at h2
    refine ⟨of_decide_eq_true h1, r.a, keysL_mem.2 ⟨H[b], List.getElem_mem hb, by rw [← txnAt_of hb]; exact h2.2⟩, rdsL_mem.2 ⟨ha, r, hr, rfl, of_decide_eq_true h2.1⟩, wrsL_mem.2 ⟨hb, h2.2⟩⟩
  · rintro ⟨h1, k, _, hr, hw⟩
    obtain ⟨_, r, hr2, rfl, e⟩ := rdsL_mem.1 hr
    exact ⟨decide_eq_true h1, r, hr2, by rw [Bool.and_eq_true, List.contains_iff_mem]; exact ⟨decide_eq_true e, (wrsL_mem.1 hw).2⟩⟩

def nextT (n : Nat) (E : Edges) (l : List Nat) : Option Nat := (List.range n).find? fun v => !l.contains v && (List.range n).all fun x => !E x v || l.contains x
def orderTo (n : Nat) (E : Edges) : Nat → Option (List Nat)
  | 0 => some []
  | k + 1 => match orderTo n E k with
    | none => none
    | some l => match nextT n E l with
      | none => none
      | some v => some (l ++ [v])
def orderT (n : Nat) (E : Edges) : Option (List Nat) := orderTo n E n
theorem orderTo_len {n : Nat} {E : Edges} : ∀ {k : Nat} {l : List Nat}, orderTo n E k = some l → l.length = k
  | 0, l, h => by unfold orderTo at h; injection h with h; subst h; rfl
  | k + 1, l, h => by
    unfold orderTo at h
    split at h
    · cases h
    · rename_i l0 h0
      split at h
      · cases h
      · injection h with h; subst h; simp [orderTo_len h0]

structure Wd where
  width : Int
  cut : Bool
  path : List Int
  left : List (List Int)
deriving DecidableEq

end Go.Inq

namespace Go.Inq

def redE (H : List Txn) (x y : Nat) : Bool := (txnAt H y).reads.any fun r => decide (r.b = (x : Int))
def chosE (H : List Txn) (x y : Nat) (c : Cho) : Bool := decide (c.a = (x : Int)) && decide (c.b = (y : Int)) && decide (x ≠ y) && (txnAt H x).writes.contains c.key && (txnAt H y).writes.contains c.key
def writE (H : List Txn) (l : List Cho) (x y : Nat) : Bool := l.any (chosE H x y)
def overR (H : List Txn) (l : List Cho) (y : Nat) (r : It) : Bool := (txnAt H y).writes.contains r.a && (decide (r.b < 0) || (decide (r.b ≠ (y : Int)) && l.any fun c => decide (c = ⟨r.a, r.b, y⟩)))
def overE (H : List Txn) (l : List Cho) (x y : Nat) : Bool := decide (x ≠ y) && (txnAt H x).reads.any (overR H l y)
def dirE (H : List Txn) (l : List Cho) (x y : Nat) : Bool := soE H x y || redE H x y || writE H l x y
def twoB (H : List Txn) (x y : Int) : Bool := rightH H && decide (0 ≤ x) && decide (x < (H.length : Int)) && decide (0 ≤ y) && decide (y < (H.length : Int))
def directB (H : List Txn) (l : List Cho) (x y : Int) : Bool := twoB H x y && dirE H l x.toNat y.toNat
def antiB (H : List Txn) (l : List Cho) (x y : Int) : Bool := twoB H x y && overE H l x.toNat y.toNat
def isB (H : List Txn) (level : Int) (l : List Cho) (x y : Int) : Bool :=
  if level = 0 then directB H l x y || antiB H l x y
  else if level = 1 then (List.range H.length).any fun m => directB H l x (m : Int) && (decide ((m : Int) = y) || antiB H l (m : Int) y)
  else false
def ringB (H : List Txn) (level : Int) (l : List Cho) (row : List Int) : Bool :=
  decide (0 < row.length) && (List.range row.length).all fun i => !(row.take i).contains (row.getD i 0) && isB H level l (row.getD i 0) (row.getD ((i + 1) % row.length) 0)
theorem twoB_iff {H : List Txn} {x y : Int} : twoB H x y = true ↔ rightH H = true ∧ ∃ a b : Nat, x = a ∧ y = b ∧ a < H.length ∧ b < H.length := by
  unfold twoB
  simp only [Bool.and_eq_true, decide_eq_true_eq]
  constructor
  · rintro ⟨⟨⟨⟨h1, h2⟩, h3⟩, h4⟩, h5⟩
    exact ⟨h1, x.toNat, y.toNat, by omega, by omega, by omega, by omega⟩
  · rintro ⟨h1, a, b, rfl, rfl, h2, h3⟩
    exact ⟨⟨⟨⟨h1, by omega⟩, by omega⟩, by omega⟩, by omega⟩
end Go.Inq

namespace Go.Inq

structure Fct where
  c : Cho
  kind : Int
  i : Int
  j : Int
  cyc : List Int
deriving DecidableEq
def joinB (L : List Fct) (f : Fct) : Bool :=
  decide (0 ≤ f.i) && decide (f.i < (L.length : Int)) && decide (0 ≤ f.j) && decide (f.j < (L.length : Int)) &&
    match L[f.i.toNat]?, L[f.j.toNat]? with
    | some x, some y => decide (x.c.b = y.c.a) && decide (x.c.key = y.c.key) && decide (f.c = ⟨x.c.key, x.c.a, y.c.b⟩)
    | _, _ => false
def seenF (H : List Txn) (f : Fct) : Bool :=
  decide (f.j = 0) && decide (f.i ≠ f.c.a) && decide (0 ≤ f.i) && decide (f.i < (H.length : Int)) &&
    ((txnAt H f.i.toNat).reads.any fun x => decide (x.a = f.c.key) && decide (x.b = f.c.b)) && directB H [] f.c.a f.i
def axB (H : List Txn) (f : Fct) : Bool := decide (f.i = 0) && decide (f.j = 0) && directB H [] f.c.a f.c.b
def forcB (H : List Txn) (level : Int) (L : List Fct) (f : Fct) : Bool := decide (f.i = 0) && decide (f.j = 0) && ringB H level (L.map (·.c) ++ [turnB f.c]) f.cyc
def whyB (H : List Txn) (level : Int) (L : List Fct) (f : Fct) : Bool :=
  if f.kind = 1 then axB H f else if f.kind = 2 then joinB L f else if f.kind = 3 then seenF H f else if f.kind = 4 then forcB H level L f else false
def mayB (H : List Txn) (level : Int) : Bool := rightH H && (decide (level = 0) || decide (level = 1))
def holdsB (H : List Txn) (level : Int) (L : List Fct) (f : Fct) : Bool :=
  mayB H level && oneB H f.c && (decide (f.kind = 4) || decide (f.cyc = [])) && whyB H level L f
end Go.Inq

namespace Go.Inq

def cloTo (E : Edges) : Nat → Edges
  | 0 => E
  | k + 1 => fun x y => cloTo E k x y || (cloTo E k x k && cloTo E k k y)
def cloE (n : Nat) (E : Edges) : Edges := cloTo E n
def cycB (n : Nat) (E : Edges) : Bool := (List.range n).any fun x => cloE n E x x
end Go.Inq

namespace Go.Inq

theorem sub_len : ∀ (A B : List Nat), A.Nodup → (∀ x ∈ A, x ∈ B) → A.length ≤ B.length
  | [], _, _, _ => Nat.zero_le _
  | a :: A, B, hn, h => by
    rw [List.nodup_cons] at hn
    have h1 := sub_len A (B.erase a) hn.2 fun x hx => (List.mem_erase_of_ne (fun e : x = a => hn.1 (by rw [← e]; exact hx))).2 (h x (by simp [hx]))
    rw [List.length_erase_of_mem (h a (by simp))] at h1
    have := List.length_pos_of_mem (h a (by simp))
    simp
    omega
end Go.Inq

namespace Go.Inq

def farK (n : Nat) (E : Edges) (v : Nat) : Nat → Nat → Nat
  | 0, x => if E x v = true then 1 else 0
  | k + 1, x => if farK n E v k x ≠ 0 then farK n E v k x else if ((List.range n).any fun y => E x y && decide (farK n E v k y = k + 1)) = true then k + 2 else 0
section
variable {n : Nat} {E : Edges} {v : Nat}
theorem farK_keep {k x : Nat} (h : farK n E v k x ≠ 0) : farK n E v (k + 1) x = farK n E v k x := by
  show (if _ then _ else _) = _
  rw [if_pos h]
theorem farK_more {k x : Nat} (h : farK n E v k x ≠ 0) : ∀ d, farK n E v (k + d) x = farK n E v k x
  | 0 => rfl
  | d + 1 => by
    have ih := farK_more h d
    rw [show k + (d + 1) = (k + d) + 1 by omega, farK_keep (by rw [ih]; exact h), ih]
theorem farK_le (k x : Nat) : farK n E v k x ≤ k + 1 := by
  induction k with
  | zero =>
    show (if _ then _ else _) ≤ _
    split <;> omega
  | succ k ih =>
    show (if _ then _ else _) ≤ _
    split
    · omega
    · split
      · exact Nat.le_refl _
      · exact Nat.zero_le _
theorem farK_at {k x j : Nat} (h : farK n E v k x = j + 1) : j ≤ k ∧ farK n E v j x = j + 1 := by
  induction k with
  | zero =>
    have := farK_le (n := n) (E := E) (v := v) 0 x
    obtain rfl : j = 0 := by omega
    exact ⟨Nat.le_refl _, h⟩
  | succ k ih =>
    by_cases h0 : farK n E v k x = 0
    · have h1 : farK n E v (k + 1) x = (if farK n E v k x ≠ 0 then farK n E v k x else if ((List.range n).any fun y => E x y && decide (farK n E v k y = k + 1)) = true then k + 2 else 0) := rfl
      rw [if_neg (by omega)] at h1
      split at h1
      · obtain rfl : j = k + 1 := by omega
        exact ⟨Nat.le_refl _, h⟩
      · omega
    · rw [farK_keep h0] at h
      obtain ⟨g1, g2⟩ := ih h
      exact ⟨by omega, g2⟩
theorem farK_next {k x : Nat} (h0 : farK n E v k x = 0) : farK n E v (k + 1) x = if ((List.range n).any fun y => E x y && decide (farK n E v k y = k + 1)) = true then k + 2 else 0 := by
  show (if _ then _ else _) = _
  rw [if_neg (by omega)]
theorem farK_down {k x j : Nat} (h : farK n E v k x = j + 2) : ∃ y, y < n ∧ E x y = true ∧ farK n E v k y = j + 1 := by
  obtain ⟨h1, h2⟩ := farK_at (j := j + 1) h
  have h0 : farK n E v j x = 0 := by
    refine Classical.byContradiction fun hne => ?_
    rw [farK_keep hne] at h2
    have := farK_le (n := n) (E := E) (v := v) j x
    omega
  rw [farK_next h0] at h2
  split at h2
  · rename_i hy
    rw [List.any_eq_true] at hy
    obtain ⟨y, hy, h3⟩ := hy
    rw [Bool.and_eq_true] at h3
    have h4 := of_decide_eq_true h3.2
    have := farK_more (n := n) (E := E) (v := v) (k := j) (x := y) (by omega) (k - j)
    rw [show j + (k - j) = k by omega] at this
    exact ⟨y, List.mem_range.1 hy, h3.1, by omega⟩
  · omega
theorem farK_chain {k : Nat} : ∀ (j x : Nat), x < n → farK n E v k x = j + 1 → ∃ l : List Nat, l.Nodup ∧ l.length = j + 1 ∧ ∀ y ∈ l, y < n ∧ farK n E v k y ≠ 0 ∧ farK n E v k y ≤ j + 1
  | 0, x, hx, h => ⟨[x], by simp, rfl, fun y hy => by rw [List.mem_singleton] at hy; subst hy; omega⟩
  | j + 1, x, hx, h => by
    obtain ⟨y, hy, _, h2⟩ := farK_down h
    obtain ⟨l, h3, h4, h5⟩ := farK_chain j y hy h2
    refine ⟨x :: l, List.nodup_cons.2 ⟨fun hm => ?_, h3⟩, by rw [List.length_cons, h4], fun z hz => ?_⟩
    · have := h5 x hm; omega
    · rw [List.mem_cons] at hz
      rcases hz with rfl | hz
      · omega
      · have := h5 z hz; omega
theorem farK_lev {k x : Nat} (hx : x < n) : farK n E v k x ≤ n := by
  cases h : farK n E v k x with
  | zero => omega
  | succ j =>
    obtain ⟨l, h1, h2, h3⟩ := farK_chain j x hx h
    have := sub_len l (List.range n) h1 fun y hy => List.mem_range.2 (h3 y hy).1
    simp at this
    omega
theorem farK_full {k x : Nat} (hx : x < n) (h : farK n E v k x = n) {y : Nat} (hy : y < n) : farK n E v k y ≠ 0 := by
  intro h0
  obtain ⟨j, rfl⟩ : ∃ j, n = j + 1 := ⟨n - 1, by omega⟩
  obtain ⟨l, h1, h2, h3⟩ := farK_chain j x hx h
  have := sub_len (y :: l) (List.range (j + 1)) (List.nodup_cons.2 ⟨fun hm => (h3 y hm).2.1 h0, h1⟩) fun z hz => by
    rw [List.mem_cons] at hz
    rw [List.mem_range]
    rcases hz with rfl | hz
    · exact hy
    · exact (h3 z hz).1
  simp at this
  omega
theorem farK_still {d x : Nat} (hx : x < n) : farK n E v (n - 1 + d) x = farK n E v (n - 1) x := by
  induction d with
  | zero => rfl
  | succ d ih =>
    rw [show n - 1 + (d + 1) = n - 1 + d + 1 by omega]
    by_cases h0 : farK n E v (n - 1 + d) x = 0
    · rw [farK_next h0]
      split
      · rename_i hy
        exfalso
        rw [List.any_eq_true] at hy
        obtain ⟨y, hy, h3⟩ := hy
        rw [Bool.and_eq_true] at h3
        have h4 := of_decide_eq_true h3.2
        have h5 := farK_lev (n := n) (E := E) (v := v) (k := n - 1 + d) (List.mem_range.1 hy)
        exact farK_full (List.mem_range.1 hy) (show farK n E v (n - 1 + d) y = n by omega) hx h0
      · omega
    · rw [farK_keep h0, ih]
theorem farK_end {k : Nat} (h : ∀ x y, x < n → y < n → farK n E v k y = k + 1 → E x y = false) (d : Nat) {x : Nat} (hx : x < n) : farK n E v (k + d) x = farK n E v k x := by
  induction d generalizing x with
  | zero => rfl
  | succ d ih =>
    rw [show k + (d + 1) = k + d + 1 by omega]
    by_cases h0 : farK n E v (k + d) x = 0
    · rw [farK_next h0]
      split
      · rename_i hy
        exfalso
        rw [List.any_eq_true] at hy
        obtain ⟨y, hy, h3⟩ := hy
        have hy := List.mem_range.1 hy
        rw [Bool.and_eq_true] at h3
        have h4 := of_decide_eq_true h3.2
        rw [ih hy] at h4
        have h5 := farK_le (n := n) (E := E) (v := v) k y
        obtain rfl : d = 0 := by omega
        rw [h x y hx hy (by omega)] at h3
        exact absurd h3.1 (by decide)
      · rw [← ih hx]; exact h0.symm
    · rw [farK_keep h0, ih hx]
end
def farE (n : Nat) (E : Edges) (v x : Nat) : Nat := farK n E v (n - 1) x
theorem farE_stop {n : Nat} {E : Edges} {v k : Nat} (h : ∀ x y, x < n → y < n → farK n E v k y = k + 1 → E x y = false) {x : Nat} (hx : x < n) : farK n E v k x = farE n E v x := by
  unfold farE
  by_cases hk : k ≤ n - 1
  · have := farK_end h (n - 1 - k) hx
    rw [show k + (n - 1 - k) = n - 1 by omega] at this
    exact this.symm
  · have := farK_still (n := n) (E := E) (v := v) (d := k - (n - 1)) hx
    rw [show n - 1 + (k - (n - 1)) = k by omega] at this
    exact this
def nearE (n : Nat) (E : Edges) (d : Nat → Nat) (x left : Nat) : Option Nat := (List.range n).find? fun y => E x y && decide (d y = left)
def pathF (n : Nat) (E : Edges) (d : Nat → Nat) (x : Nat) : Nat → List Nat
  | 0 => []
  | l + 1 => match nearE n E d x (l + 1) with
    | some y => y :: pathF n E d y l
    | none => []
def findL (n : Nat) (E : Edges) : List Nat := match (List.range n).find? fun v => farE n E v v != 0 with
  | none => []
  | some v => v :: pathF n E (farE n E v) v (farE n E v v - 1)
theorem nearE_some {n : Nat} {E : Edges} {v x l : Nat} (h : farE n E v x = l + 2) : ∃ y, nearE n E (farE n E v) x (l + 1) = some y ∧ y < n ∧ E x y = true ∧ farE n E v y = l + 1 := by
  obtain ⟨z, hz, he, h2⟩ := farK_down (n := n) (E := E) (v := v) h
  cases hf : nearE n E (farE n E v) x (l + 1) with
  | none =>
    unfold nearE at hf
    rw [List.find?_eq_none] at hf
    exact absurd (by rw [he, Bool.true_and]; exact decide_eq_true h2) (hf z (List.mem_range.2 hz))
  | some y =>
    have h1 := List.find?_some hf
    have h3 := List.mem_of_find?_eq_some hf
    rw [Bool.and_eq_true] at h1
    exact ⟨y, rfl, List.mem_range.1 h3, h1.1, of_decide_eq_true h1.2⟩
theorem pathF_step {n : Nat} {E : Edges} {d : Nat → Nat} {x y l : Nat} (h : nearE n E d x (l + 1) = some y) : pathF n E d x (l + 1) = y :: pathF n E d y l := by
  show (match nearE n E d x (l + 1) with | some y => y :: pathF n E d y l | none => []) = _
  rw [h]
theorem pathF_len {n : Nat} {E : Edges} {v : Nat} : ∀ (l x : Nat), farE n E v x = l + 1 → (pathF n E (farE n E v) x l).length = l
  | 0, x, _ => rfl
  | l + 1, x, h => by
    obtain ⟨y, h1, _, _, h4⟩ := nearE_some h
    rw [pathF_step h1, List.length_cons, pathF_len l y h4]
theorem findL_len {n : Nat} {E : Edges} : (findL n E).length ≤ n + 1 := by
  unfold findL
  cases hf : (List.range n).find? fun v => farE n E v v != 0 with
  | none => simp
  | some v =>
    have h1 := List.find?_some hf
    have hv := List.mem_range.1 (List.mem_of_find?_eq_some hf)
    have h0 : farE n E v v ≠ 0 := by simpa using h1
    have hle : farE n E v v ≤ n := farK_lev hv
    rw [List.length_cons, pathF_len (farE n E v v - 1) v (by omega)]
    omega
end Go.Inq

namespace Go.Inq

section
variable {H : List Txn} {l : List Cho} {x y : Nat}
end
def findC (H : List Txn) (level : Int) (l : List Cho) : List Int := (findL H.length (fullE H level l)).map fun (x : Nat) => (x : Int)
end Go.Inq

namespace Go.Inq

structure Nod where
  c : Cho
  cyc : List Int
deriving DecidableEq
def zeroC : Cho := ⟨0, 0, 0⟩
def zeroF : Fct := ⟨zeroC, 0, 0, 0, []⟩
def chosL (L : List Fct) : List Cho := L.map (·.c)
theorem chosL_len (L : List Fct) : (chosL L).length = L.length := List.length_map ..
theorem chosL_snoc (L : List Fct) (f : Fct) : chosL (L ++ [f]) = chosL L ++ [f.c] := by unfold chosL; rw [List.map_append]; rfl
theorem chosL_take (L : List Fct) (i : Nat) : chosL (L.take i) = (chosL L).take i := by unfold chosL; rw [List.map_take]
def replTo (H : List Txn) (level : Int) (L : List Fct) (n : Nat) : Bool := (List.range n).all fun i => holdsB H level (L.take i) (L.getD i zeroF)
def replB (H : List Txn) (level : Int) (L : List Fct) : Bool := replTo H level L L.length && mayB H level
theorem replTo_step (H : List Txn) (level : Int) (L : List Fct) (n : Nat) : replTo H level L (n + 1) = (replTo H level L n && holdsB H level (L.take n) (L.getD n zeroF)) := by
  unfold replTo
  rw [List.range_succ, List.all_append]; simp
theorem replTo_at {H : List Txn} {level : Int} {L : List Fct} {n i : Nat} (h : replTo H level L n = true) (hi : i < n) : holdsB H level (L.take i) (L.getD i zeroF) = true := by
  unfold replTo at h
  rw [List.all_eq_true] at h
  exact h i (List.mem_range.2 hi)
theorem replTo_no {H : List Txn} {level : Int} {L : List Fct} {n i : Nat} (h : holdsB H level (L.take i) (L.getD i zeroF) = false) (hi : i < n) : replTo H level L n = false := by
  unfold replTo
  rw [List.all_eq_false]
  exact ⟨i, List.mem_range.2 hi, by rw [h]; decide⟩
theorem getD_of {α : Type} {l : List α} {i : Nat} {d : α} (h : i < l.length) : l.getD i d = l[i] := by rw [List.getD_eq_getElem?_getD, List.getElem?_eq_getElem h]; rfl
theorem replB_at {H : List Txn} {level : Int} {L : List Fct} (h : replB H level L = true) {i : Nat} (hi : i < L.length) : holdsB H level (L.take i) L[i] = true := by
  unfold replB at h
  rw [Bool.and_eq_true] at h
  have := replTo_at h.1 hi
  rwa [getD_of hi] at this
theorem replB_may {H : List Txn} {level : Int} {L : List Fct} (h : replB H level L = true) : mayB H level = true := by
  unfold replB at h
  rw [Bool.and_eq_true] at h
  exact h.2
theorem may_iff {H : List Txn} {level : Int} : mayB H level = true ↔ rightH H = true ∧ (level = 0 ∨ level = 1) := by
  unfold mayB
  rw [Bool.and_eq_true, Bool.or_eq_true, decide_eq_true_eq, decide_eq_true_eq]
theorem replB_iff {H : List Txn} {level : Int} {L : List Fct} : replB H level L = true ↔ mayB H level = true ∧ ∀ i (hi : i < L.length), holdsB H level (L.take i) L[i] = true := by
  constructor
  · intro h
    exact ⟨replB_may h, fun i hi => replB_at h hi⟩
  · rintro ⟨h1, h2⟩
    unfold replB replTo
    rw [h1, Bool.and_true, List.all_eq_true]
    intro i hi
    have hi := List.mem_range.1 hi
    rw [getD_of hi]
    exact h2 i hi
theorem replB_take {H : List Txn} {level : Int} {L : List Fct} (h : replB H level L = true) (n : Nat) : replB H level (L.take n) = true := by
  rw [replB_iff] at h ⊢
  refine ⟨h.1, fun i hi => ?_⟩
  rw [List.length_take] at hi
  rw [List.take_take, Nat.min_eq_left (by omega), List.getElem_take]
  exact h.2 i (by omega)
theorem replB_snoc {H : List Txn} {level : Int} {L : List Fct} {f : Fct} : replB H level (L ++ [f]) = (replB H level L && holdsB H level L f) := by
  rw [Bool.eq_iff_iff, Bool.and_eq_true]
  constructor
  · intro h
    have h1 := replB_take h L.length
    rw [List.take_left] at h1
    have h2 := replB_at h (i := L.length) (by simp)
    rw [List.take_left] at h2
    simp at h2
    exact ⟨h1, h2⟩
  · rintro ⟨h1, h2⟩
    rw [replB_iff] at h1 ⊢
    refine ⟨h1.1, fun i hi => ?_⟩
    rw [List.length_append, List.length_singleton] at hi
    by_cases hl : i < L.length
    · rw [List.take_append_of_le_length (by omega), List.getElem_append_left hl]
      exact h1.2 i hl
    · obtain rfl : i = L.length := by omega
      rw [List.take_left]
      simpa using h2
theorem holds_one {H : List Txn} {level : Int} {L : List Fct} {f : Fct} (h : holdsB H level L f = true) : oneB H f.c = true := by
  unfold holdsB at h
  simp only [Bool.and_eq_true] at h
  exact h.1.1.2
theorem repl_one {H : List Txn} {level : Int} {L : List Fct} (h : replB H level L = true) : ∀ c ∈ chosL L, oneB H c = true := fun c hc => by
  unfold chosL at hc
  obtain ⟨f, hf, rfl⟩ := List.mem_map.1 hc
  obtain ⟨i, hi, rfl⟩ := List.getElem_of_mem hf
  exact holds_one (replB_at h hi)
def leafU (H : List Txn) (level : Int) (L : List Fct) (i : Nat) : Nod := ⟨zeroC, findC H level (chosL (L.take i) ++ [turnB (L.getD i zeroF).c])⟩
def underL (H : List Txn) (level : Int) (L : List Fct) (tree : List Nod) : List Nod :=
  L.map (fun f => ⟨f.c, []⟩) ++ tree ++ (List.range L.length).map fun k => leafU H level L (L.length - 1 - k)
def openO (H : List Txn) (l : List Cho) : Option Cho := (pairsL H).find? fun p => !l.contains p && !l.contains (turnB p)
structure Say where
  said : Int
  order : List Nat
  tree : List Nod
  facts : List Fct
deriving DecidableEq
def stuckS : Say := ⟨3, [], [], []⟩
def goesS : Say := ⟨0, [], [], []⟩
def joinC (c : Cho) (x : Nat × Nat) : Fct := ⟨c, 2, (x.1 : Int), (x.2 : Int), []⟩
def twoL (n : Nat) : List (Nat × Nat) := ((List.range n).map fun i => (List.range n).map fun j => (i, j)).flatten
def joinF (H : List Txn) (level : Int) (L : List Fct) (c : Cho) : Option Fct := ((twoL L.length).map (joinC c)).find? (holdsB H level L)
end Go.Inq

namespace Go.Proofs.YtjomijnbnbideaaGreatDoor
open Go.RowKit Go.Inq
set_option maxHeartbeats 1000000

def FctR (w : World) (K : Nat → Prop) (cs : List Value) (f : Fct) : Prop := ∃ A c, cs = [.int .i64 f.c.key, .int .i64 f.c.a, .int .i64 f.c.b, .int .i64 f.kind, .int .i64 f.i, .int .i64 f.j, .slice A f.cyc.length c] ∧ IntS w K (.slice A f.cyc.length c) f.cyc
theorem FctR.stab : Stab FctR := fun _ _ _ _ _ _ h ha hk => by
  obtain ⟨A, c, h1, h2⟩ := h
  exact ⟨A, c, h1, IntS.keep h2 ha hk⟩
def FctS (w : World) (K : Nat → Prop) (v : Value) (l : List Fct) : Prop := SlR 7 FctR w K v l
section
variable {w w' : World} {K K' : Nat → Prop} {v : Value} {l : List Fct}
theorem FctS.keep (h : FctS w K v l) (ha : Agree K w w') (hk : ∀ b, K b → K' b) : FctS w' K' v l := SlR.keep FctR.stab h ha hk
theorem FctS.below (h : FctS w (Old w) v l) (hb : Below w.heap.size w w') : FctS w' (Old w') v l := SlR.below FctR.stab h hb
theorem FctS.fit (h : FctS w K v l) (hk : ∀ b, K b → K' b) : FctS w K' v l := SlR.fit FctR.stab h hk
theorem FctS.nil (w : World) (K : Nat → Prop) (A : Option Addr) (c : Nat) : FctS w K (.slice A 0 c) [] := SlR.nil _ _ _ _ _ _
theorem FctS.take {A : Option Addr} {n c : Nat} (h : FctS w K (.slice A n c) l) {k : Nat} (hk : k ≤ l.length) : FctS w K (.slice A k c) (l.take k) := SlR.take h hk
theorem FctS.cap {A : Option Addr} {n c : Nat} (h : FctS w K (.slice A n c) l) : l.length ≤ c := by
  obtain ⟨_, _, e, h1⟩ := SlR.len h
  simp only [Value.slice.injEq] at e
  omega
structure FctAt (w : World) (K : Nat → Prop) (b o : Nat) (f : Fct) (Ay : Option Addr) (cy : Nat) : Prop where
  d0 : w.cell? ⟨b, o, none⟩ = some (.int .i64 f.c.key)
  d1 : w.cell? ⟨b, o + 1, none⟩ = some (.int .i64 f.c.a)
  d2 : w.cell? ⟨b, o + 2, none⟩ = some (.int .i64 f.c.b)
  d3 : w.cell? ⟨b, o + 3, none⟩ = some (.int .i64 f.kind)
  d4 : w.cell? ⟨b, o + 4, none⟩ = some (.int .i64 f.i)
  d5 : w.cell? ⟨b, o + 5, none⟩ = some (.int .i64 f.j)
  d6 : w.cell? ⟨b, o + 6, none⟩ = some (.slice Ay f.cyc.length cy)
  cyc : IntS w K (.slice Ay f.cyc.length cy) f.cyc
theorem FctS.at_ {A : Option Addr} {n c : Nat} (h : FctS w K (.slice A n c) l) {i : Nat} (hi : i < l.length) : ∃ b off Ay cy, A = some ⟨b, off, none⟩ ∧ K b ∧ FctAt w K b (off + i * 7) l[i] Ay cy := by
  obtain ⟨b, off, cs, hA, hK, -, ⟨Ay, cy, rfl, hy⟩, hc⟩ := SlR.at_ h hi
  exact ⟨b, off, Ay, cy, hA, hK, hc 0 _ rfl, hc 1 _ rfl, hc 2 _ rfl, hc 3 _ rfl, hc 4 _ rfl, hc 5 _ rfl, hc 6 _ rfl, hy⟩
end
def NodR (w : World) (K : Nat → Prop) (cs : List Value) (n : Nod) : Prop := ∃ A c, cs = [.int .i64 n.c.key, .int .i64 n.c.a, .int .i64 n.c.b, .slice A n.cyc.length c] ∧ IntS w K (.slice A n.cyc.length c) n.cyc
theorem NodR.stab : Stab NodR := fun _ _ _ _ _ _ h ha hk => by
  obtain ⟨A, c, h1, h2⟩ := h
  exact ⟨A, c, h1, IntS.keep h2 ha hk⟩
def NodS (w : World) (K : Nat → Prop) (v : Value) (l : List Nod) : Prop := SlR 4 NodR w K v l
section
variable {w w' : World} {K K' : Nat → Prop} {v : Value} {l : List Nod}
theorem NodS.keep (h : NodS w K v l) (ha : Agree K w w') (hk : ∀ b, K b → K' b) : NodS w' K' v l := SlR.keep NodR.stab h ha hk
theorem NodS.below (h : NodS w (Old w) v l) (hb : Below w.heap.size w w') : NodS w' (Old w') v l := SlR.below NodR.stab h hb
theorem NodS.fit (h : NodS w K v l) (hk : ∀ b, K b → K' b) : NodS w K' v l := SlR.fit NodR.stab h hk
theorem NodS.nil (w : World) (K : Nat → Prop) (A : Option Addr) (c : Nat) : NodS w K (.slice A 0 c) [] := SlR.nil _ _ _ _ _ _
theorem NodS.cap {A : Option Addr} {n c : Nat} (h : NodS w K (.slice A n c) l) : l.length ≤ c := by
  obtain ⟨_, _, e, h1⟩ := SlR.len h
  simp only [Value.slice.injEq] at e
  omega
structure NodAt (w : World) (K : Nat → Prop) (b o : Nat) (n : Nod) (Ay : Option Addr) (cy : Nat) : Prop where
  d0 : w.cell? ⟨b, o, none⟩ = some (.int .i64 n.c.key)
  d1 : w.cell? ⟨b, o + 1, none⟩ = some (.int .i64 n.c.a)
  d2 : w.cell? ⟨b, o + 2, none⟩ = some (.int .i64 n.c.b)
  d3 : w.cell? ⟨b, o + 3, none⟩ = some (.slice Ay n.cyc.length cy)
  cyc : IntS w K (.slice Ay n.cyc.length cy) n.cyc
theorem NodS.at_ {A : Option Addr} {n c : Nat} (h : NodS w K (.slice A n c) l) {i : Nat} (hi : i < l.length) : ∃ b off Ay cy, A = some ⟨b, off, none⟩ ∧ K b ∧ NodAt w K b (off + i * 4) l[i] Ay cy := by
  obtain ⟨b, off, cs, hA, hK, -, ⟨Ay, cy, rfl, hy⟩, hc⟩ := SlR.at_ h hi
  exact ⟨b, off, Ay, cy, hA, hK, hc 0 _ rfl, hc 1 _ rfl, hc 2 _ rfl, hc 3 _ rfl, hy⟩
end
def FitF (L : List Fct) : Prop := L.length ≤ 1000000 ∧ ∀ f ∈ L, f.cyc.length ≤ 1000000
def FitN (l : List Nod) : Prop := l.length ≤ 100000000 ∧ ∀ n ∈ l, n.cyc.length ≤ 1000000
end Go.Proofs.YtjomijnbnbideaaGreatDoor

namespace Go.Inq

def bitN (i : Int) : Nat := if 0 ≤ i ∧ i < 64 then 2 ^ i.toNat else 0
theorem bitN_in {i : Int} (h0 : 0 ≤ i) (h : i < 64) : bitN i = 2 ^ i.toNat := by unfold bitN; rw [if_pos ⟨h0, h⟩]
theorem bitN_low {i : Int} (h : i < 0) : bitN i = 0 := by unfold bitN; rw [if_neg (by omega)]
theorem bitN_high {i : Int} (h : 64 ≤ i) : bitN i = 0 := by unfold bitN; rw [if_neg (by omega)]
theorem bitN_lt (i : Int) : bitN i < 18446744073709551616 := by
  unfold bitN
  split
  · rename_i h
    exact Nat.lt_of_lt_of_le (Nat.pow_lt_pow_right (by decide) (show i.toNat < 64 by omega)) (by decide)
  · decide
def hasB (s : Nat) (i : Int) : Bool := decide (0 ≤ i) && s.testBit i.toNat
theorem hasB_nat (s i : Nat) : hasB s (i : Int) = s.testBit i := by unfold hasB; simp
theorem and_bitN {s : Nat} (hs : s < 18446744073709551616) (i : Int) : decide (s &&& bitN i = 0) = !hasB s i := by
  unfold hasB bitN
  by_cases h0 : 0 ≤ i
  · by_cases h : i < 64
    · rw [if_pos ⟨h0, h⟩, Bool.eq_iff_iff, decide_eq_true_iff, and_one]; simp [h0]
    · rw [if_neg (by omega)]
      have : s.testBit i.toNat = false := Nat.testBit_lt_two_pow (Nat.lt_of_lt_of_le (show s < 2 ^ 64 from hs) (Nat.pow_le_pow_right (by decide) (by omega)))
      simp [this]
  · rw [if_neg (by omega)]; simp [h0]
def withB (s : Nat) (i : Int) : Nat := s ||| bitN i
theorem withB_bit (s : Nat) {i : Nat} (hi : i < 64) (j : Nat) : (withB s (i : Int)).testBit j = (s.testBit j || decide (i = j)) := by
  unfold withB
  rw [bitN_in (by omega) (by omega), Int.toNat_natCast]
  exact one_or s i j
def joinL (l : List Nat) : Nat := l.foldl (· ||| ·) 0
theorem foldl_or_bit (l : List Nat) : ∀ (a i : Nat), (l.foldl (· ||| ·) a).testBit i = (a.testBit i || l.any fun x => x.testBit i) := by
  induction l with
  | nil => intro a i; simp
  | cons x r ih => intro a i; rw [List.foldl_cons, ih, Nat.testBit_or, List.any_cons, Bool.or_assoc]
theorem joinL_bit (l : List Nat) (i : Nat) : (joinL l).testBit i = l.any fun x => x.testBit i := by
  unfold joinL; rw [foldl_or_bit]; simp
theorem joinL_lt {l : List Nat} {n : Nat} (h : ∀ x ∈ l, x < 2 ^ n) : joinL l < 2 ^ n := by
  refine Nat.lt_pow_two_of_testBit _ (fun i hi => ?_)
  rw [joinL_bit, List.any_eq_false]
  intro x hx
  rw [Nat.testBit_lt_two_pow (Nat.lt_of_lt_of_le (h x hx) (Nat.pow_le_pow_right (by decide) hi))]
  simp
theorem joinL_take {l : List Nat} {k : Nat} (h : k < l.length) : joinL (l.take (k + 1)) = joinL (l.take k) ||| l[k] := by
  unfold joinL
  rw [List.take_succ_eq_append_getElem h, List.foldl_append]; rfl
def subB (a b : Nat) : Bool := decide (a &&& (18446744073709551615 - b) = 0)
theorem subB_iff {a b : Nat} (ha : a < 18446744073709551616) (hb : b < 18446744073709551616) : subB a b = true ↔ ∀ i, a.testBit i = true → b.testBit i = true := by
  unfold subB
  rw [decide_eq_true_iff]
  have hc : ∀ i, (18446744073709551615 - b).testBit i = (decide (i < 64) && !b.testBit i) := by
    intro i
    have := Nat.testBit_two_pow_sub_succ (n := 64) (x := b) hb i
    rw [show 2 ^ 64 - (b + 1) = 18446744073709551615 - b by omega] at this
    exact this
  constructor
  · intro h i hi
    have hi64 : i < 64 := by
      rcases Nat.lt_or_ge i 64 with h | h
      · exact h
      · rw [Nat.testBit_lt_two_pow (Nat.lt_of_lt_of_le (show a < 2 ^ 64 from ha) (Nat.pow_le_pow_right (by decide) h))] at hi; cases hi
    have := congrArg (fun y => y.testBit i) h
    simp only [Nat.testBit_and, hc, hi, decide_eq_true hi64, Nat.zero_testBit, Bool.true_and] at this
    simpa using this
  · intro h
    refine Nat.eq_of_testBit_eq (fun i => ?_)
    rw [Nat.testBit_and, hc, Nat.zero_testBit]
    by_cases hi : a.testBit i = true
    · rw [h i hi]; simp
    · simp [hi]
theorem pow_le_64 {n : Nat} (h : n ≤ 64) : 2 ^ n ≤ 18446744073709551616 := Nat.le_trans (Nat.pow_le_pow_right (by decide) h) (by decide)
theorem sub_nodes {l : List Nat} {n : Nat} (hn : n ≤ 64) (h : ∀ x ∈ l, x < 2 ^ n) : subB (joinL l) (2 ^ n - 1) = true := by
  have hp := pow_le_64 hn
  have hj := joinL_lt h
  rw [subB_iff (by omega) (by have := Nat.two_pow_pos n; omega)]
  intro i hi
  rw [Nat.testBit_two_pow_sub_one]
  refine decide_eq_true ?_
  rcases Nat.lt_or_ge i n with h | h
  · exact h
  · rw [Nat.testBit_lt_two_pow (Nat.lt_of_lt_of_le hj (Nat.pow_le_pow_right (by decide) h))] at hi; cases hi

theorem listB_setB {p : Nat → Bool} {n : Nat} (hn : n ≤ 64) : listB (setB p n) = (List.range n).filter p := by
  unfold listB
  obtain ⟨m, hm⟩ := Nat.le.dest hn
  rw [← hm, List.range_add, List.filter_append]
  have h1 : (List.range n).filter (fun i => (setB p n).testBit i) = (List.range n).filter p := List.filter_congr fun i hi => by
    have : i < n := by simpa using hi
    rw [testBit_setB]; simp [this]
  have h2 : ((List.range m).map (n + ·)).filter (fun i => (setB p n).testBit i) = [] := by
    rw [List.filter_eq_nil_iff]
    intro i hi
    obtain ⟨k, _, rfl⟩ := List.mem_map.1 hi
    rw [testBit_setB]; simp; intro h; omega
  rw [h1, h2, List.append_nil]

def oneE (a b : Nat) : Edges := fun x y => decide (x = a) && decide (y = b)
def noE : Edges := fun _ _ => false
theorem rowsG_no (n : Nat) : rowsG n noE = List.replicate n 0 := by
  refine List.ext_getElem (by simp [rowsG_length]) fun a h1 h2 => ?_
  have ha : a < n := by rw [rowsG_length] at h1; exact h1
  rw [rowsG_at ha, List.getElem_replicate]
  refine Nat.eq_of_testBit_eq (fun i => ?_)
  rw [testBit_setB]; simp [noE]
theorem setB_with {p : Nat → Bool} {n b : Nat} (hb : b < n) (hn : n ≤ 64) : withB (setB p n) (b : Int) = setB (fun y => p y || decide (y = b)) n := by
  refine setB_eq ?_ (fun i hi => ?_)
  · refine Nat.lt_pow_two_of_testBit _ (fun i hi => ?_)
    rw [withB_bit _ (by omega), testBit_setB]
    simp; omega
  · rw [withB_bit _ (by omega), testBit_setB]
    have : decide (b = i) = decide (i = b) := by simp [eq_comm]
    simp [hi, this]
theorem rowsG_add {n : Nat} {E : Edges} {a b : Nat} (ha : a < n) (hb : b < n) (hn : n ≤ 64) : (rowsG n E).set a (withB ((rowsG n E)[a]'(by rw [rowsG_length]; exact ha)) (b : Int)) = rowsG n (orE E (oneE a b)) := by
  generalize e2 : (rowsG n E)[a]'(by rw [rowsG_length]; exact ha) = v
  rw [rowsG_at ha] at e2
  subst e2
  refine List.ext_getElem (by simp [rowsG_length]) fun x h1 h2 => ?_
  have hx : x < n := by rw [rowsG_length] at h2; exact h2
  have e1 : (rowsG n (orE E (oneE a b)))[x]'h2 = setB (orE E (oneE a b) x) n := rowsG_at hx
  have e3 : (rowsG n E)[x]'(by rw [rowsG_length]; exact hx) = setB (E x) n := rowsG_at hx
  rw [List.getElem_set, e1]
  split
  · rename_i e
    subst e
    rw [setB_with hb hn]
    exact setB_congr fun y hy => by simp [orE, oneE]
  · rename_i e
    rw [e3]
    exact setB_congr fun y hy => by
      have : decide (x = a) = false := by simp; omega
      simp [orE, oneE, this]
theorem joinL_two (a b : Nat) : joinL [a, b] = a ||| b := by unfold joinL; simp
theorem setB_or {p q : Nat → Bool} {n : Nat} : setB p n ||| setB q n = setB (fun y => p y || q y) n := by
  refine setB_eq (Nat.or_lt_two_pow (setB_lt _ _) (setB_lt _ _)) (fun i hi => ?_)
  rw [Nat.testBit_or, testBit_setB, testBit_setB]; simp [hi]
def edgesG (n : Nat) (E : Edges) : List (Nat × Nat) := ((List.range n).map fun a => ((List.range n).filter (E a)).map fun b => (a, b)).flatten
theorem edgesG_mem {n : Nat} {E : Edges} {a b : Nat} : (a, b) ∈ edgesG n E ↔ a < n ∧ b < n ∧ E a b = true := by
  unfold edgesG
  rw [List.mem_flatten]
  constructor
  · rintro ⟨l, hl, h⟩
    obtain ⟨x, hx, rfl⟩ := List.mem_map.1 hl
    obtain ⟨y, hy, e⟩ := List.mem_map.1 h
    injection e with e1 e2
    subst e1 e2
    rw [List.mem_filter] at hy
    exact ⟨by simpa using hx, by simpa using hy.1, hy.2⟩
  · rintro ⟨ha, hb, he⟩
    exact ⟨_, List.mem_map.2 ⟨a, by simpa using ha, rfl⟩, List.mem_map.2 ⟨b, List.mem_filter.2 ⟨by simpa using hb, he⟩, rfl⟩⟩
def ofL (l : List (Nat × Nat)) : Edges := fun a b => l.contains (a, b)
theorem ofL_snoc (l : List (Nat × Nat)) (a b : Nat) : ofL (l ++ [(a, b)]) = orE (ofL l) (oneE a b) := by
  funext x y
  unfold ofL orE oneE
  rw [Bool.eq_iff_iff]
  simp
end Go.Inq

namespace Go.Inq
open Go Go.RowKit

def encU (n : Nat) : List Value := [.int .u64 n]
def U64S (w : World) (K : Nat → Prop) (v : Value) (l : List Nat) : Prop := SlR 1 (Flat encU) w K v l
section
variable {w w' : World} {K K' : Nat → Prop} {v : Value} {l : List Nat}
theorem U64S.keep (h : U64S w K v l) (ha : Agree K w w') (hk : ∀ b, K b → K' b) : U64S w' K' v l := SlR.keep (Flat.stab _) h ha hk
theorem U64S.below (h : U64S w (Old w) v l) (hb : Below w.heap.size w w') : U64S w' (Old w') v l := SlR.below (Flat.stab _) h hb
theorem U64S.fit (h : U64S w K v l) (hk : ∀ b, K b → K' b) : U64S w K' v l := SlR.fit (Flat.stab _) h hk
theorem U64S.at_ {A : Option Addr} {n c : Nat} (h : U64S w K (.slice A n c) l) {i : Nat} (hi : i < l.length) : ∃ b off, A = some ⟨b, off, none⟩ ∧ K b ∧ w.cell? ⟨b, off + i, none⟩ = some (.int .u64 (l[i] : Nat)) := by
  obtain ⟨b, off, cs, hA, hK, _, hR, hc⟩ := SlR.at_ h hi
  unfold Flat at hR
  subst hR
  have := hc 0 _ rfl
  rw [Nat.mul_one, Nat.add_zero] at this
  exact ⟨b, off, hA, hK, this⟩
theorem U64S.cells {b off n c : Nat} (h : U64S w K (.slice (some ⟨b, off, none⟩) n c) l) {i : Nat} (hi : i < l.length) : K b ∧ w.cell? ⟨b, off + i, none⟩ = some (.int .u64 (l[i] : Nat)) := by
  obtain ⟨cs, hK, _, hR, hc⟩ := SlR.cells h hi
  unfold Flat at hR
  subst hR
  have := hc 0 _ rfl
  rw [Nat.mul_one, Nat.add_zero] at this
  exact ⟨hK, this⟩
theorem U64S.nil (w : World) (K : Nat → Prop) (A : Option Addr) (c : Nat) : U64S w K (.slice A 0 c) [] := SlR.nil _ _ _ _ _ _
theorem U64S.of_blk {g : Nat} {t : TypeId} (h : Blk w g t (l.map fun x : Nat => Value.int .u64 x).toArray) (hK : K g) : U64S w K (.slice (some ⟨g, 0, none⟩) l.length l.length) l := by
  refine ⟨some ⟨g, 0, none⟩, l.length, l.map encU, rfl, Nat.le_refl _, by simp, fun i cs x h1 h2 => ?_, fun _ => ⟨g, 0, rfl, hK, fun i j cs u h1 h2 => ?_⟩⟩
  · rw [List.getElem?_map, h2] at h1
    injection h1 with h1
    exact ⟨by rw [← h1]; rfl, h1.symm⟩
  · rw [List.getElem?_map] at h1
    cases hl : l[i]? with
    | none => rw [hl] at h1; cases h1
    | some x =>
      rw [hl] at h1
      injection h1 with h1
      subst h1
      cases j with
      | zero =>
        injection h2 with h2
        rw [Nat.zero_add, Nat.mul_one, Nat.add_zero, h.cell, gA, List.getElem?_map, hl, ← h2]
        rfl
      | succ j => simp [encU] at h2
end

structure GrS (w : World) (K : Nat → Prop) (n : Nat) (A : Option Addr) (c : Nat) (E : Edges) : Prop where
  sl : U64S w K (.slice A n c) (rowsG n E)
  n64 : n ≤ 64
def rowsB (n : Nat) (E : Edges) : Array Value := ((rowsG n E).map fun x : Nat => Value.int .u64 x).toArray
theorem rowsB_at {n : Nat} {E : Edges} {a : Nat} (h : a < n) : (rowsB n E)[a]? = some (.int .u64 (setB (E a) n : Nat)) := by
  unfold rowsB
  rw [gA, List.getElem?_map, List.getElem?_eq_getElem (by rw [rowsG_length]; exact h), rowsG_at h]; rfl
theorem rowsB_add {n : Nat} {E : Edges} {a b : Nat} (ha : a < n) (hb : b < n) (hn : n ≤ 64) : (rowsB n E).setIfInBounds a (.int .u64 (withB (setB (E a) n) (b : Int) : Nat)) = rowsB n (orE E (oneE a b)) := by
  unfold rowsB
  rw [← rowsG_add ha hb hn, sA, List.map_set, rowsG_at ha]
theorem rowsB_set {n : Nat} {E : Edges} {a x : Nat} {p : Nat → Bool} (ha : a < n) (hx : x = setB p n) : (rowsB n E).setIfInBounds a (.int .u64 (x : Nat)) = rowsB n (fun i => if i = a then p else E i) := by
  unfold rowsB
  rw [sA]
  congr 1
  refine List.ext_getElem (by simp [rowsG_length]) fun i h1 h2 => ?_
  have hi : i < n := by simpa [rowsG_length] using h2
  rw [List.getElem_set, List.getElem_map, List.getElem_map, rowsG_at hi, rowsG_at hi]
  by_cases e : a = i
  · subst e; rw [if_pos rfl, if_pos rfl, hx]
  · rw [if_neg e, if_neg (fun h => e h.symm)]
theorem rowsB_no (n : Nat) : rowsB n noE = madeCells #[.int .u64 0] n := by
  unfold rowsB
  rw [rowsG_no]
  refine Array.ext (by simp [size_madeCells]) fun i h1 h2 => ?_
  simp [madeCells, Nat.mod_one]
theorem rowsB_congr {n : Nat} {E F : Edges} (h : ∀ a b, a < n → b < n → E a b = F a b) : rowsB n E = rowsB n F := by unfold rowsB; rw [rowsG_congr h]
section
variable {w w' : World} {K K' : Nat → Prop} {n c : Nat} {A : Option Addr} {E F : Edges}
theorem GrS.keep (h : GrS w K n A c E) (ha : Agree K w w') (hk : ∀ b, K b → K' b) : GrS w' K' n A c E := ⟨h.sl.keep ha hk, h.n64⟩
theorem GrS.below (h : GrS w (Old w) n A c E) (hb : Below w.heap.size w w') : GrS w' (Old w') n A c E := ⟨h.sl.below hb, h.n64⟩
theorem GrS.fit (h : GrS w K n A c E) (hk : ∀ b, K b → K' b) : GrS w K' n A c E := ⟨h.sl.fit hk, h.n64⟩
theorem GrS.at_ (h : GrS w K n A c E) {i : Nat} (hi : i < n) : ∃ b off, A = some ⟨b, off, none⟩ ∧ K b ∧ w.cell? ⟨b, off + i, none⟩ = some (.int .u64 (setB (E i) n : Nat)) := by
  obtain ⟨b, off, hA, hK, hc⟩ := h.sl.at_ (i := i) (by rw [rowsG_length]; exact hi)
  rw [rowsG_at hi] at hc
  exact ⟨b, off, hA, hK, hc⟩
theorem GrS.cells {b off : Nat} (h : GrS w K n (some ⟨b, off, none⟩) c E) {i : Nat} (hi : i < n) : K b ∧ w.cell? ⟨b, off + i, none⟩ = some (.int .u64 (setB (E i) n : Nat)) := by
  obtain ⟨b', off', hA, hK, hc⟩ := h.at_ hi
  injection hA with hA; injection hA with h1 h2; subst h1 h2
  exact ⟨hK, hc⟩
theorem GrS.of_blk {g : Nat} {t : TypeId} (h : Blk w g t (rowsB n E)) (hK : K g) (hn : n ≤ 64) : GrS w K n (some ⟨g, 0, none⟩) n E := by
  have := U64S.of_blk (l := rowsG n E) h hK
  rw [rowsG_length] at this
  exact ⟨this, hn⟩
theorem GrS.congr (h : GrS w K n A c E) (hE : ∀ a b, a < n → b < n → E a b = F a b) : GrS w K n A c F := ⟨by rw [← rowsG_congr hE]; exact h.sl, h.n64⟩
theorem GrS.zero (w : World) (K : Nat → Prop) (A : Option Addr) (c : Nat) (E : Edges) : GrS w K 0 A c E := ⟨by simpa [rowsG] using U64S.nil w K A c, by omega⟩
end
theorem setB_64 {p : Nat → Bool} {n : Nat} (h : n ≤ 64) : setB p n < 18446744073709551616 := Nat.lt_of_lt_of_le (setB_lt p n) (pow_le_64 h)
def NewG (t : TypeId) (w : World) (n : Nat) (E : Edges) (e : Ending) (w' : World) : Prop :=
  ∃ g, w.heap.size ≤ g ∧ e = .returned (.tuple #[.agg #[.int .i64 n, .slice (some ⟨g, 0, none⟩) n n], .int .i64 0]) ∧ Blk w' g t (rowsB n E) ∧ Below w.heap.size w w'
theorem NewG.congr {t : TypeId} {w w' : World} {n : Nat} {E F : Edges} {e : Ending} (h : NewG t w n E e w') (hE : ∀ a b, a < n → b < n → E a b = F a b) : NewG t w n F e w' := by
  unfold NewG at h ⊢
  rw [← rowsB_congr hE]; exact h
end Go.Inq

namespace Go.Proofs.YtjomijnbnbideaaGreatDoor
open Go.RowKit Go.Inq
set_option maxHeartbeats 1000000
attribute [local go_sem ↓] Go.wp_at_zero Go.wp_at_succ

theorem bit_any (i : Int) (w : World) : Calls Tryz.prog 151 #[.int .i64 i] w fun e w' => e = .returned (.int .u64 (bitN i : Nat)) ∧ w = w' := by
  by_cases h0 : i < 0
  · have hr := hide (bitN_low h0)
    have h0b : decide (i < 0) = true := by simpa using h0
    clear h0
    go_enter Tryz.func151, Tryz.ntmps151
    go_wp2
    go_ret
    exact ⟨by rw [hr.out]; rfl, rfl⟩
  · by_cases h1 : 64 ≤ i
    · have hr := hide (bitN_high h1)
      have h0b : decide (i < 0) = false := by simpa using h0
      have h1b : decide (i ≥ 64) = true := by simpa using h1
      clear h0 h1
      go_enter Tryz.func151, Tryz.ntmps151
      go_wp2
      go_ret
      exact ⟨by rw [hr.out]; rfl, rfl⟩
    · have hr := hide (bitN_in (i := i) (by omega) (by omega))
      have hlt := hide (bitN_lt i)
      have h0b : decide (i < 0) = false := by simpa using h0
      have h1b : decide (i ≥ 64) = false := by simpa using h1
      have h2 : 0 ≤ i := by omega
      have h3 : i ≤ 64 := by omega
      clear h0 h1
      go_enter Tryz.func151, Tryz.ntmps151
      go_wp2
      go_ret
      refine ⟨ret_int ?_, rfl⟩
      have e1 := hr.out
      have e2 := hlt.out
      rw [e1] at e2
      have e3 : min i.toNat IntKind.u64.bits = i.toNat := by simp [IntKind.bits]; omega
      try rw [e3]
      rw [IntKind.wrap_u64, e1]
      have e4 : ((2 : Int) ^ i.toNat) = ((2 ^ i.toNat : Nat) : Int) := by simp
      omega
theorem has10_any (s : Nat) (hs : s < 18446744073709551616) (i : Int) (w : World) : Calls Tryz.prog 85 #[.int .u64 s, .int .i64 i] w fun e w' => e = .returned (.bool (Go.Inq.hasB s i)) ∧ w = w' := by
  have h1 := u64_and_nat s (bitN i) hs (bitN_lt i)
  have hr := hide (and_bitN hs i)
  go_enter Tryz.func85, Tryz.ntmps85
  go_wp2_with fail
  refine (bit_any i _).mono ?_
  rintro e w1 ⟨rfl, rfl⟩
  go_wp2
  go_ret
  refine ⟨ret_bool ?_, rfl⟩
  have := hr.out
  rw [← Bool.not_not (Go.Inq.hasB s i), ← this, Bool.eq_iff_iff]
  simp
theorem with10_any (s : Nat) (hs : s < 18446744073709551616) (i : Int) (w : World) : Calls Tryz.prog 117 #[.int .u64 s, .int .i64 i] w fun e w' => e = .returned (.int .u64 (withB s i : Nat)) ∧ w = w' := by
  have h1 := u64_or_nat s (bitN i) hs (bitN_lt i)
  go_enter Tryz.func117, Tryz.ntmps117
  go_wp2_with fail
  refine (bit_any i _).mono ?_
  rintro e w1 ⟨rfl, rfl⟩
  go_wp2
  go_ret
  exact ⟨rfl, rfl⟩
theorem sub10_any (a b : Nat) (ha : a < 18446744073709551616) (hb : b < 18446744073709551616) (w : World) : Calls Tryz.prog 116 #[.int .u64 a, .int .u64 b] w fun e w' => e = .returned (.bool (subB a b)) ∧ w = w' := by
  have h1 := u64_andNot_nat a b ha hb
  go_enter Tryz.func116, Tryz.ntmps116
  go_wp2
  go_ret
  refine ⟨ret_bool ?_, rfl⟩
  unfold subB
  rw [Bool.eq_iff_iff]
  simp
theorem join10_any (A : Option Addr) (n c : Nat) (l : List Nat) (K : Nat → Prop) (w : World) (hn : l.length = n) (h : U64S w K (.slice A n c) l) (h64 : ∀ x ∈ l, x < 18446744073709551616) (hm : n ≤ 1000000) :
    Calls Tryz.prog 149 #[.slice A n c] w fun e w' => e = .returned (.int .u64 (joinL l : Nat)) ∧ w = w' := by
  replace hn := hide hn
  have hj : ∀ k, joinL (l.take k) < 18446744073709551616 := fun k => joinL_lt (n := 64) fun x hx => h64 x (List.mem_of_mem_take hx)
  replace hj := hide hj
  replace h64 := hide h64
  go_enter Tryz.func149, Tryz.ntmps149
  go_wp2_with fail
  go_loop [3, 8] (fun s3 s8 => ∃ k : Nat, k ≤ n ∧ s8 = .int .i64 k ∧ s3 = .int .u64 (joinL (l.take k) : Nat)) (fun _ s8 => n - (intOf s8).toNat)
  case atStart => exact ⟨0, Nat.zero_le _, by go_num, rfl⟩
  case round =>
    obtain ⟨k, hk, rfl, rfl⟩ := hrel
    by_cases hlt : k < n
    · have hi1 : (0 : Int) ≤ (k : Int) := Int.natCast_nonneg _
      have hi2 : (k : Int) < (n : Int) := by omega
      have hkl : k < l.length := by rw [hn.out]; exact hlt
      obtain ⟨b, off, rfl, hbK, hc⟩ := U64S.at_ h hkl
      have hor := u64_or_nat (joinL (l.take k)) l[k] (hj.out k) (h64.out _ (List.getElem_mem hkl))
      have hst := hide (joinL_take hkl)
      generalize l[k] = x at *
      generalize joinL (l.take k) = y at *
      clear hkl
      go_wp2
      go_round
      case rel => exact ⟨k + 1, by omega, by go_num, by rw [hst.out]⟩
      case measure => simp [intOf]; omega
    · obtain rfl : k = n := by omega
      have ht : l.take k = l := List.take_of_length_le (by rw [hn.out]; exact Nat.le_refl _)
      rw [ht]
      clear ht
      go_wp2
      go_ret
      exact ⟨rfl, rfl⟩
theorem nodes12_any (n : Nat) (hn : n ≤ 64) (w : World) : Calls Tryz.prog 150 #[.int .i64 n] w fun e w' => e = .returned (.int .u64 (2 ^ n - 1 : Nat)) ∧ w = w' := by
  have h2 : (0 : Int) ≤ (n : Int) := Int.natCast_nonneg _
  have h3 : (n : Int) ≤ 64 := by omega
  have hp := hide (pow_le_64 hn)
  have hp2 := hide (Nat.two_pow_pos n)
  go_enter Tryz.func150, Tryz.ntmps150
  go_wp2
  go_ret
  refine ⟨ret_int ?_, rfl⟩
  have e1 := hp.out
  have e2 := hp2.out
  have e3 : min n IntKind.u64.bits = n := by simp [IntKind.bits]; omega
  have e4 : ((2 : Int) ^ n) = ((2 ^ n : Nat) : Int) := by simp
  simp only [Int.toNat_natCast, IntKind.wrap_u64] at *
  try rw [e3]
  rw [e4]
  generalize 2 ^ n = x at *
  omega
end Go.Proofs.YtjomijnbnbideaaGreatDoor
