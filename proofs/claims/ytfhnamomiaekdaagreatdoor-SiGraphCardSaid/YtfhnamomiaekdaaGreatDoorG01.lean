/-
  Words for memory that all texts of this family share: slices that read as lists, over a set of blocks; no program in sight.
-/
import Derived.WalkKit
import Derived.WalkSpells
import Derived.WalkLawsBesides
import Derived.Handy
import Derived.Deep.QuietTactic
import Derived.BigQuiet
import Derived.Deep.RegionHeld3
import Derived.Deep.DrawnRows
import Derived.Below
import Derived.Laws.OwnMore
import Derived.Deep.AppendLies
import Derived.Deep.Draws
import Derived.Laws.Rows
import Derived.Maps.AppendAt
import Derived.RegionTactic
import Derived.OwnWalk
import Derived.Deep.Light
import Derived.Deep.LoopGhost
import Derived.Deep.DeepCutAuto
import Derived.BigGuardPart
import Derived.StillTailTactics
import Derived.Deep.AppendSrc
import Derived.Test.YtfhnamomiaekdaaGreatDoorProg
import Derived.Lib.SlicesCompact
import Derived.Laws.BitsAllLaws
import Derived.Lib.TrailingZeros
set_option linter.unusedVariables false
set_option linter.unusedSimpArgs false
namespace Go.Inq
open Go Go.RowKit

theorem hide {p : Prop} (h : p) : Hid p := h
theorem ret_bool {a b : Bool} (h : a = b) : Ending.returned (.bool a) = .returned (.bool b) := by rw [h]
theorem ret_int {k : IntKind} {a b : Int} (h : a = b) : Ending.returned (.int k a) = .returned (.int k b) := by rw [h]

/-- The worlds w and w' hold the same in the blocks of K. -/
def Agree (K : Nat → Prop) (w w' : World) : Prop := ∀ b, K b → w'.heap[b]? = w.heap[b]?

section
variable {K K' : Nat → Prop} {w w' w'' : World}
theorem Agree.refl (K : Nat → Prop) (w : World) : Agree K w w := fun _ _ => rfl
theorem Agree.trans (h : Agree K w w') (h' : Agree K w' w'') : Agree K w w'' := fun b hb => (h' b hb).trans (h b hb)
theorem Agree.mono (h : Agree K w w') (hk : ∀ b, K' b → K b) : Agree K' w w' := fun b hb => h b (hk b hb)
theorem Agree.cell (h : Agree K w w') {p : Addr} (hp : K p.block) : w'.cell? p = w.cell? p := World.cell?_of_block (h _ hp)
theorem Agree.frozen (h : Agree K w w') {p : Addr} (hp : K p.block) : w'.frozen? p = w.frozen? p := World.frozen?_of_block (h _ hp)
theorem Agree.drew (K : Nat → Prop) (w : World) : Agree K w w.drew := fun _ _ => rfl
theorem Agree.drewN (K : Nat → Prop) (w : World) (n : Nat) : Agree K w (w.drewN n) := fun _ _ => rfl
theorem Agree.alloc (hk : ∀ b, K b → b < w.heap.size) (o : Obj) : Agree K w (w.alloc o) := fun b hb => Below.heap_alloc w o b (hk b hb)
theorem Agree.setCell (p : Addr) (hk : ¬ K p.block) (u : Value) : Agree K w (w.setCell p u) :=
  fun b hb => Below.heap_setCell w p u b (fun e => hk (e ▸ hb))
theorem Agree.below {B : Nat} (h : Below B w w') (hk : ∀ b, K b → b < B) : Agree K w w' := fun b hb => h.block b (hk b hb)
theorem Agree.grown {row : Option Nat} (h : w.grownBy w' row) (hk : ∀ b, K b → b < w.heap.size ∧ some b ≠ row) : Agree K w w' := fun b hb => h.block b (hk b hb).1 (hk b hb).2
end

/-- The slice v reads as the list l; each element lies in 'size' cells that R tells of; all lies in blocks of K. -/
def SlR {α : Type} (size : Nat) (R : World → (Nat → Prop) → List Value → α → Prop) (w : World) (K : Nat → Prop) (v : Value) (l : List α) : Prop :=
  ∃ (A : Option Addr) (c : Nat) (xs : List (List Value)), v = .slice A l.length c ∧ l.length ≤ c ∧ xs.length = l.length ∧
    (∀ (i : Nat) cs x, xs[i]? = some cs → l[i]? = some x → cs.length = size ∧ R w K cs x) ∧
    (0 < l.length → ∃ b off, A = some ⟨b, off, none⟩ ∧ K b ∧ ∀ (i j : Nat) cs u, xs[i]? = some cs → cs[j]? = some u → w.cell? ⟨b, off + i * size + j, none⟩ = some u)

/-- R's word stands in each later world that holds the same in K, and over each greater set. -/
def Stab {α : Type} (R : World → (Nat → Prop) → List Value → α → Prop) : Prop :=
  ∀ w w' K K' cs x, R w K cs x → Agree K w w' → (∀ b, K b → K' b) → R w' K' cs x

theorem SlR.keep {α : Type} {size : Nat} {R : World → (Nat → Prop) → List Value → α → Prop} (hR : Stab R) {w w' : World} {K K' : Nat → Prop} {v : Value} {l : List α}
    (h : SlR size R w K v l) (ha : Agree K w w') (hk : ∀ b, K b → K' b) : SlR size R w' K' v l := by
  obtain ⟨A, c, xs, hv, hc, hl, he, hm⟩ := h
  refine ⟨A, c, xs, hv, hc, hl, fun i cs x h1 h2 => ⟨(he i cs x h1 h2).1, hR _ _ _ _ _ _ (he i cs x h1 h2).2 ha hk⟩, fun h0 => ?_⟩
  obtain ⟨b, off, hA, hb, hcell⟩ := hm h0
  exact ⟨b, off, hA, hk b hb, fun i j cs u h1 h2 => (ha.cell (p := ⟨b, off + i * size + j, none⟩) hb).trans (hcell i j cs u h1 h2)⟩

/-- All blocks that are there. -/
def Old (w : World) : Nat → Prop := fun b => b < w.heap.size

theorem SlR.below {α : Type} {size : Nat} {R : World → (Nat → Prop) → List Value → α → Prop} (hR : Stab R) {w w' : World} {v : Value} {l : List α}
    (h : SlR size R w (Old w) v l) (hb : Below w.heap.size w w') : SlR size R w' (Old w') v l :=
  h.keep hR (Agree.below hb fun _ h => h) fun _ h => Nat.lt_of_lt_of_le h hb.size
theorem SlR.fit {α : Type} {size : Nat} {R : World → (Nat → Prop) → List Value → α → Prop} (hR : Stab R) {w : World} {K K' : Nat → Prop} {v : Value} {l : List α}
    (h : SlR size R w K v l) (hk : ∀ b, K b → K' b) : SlR size R w K' v l := h.keep hR (Agree.refl _ _) hk

/-- Elements that are told by their cells alone. -/
def Flat {α : Type} (enc : α → List Value) : World → (Nat → Prop) → List Value → α → Prop := fun _ _ cs x => cs = enc x
theorem Flat.stab {α : Type} (enc : α → List Value) : Stab (Flat enc) := fun _ _ _ _ _ _ h _ _ => h

theorem SlR.len {α : Type} {size : Nat} {R : World → (Nat → Prop) → List Value → α → Prop} {w : World} {K : Nat → Prop} {v : Value} {l : List α} (h : SlR size R w K v l) :
    ∃ A c, v = .slice A l.length c ∧ l.length ≤ c := by
  obtain ⟨A, c, xs, hv, hc, _⟩ := h
  exact ⟨A, c, hv, hc⟩

theorem SlR.nil {α : Type} (size : Nat) (R : World → (Nat → Prop) → List Value → α → Prop) (w : World) (K : Nat → Prop) (c : Nat) (A : Option Addr) : SlR size R w K (.slice A 0 c) ([] : List α) :=
  ⟨A, c, [], rfl, Nat.zero_le _, rfl, fun i cs x h => by simp at h, fun h => by simp at h⟩

/-- One element's cells. -/
theorem SlR.at_ {α : Type} {size : Nat} {R : World → (Nat → Prop) → List Value → α → Prop} {w : World} {K : Nat → Prop} {A : Option Addr} {n c : Nat} {l : List α} (h : SlR size R w K (.slice A n c) l) {i : Nat} (hi : i < l.length) :
    ∃ b off cs, A = some ⟨b, off, none⟩ ∧ K b ∧ cs.length = size ∧ R w K cs l[i] ∧ ∀ (j : Nat) u, cs[j]? = some u → w.cell? ⟨b, off + i * size + j, none⟩ = some u := by
  obtain ⟨A', c', xs, hv, hc, hl, he, hm⟩ := h
  obtain ⟨b, off, hA, hb, hcell⟩ := hm (by omega)
  injection hv with h1 h2 h3
  have hx : xs[i]? = some (xs[i]'(by omega)) := List.getElem?_eq_getElem (by omega)
  have := he i _ l[i] hx (List.getElem?_eq_getElem hi)
  exact ⟨b, off, xs[i]'(by omega), by rw [h1, hA], hb, this.1, this.2, fun j u hj => hcell i j _ u hx hj⟩

theorem SlR.cells {α : Type} {size : Nat} {R : World → (Nat → Prop) → List Value → α → Prop} {w : World} {K : Nat → Prop} {b off n c : Nat} {l : List α} (h : SlR size R w K (.slice (some ⟨b, off, none⟩) n c) l) {i : Nat} (hi : i < l.length) :
    ∃ cs, K b ∧ cs.length = size ∧ R w K cs l[i] ∧ ∀ (j : Nat) u, cs[j]? = some u → w.cell? ⟨b, off + i * size + j, none⟩ = some u := by
  obtain ⟨b', off', cs, hA, h1, h2, h3, h4⟩ := h.at_ hi
  injection hA with hA
  injection hA with hb ho
  subst hb ho
  exact ⟨cs, h1, h2, h3, h4⟩

/-- The first k elements. -/
theorem SlR.take {α : Type} {size : Nat} {R : World → (Nat → Prop) → List Value → α → Prop} {w : World} {K : Nat → Prop} {A : Option Addr} {n c : Nat} {l : List α} (h : SlR size R w K (.slice A n c) l) {k : Nat} (hk : k ≤ l.length) :
    SlR size R w K (.slice A k c) (l.take k) := by
  obtain ⟨A', c', xs, hv, hc, hl, he, hm⟩ := h
  injection hv with h1 h2 h3
  subst h1 h3
  have hlk : (l.take k).length = k := by rw [List.length_take]; omega
  refine ⟨A, c, xs.take k, by rw [hlk], by omega, by rw [List.length_take, List.length_take]; omega, fun i cs x h1 h2 => ?_, fun h0 => ?_⟩
  · rw [List.getElem?_take] at h1 h2
    split at h1
    · rename_i hik; rw [if_pos hik] at h2; exact he i cs x h1 h2
    · cases h1
  · obtain ⟨b, off, hA, hb, hcell⟩ := hm (by omega)
    refine ⟨b, off, hA, hb, fun i j cs u h1 h2 => ?_⟩
    rw [List.getElem?_take] at h1
    split at h1
    · exact hcell i j cs u h1 h2
    · cases h1

/-- What is left behind the first k elements: 's[k:]', with the model's own 'if'. -/
theorem SlR.drop {α : Type} {size : Nat} {R : World → (Nat → Prop) → List Value → α → Prop} {w : World} {K : Nat → Prop} {A : Option Addr} {n c : Nat} {l : List α} (h : SlR size R w K (.slice A n c) l) {k : Nat} (hk : k ≤ l.length) :
    SlR size R w K (.slice (if c = k then A else A.map (·.add (k * size))) (n - k) (c - k)) (l.drop k) := by
  obtain ⟨A', c', xs, hv, hc, hl, he, hm⟩ := h
  injection hv with h1 h2 h3
  subst h1 h3
  have hlk : (l.drop k).length = l.length - k := List.length_drop
  refine ⟨_, _, xs.drop k, by rw [hlk, h2], by rw [hlk]; omega, by rw [List.length_drop, List.length_drop, hl], fun i cs x h1 h2 => ?_, fun h0 => ?_⟩
  · rw [List.getElem?_drop] at h1 h2
    exact he _ cs x h1 h2
  · rw [hlk] at h0
    obtain ⟨b, off, hA, hb, hcell⟩ := hm (by omega)
    rw [if_neg (by omega), hA]
    refine ⟨b, off + k * size, ?_, hb, fun i j cs u h1 h2 => ?_⟩
    · simp only [Option.map_some, Addr.add]
      split
      · rename_i h0; rw [h0]; rfl
      · rfl
    · rw [List.getElem?_drop] at h1
      have := hcell (k + i) j cs u h1 h2
      rw [Nat.add_mul, ← Nat.add_assoc] at this
      exact this

/-- An owned row reads as a list, over whatever set holds its block. -/
theorem SlR.of_own {α : Type} {size : Nat} {R : World → (Nat → Prop) → List Value → α → Prop} {w : World} {K : Nat → Prop} {base : Nat} {e : TypeId} {v : Value} {n : Nat} {xs : List Value} {l : List α} {ys : List (List Value)}
    (h : w.ownsRow base e size v n xs) (hn : n = l.length) (hx : xs = ys.flatten) (hy : ys.length = l.length) (he : ∀ (i : Nat) cs x, ys[i]? = some cs → l[i]? = some x → cs.length = size ∧ R w K cs x)
    (hK : ∀ g, v.ownBlock = some g → K g) : SlR size R w K v l := by
  have hcell : ∀ g, v.ownBlock = some g → ∀ j u, xs[j]? = some u → w.cell? ⟨g, j, none⟩ = some u := by
    intro g hg j u hu
    have := h.cells hg j u hu
    rwa [show (⟨g, 0, none⟩ : Addr).add j = ⟨g, j, none⟩ by unfold Addr.add; split <;> simp_all] at this
  have hflat : ∀ (ys : List (List Value)) (i j : Nat) cs u, (∀ (i : Nat) cs, ys[i]? = some cs → cs.length = size) → ys[i]? = some cs → cs[j]? = some u → ys.flatten[i * size + j]? = some u := by
    intro ys
    induction ys with
    | nil => intro i j cs u _ h; simp at h
    | cons y ys ih =>
      intro i j cs u hs h1 h2
      have hy := hs 0 y rfl
      cases i with
      | zero =>
        simp at h1; subst h1
        have hj : j < y.length := by
          rcases Nat.lt_or_ge j y.length with h | h
          · exact h
          · rw [List.getElem?_eq_none h] at h2; cases h2
        rw [List.flatten_cons, List.getElem?_append_left (by omega)]
        simpa using h2
      | succ i =>
        simp at h1
        rw [List.flatten_cons, List.getElem?_append_right (by rw [hy, Nat.add_mul]; omega), hy, show (i + 1) * size + j - size = i * size + j by rw [Nat.add_mul]; omega]
        exact ih i j cs u (fun i cs h => hs (i + 1) cs (by simpa using h)) h1 h2
  have hsz : ∀ (i : Nat) cs, ys[i]? = some cs → cs.length = size := by
    intro i cs h1
    have hi : i < l.length := by
      rw [← hy]
      rcases Nat.lt_or_ge i ys.length with h | h
      · exact h
      · rw [List.getElem?_eq_none h] at h1; cases h1
    exact (he i cs l[i] h1 (List.getElem?_eq_getElem hi)).1
  rcases h.2 with ⟨hv, h0⟩ | ⟨g, cap, cur, hv, hg, hh, hn', hcap, hcs, htake⟩
  · subst hv
    have : l = [] := List.eq_nil_of_length_eq_zero (by omega)
    subst this
    exact SlR.nil _ _ _ _ _ _
  · refine ⟨some ⟨g, 0, none⟩, cap, ys, by rw [hv, hn], by omega, hy, he, fun _ => ⟨g, 0, rfl, hK g (by rw [hv]; rfl), fun i j cs u h1 h2 => ?_⟩⟩
    rw [Nat.zero_add]
    exact hcell g (by rw [hv]; rfl) _ u (by rw [hx]; exact hflat ys i j cs u hsz h1 h2)

theorem SlR.of_flat {α : Type} {size : Nat} {enc : α → List Value} {w : World} {K : Nat → Prop} {base : Nat} {e : TypeId} {v : Value} {n : Nat} {l : List α}
    (h : w.ownsRow base e size v n (l.map enc).flatten) (hn : n = l.length) (hs : ∀ x, (enc x).length = size) (hK : ∀ g, base ≤ g → g < w.heap.size → K g) : SlR size (Flat enc) w K v l := by
  refine SlR.of_own (ys := l.map enc) h hn rfl (by simp) (fun i cs x h1 h2 => ?_) (fun g hg => hK g (h.lt g hg).1 (h.lt g hg).2)
  rw [List.getElem?_map, h2] at h1
  injection h1 with h1
  exact ⟨by rw [← h1]; exact hs x, h1.symm⟩

/-- Block g is just the cells cs of element type t, none frozen. -/
def Blk (w : World) (g : Nat) (t : TypeId) (cs : Array Value) : Prop := w.heap[g]? = some (.cells cs t (0, 0))
section
variable {w w' : World} {g : Nat} {t : TypeId} {cs : Array Value}
theorem Blk.lt (h : Blk w g t cs) : g < w.heap.size := by
  rcases Nat.lt_or_ge g w.heap.size with hlt | hge
  · exact hlt
  · unfold Blk at h; rw [Array.getElem?_eq_none hge] at h; cases h
theorem Blk.cell (h : Blk w g t cs) (i : Nat) : w.cell? ⟨g, i, none⟩ = cs[i]? := cell_of_row w g i cs t (0, 0) h
theorem Blk.frozen (h : Blk w g t cs) (i : Nat) : w.frozen? ⟨g, i, none⟩ = false := by
  unfold Blk at h
  simp [World.frozen?, h]
theorem Blk.new (w : World) (t : TypeId) (cs : Array Value) : Blk (w.alloc (.cells cs t)) w.heap.size t cs := heap_alloc_new w _
theorem Blk.drew (h : Blk w g t cs) : Blk w.drew g t cs := h
theorem Blk.drewN (h : Blk w g t cs) (n : Nat) : Blk (w.drewN n) g t cs := h
theorem Blk.alloc (h : Blk w g t cs) (o : Obj) : Blk (w.alloc o) g t cs := (Below.heap_alloc w o g h.lt).trans h
theorem Blk.set_ (h : Blk w g t cs) (i : Nat) (u : Value) : Blk (w.setCell ⟨g, i, none⟩ u) g t (cs.setIfInBounds i u) := by
  unfold Blk at h ⊢
  simp [World.setCell, Array.getElem?_modify, h]
theorem Blk.far (h : Blk w g t cs) {p : Addr} (hp : g ≠ p.block) (u : Value) : Blk (w.setCell p u) g t cs := (Below.heap_setCell w p u g hp).trans h
theorem Blk.below {B : Nat} (h : Blk w g t cs) (hb : Below B w w') (hg : g < B) : Blk w' g t cs := (hb.block g hg).trans h
theorem Blk.grown {row : Option Nat} (h : Blk w g t cs) (hb : w.grownBy w' row) (hg : some g ≠ row) : Blk w' g t cs := (hb.block g h.lt hg).trans h
theorem Blk.agree {K : Nat → Prop} (h : Blk w g t cs) (ha : Agree K w w') (hg : K g) : Blk w' g t cs := (ha g hg).trans h
theorem own_below {base B : Nat} {e : TypeId} {size n : Nat} {v : Value} {xs : List Value} (h : w.ownsRow base e size v n xs) (hb : Below B w w') (hB : w.heap.size ≤ B) : w'.ownsRow base e size v n xs :=
  h.kept (row := none) ⟨hb.os, hb.tape, hb.output, hb.size, fun k hk _ => hb.block k (by omega)⟩ (by cases v.ownBlock <;> simp)
theorem own_setCell {base : Nat} {e : TypeId} {size n : Nat} {v : Value} {xs : List Value} (h : w.ownsRow base e size v n xs) {p : Addr} (hp : v.ownBlock ≠ some p.block) (u : Value) : (w.setCell p u).ownsRow base e size v n xs := by
  refine ⟨h.1, ?_⟩
  rcases h.2 with h2 | ⟨g, cap, cur, hv, hg, hh, r⟩
  · exact .inl h2
  · refine .inr ⟨g, cap, cur, hv, hg, ?_, r⟩
    rw [Below.heap_setCell _ _ _ _ (fun e => hp (by rw [hv]; simp [Value.ownBlock, e]))]
    exact hh
theorem own_slice {base : Nat} {e : TypeId} {size n : Nat} {v : Value} {xs : List Value} (h : w.ownsRow base e size v n xs) : ∃ A c, v = .slice A n c := by
  rcases h.2 with ⟨h1, h2⟩ | ⟨g, cap, cur, hv, _⟩
  · subst h2; exact ⟨none, 0, h1⟩
  · exact ⟨_, _, hv⟩
theorem own_drewN {base : Nat} {e : TypeId} {size n : Nat} {v : Value} {xs : List Value} (h : w.ownsRow base e size v n xs) (k : Nat) : (w.drewN k).ownsRow base e size v n xs := h
end

theorem flat_snoc {α : Type} (enc : α → List Value) (l : List α) (x : α) : ((l ++ [x]).map enc).flatten = (l.map enc).flatten ++ enc x := by simp
theorem take_snoc' {α : Type} {l : List α} {k : Nat} (h : k < l.length) : l.take (k + 1) = l.take k ++ [l[k]] := by rw [List.take_succ_eq_append_getElem h]

end Go.Inq

namespace Go.Inq
open Go Go.RowKit

structure Ev where
  kind : Int
  sess : Int
  key : Int
  val : Int
deriving DecidableEq

def Ev.enc (e : Ev) : List Value := [.int .i64 e.kind, .int .i64 e.sess, .int .i64 e.key, .int .i64 e.val]

def belowB (n m : Int) : Bool := decide (0 ≤ n) && decide (n < m)
def itemB (k : Int) : Bool := k == 1 || k == 2

/-- An event may be. -/
def Ev.right (e : Ev) : Bool := belowB e.kind 5 && belowB e.sess 8 && (if itemB e.kind then belowB e.key 16 && belowB e.val 2147483648 else e.key == 0 && e.val == 0)

/-- A slice of events. -/
def EvS (w : World) (K : Nat → Prop) (v : Value) (l : List Ev) : Prop := SlR 4 (Flat Ev.enc) w K v l

theorem EvS.keep {w w' : World} {K K' : Nat → Prop} {v : Value} {l : List Ev} (h : EvS w K v l) (ha : Agree K w w') (hk : ∀ b, K b → K' b) : EvS w' K' v l :=
  SlR.keep (Flat.stab _) h ha hk

theorem EvS.at_ {w : World} {K : Nat → Prop} {A : Option Addr} {n c : Nat} {l : List Ev} (h : EvS w K (.slice A n c) l) {i : Nat} (hi : i < l.length) :
    ∃ b off, A = some ⟨b, off, none⟩ ∧ K b ∧ w.cell? ⟨b, off + i * 4, none⟩ = some (.int .i64 l[i].kind) ∧ w.cell? ⟨b, off + i * 4 + 1, none⟩ = some (.int .i64 l[i].sess) ∧
      w.cell? ⟨b, off + i * 4 + 2, none⟩ = some (.int .i64 l[i].key) ∧ w.cell? ⟨b, off + i * 4 + 3, none⟩ = some (.int .i64 l[i].val) := by
  obtain ⟨b, off, cs, hA, hK, _, hR, hc⟩ := SlR.at_ h hi
  unfold Flat at hR
  subst hR
  exact ⟨b, off, hA, hK, hc 0 _ rfl, hc 1 _ rfl, hc 2 _ rfl, hc 3 _ rfl⟩

theorem EvS.below {w w' : World} {v : Value} {l : List Ev} (h : EvS w (Old w) v l) (hb : Below w.heap.size w w') : EvS w' (Old w') v l := SlR.below (Flat.stab _) h hb
theorem EvS.fit {w : World} {K K' : Nat → Prop} {v : Value} {l : List Ev} (h : EvS w K v l) (hk : ∀ b, K b → K' b) : EvS w K' v l := SlR.fit (Flat.stab _) h hk
theorem EvS.cells {w : World} {K : Nat → Prop} {b off n c : Nat} {l : List Ev} (h : EvS w K (.slice (some ⟨b, off, none⟩) n c) l) {i : Nat} (hi : i < l.length) :
    K b ∧ w.cell? ⟨b, off + i * 4, none⟩ = some (.int .i64 l[i].kind) ∧ w.cell? ⟨b, off + i * 4 + 1, none⟩ = some (.int .i64 l[i].sess) ∧
      w.cell? ⟨b, off + i * 4 + 2, none⟩ = some (.int .i64 l[i].key) ∧ w.cell? ⟨b, off + i * 4 + 3, none⟩ = some (.int .i64 l[i].val) := by
  obtain ⟨cs, hK, _, hR, hc⟩ := SlR.cells h hi
  unfold Flat at hR
  subst hR
  exact ⟨hK, hc 0 _ rfl, hc 1 _ rfl, hc 2 _ rfl, hc 3 _ rfl⟩

/-- A pair of numbers: a key, and a value (a take: a key, and from whom). -/
structure It where
  a : Int
  b : Int
deriving DecidableEq
def It.enc (e : It) : List Value := [.int .i64 e.a, .int .i64 e.b]

def ItS (w : World) (K : Nat → Prop) (v : Value) (l : List It) : Prop := SlR 2 (Flat It.enc) w K v l

theorem ItS.keep {w w' : World} {K K' : Nat → Prop} {v : Value} {l : List It} (h : ItS w K v l) (ha : Agree K w w') (hk : ∀ b, K b → K' b) : ItS w' K' v l :=
  SlR.keep (Flat.stab _) h ha hk

theorem ItS.below {w w' : World} {v : Value} {l : List It} (h : ItS w (Old w) v l) (hb : Below w.heap.size w w') : ItS w' (Old w') v l := SlR.below (Flat.stab _) h hb
theorem ItS.fit {w : World} {K K' : Nat → Prop} {v : Value} {l : List It} (h : ItS w K v l) (hk : ∀ b, K b → K' b) : ItS w K' v l := SlR.fit (Flat.stab _) h hk
theorem ItS.cells {w : World} {K : Nat → Prop} {b off n c : Nat} {l : List It} (h : ItS w K (.slice (some ⟨b, off, none⟩) n c) l) {i : Nat} (hi : i < l.length) :
    K b ∧ w.cell? ⟨b, off + i * 2, none⟩ = some (.int .i64 l[i].a) ∧ w.cell? ⟨b, off + i * 2 + 1, none⟩ = some (.int .i64 l[i].b) := by
  obtain ⟨cs, hK, _, hR, hc⟩ := SlR.cells h hi
  unfold Flat at hR
  subst hR
  exact ⟨hK, hc 0 _ rfl, hc 1 _ rfl⟩

theorem ItS.at_ {w : World} {K : Nat → Prop} {A : Option Addr} {n c : Nat} {l : List It} (h : ItS w K (.slice A n c) l) {i : Nat} (hi : i < l.length) :
    ∃ b off, A = some ⟨b, off, none⟩ ∧ K b ∧ w.cell? ⟨b, off + i * 2, none⟩ = some (.int .i64 l[i].a) ∧ w.cell? ⟨b, off + i * 2 + 1, none⟩ = some (.int .i64 l[i].b) := by
  obtain ⟨b, off, cs, hA, hK, _, hR, hc⟩ := SlR.at_ h hi
  unfold Flat at hR
  subst hR
  exact ⟨b, off, hA, hK, hc 0 _ rfl, hc 1 _ rfl⟩

/-- The last op of a kind and a key among the first k. -/
def aheadN (l : List Ev) (kind key : Int) : Nat → Int
  | 0 => -1
  | k + 1 => match l[k]? with
    | some e => if e.kind = kind ∧ e.key = key then k else aheadN l kind key k
    | none => aheadN l kind key k

theorem aheadN_hit {l : List Ev} {kind key : Int} {m : Nat} {x : Ev} (h : l[m]? = some x) (h1 : x.kind = kind) (h2 : x.key = key) : aheadN l kind key (m + 1) = m := by
  simp [aheadN, h, h1, h2]
theorem aheadN_miss {l : List Ev} {kind key : Int} {m : Nat} {x : Ev} (h : l[m]? = some x) (h1 : ¬ (x.kind = kind ∧ x.key = key)) : aheadN l kind key (m + 1) = aheadN l kind key m := by
  simp [aheadN, h, h1]
theorem aheadN_lt (l : List Ev) (kind key : Int) : ∀ k : Nat, -1 ≤ aheadN l kind key k ∧ aheadN l kind key k < k
  | 0 => by simp [aheadN]
  | k + 1 => by
    have := aheadN_lt l kind key k
    unfold aheadN
    split
    · split <;> omega
    · omega

/-- Does some write behind place i have this key and value? -/
def future (l : List Ev) (i : Nat) (key val : Int) : Bool := (l.drop (i + 1)).any fun x => x.kind == 2 && x.key == key && x.val == val
def valAt (l : List Ev) (k : Int) : Int := ((l[k.toNat]?).map (·.val)).getD 0

/-- What is wrong with the op e at place i, those ahead being right. -/
def wrongE (l : List Ev) (i : Nat) (e : Ev) : Int :=
  if e.right = false ∨ (e.kind ≠ 1 ∧ e.kind ≠ 2) then 1
  else if e.kind = 2 then 0
  else if 0 ≤ aheadN l 2 e.key i then (if valAt l (aheadN l 2 e.key i) = e.val then 0 else 10)
  else if 0 ≤ aheadN l 1 e.key i then (if valAt l (aheadN l 1 e.key i) = e.val then 0 else 11)
  else if future l i e.key e.val = true then 9 else 0
def wrongAt (l : List Ev) (i : Nat) : Int := match l[i]? with | some e => wrongE l i e | none => 0

/-- What a look at ops gives: what is read, what is written, the place, the error. -/
structure LookOut where
  reads : List It
  writes : List It
  at_ : Int
  err : Int

/-- The first place from k on with a key. -/
def firstI (key : Int) : List Ev → Nat → Int
  | [], _ => -1
  | x :: r, k => if x.key = key then k else firstI key r (k + 1)
def firstD (l : List Ev) (key : Int) (k : Nat) : Int := firstI key (l.drop k) k
theorem firstD_step {l : List Ev} {key : Int} {k : Nat} {x : Ev} (hx : l[k]? = some x) : firstD l key k = if x.key = key then (k : Int) else firstD l key (k + 1) := by
  have hk : k < l.length := by
    rcases Nat.lt_or_ge k l.length with h | h
    · exact h
    · rw [List.getElem?_eq_none h] at hx; cases hx
  rw [List.getElem?_eq_getElem hk] at hx
  injection hx with hx
  unfold firstD
  rw [List.drop_eq_getElem_cons hk, firstI, hx]
theorem firstD_end (l : List Ev) (key : Int) : firstD l key l.length = -1 := by simp [firstD, firstI]
theorem firstI_lt (key : Int) : ∀ (l : List Ev) (k : Nat), firstI key l k = -1 ∨ ((k : Int) ≤ firstI key l k ∧ firstI key l k < (k : Int) + l.length)
  | [], _ => .inl rfl
  | x :: r, k => by
    unfold firstI
    split
    · right; simp; omega
    · rcases firstI_lt key r (k + 1) with h | h
      · exact .inl h
      · right; simp; omega
theorem firstD_lt (l : List Ev) (key : Int) : -1 ≤ firstD l key 0 ∧ firstD l key 0 < l.length := by
  have := firstI_lt key (l.drop 0) 0
  unfold firstD
  simp only [List.drop_zero] at *
  omega

def kindAt (l : List Ev) (k : Int) : Int := ((l[k.toNat]?).map (·.kind)).getD 0
def readOf (l : List Ev) (key : Int) : Option It := if 0 ≤ firstD l key 0 ∧ kindAt l (firstD l key 0) = 1 then some ⟨key, valAt l (firstD l key 0)⟩ else none
def writeOf (l : List Ev) (key : Int) : Option It := if 0 ≤ aheadN l 2 key l.length then some ⟨key, valAt l (aheadN l 2 key l.length)⟩ else none
def readsTo (l : List Ev) (n : Nat) : List It := (List.range n).filterMap fun (k : Nat) => readOf l (k : Int)
def writesTo (l : List Ev) (n : Nat) : List It := (List.range n).filterMap fun (k : Nat) => writeOf l (k : Int)
theorem readsTo_succ (l : List Ev) (n : Nat) : readsTo l (n + 1) = readsTo l n ++ (readOf l n).toList := by
  unfold readsTo
  rw [List.range_succ, List.filterMap_append]
  congr 1
theorem writesTo_succ (l : List Ev) (n : Nat) : writesTo l (n + 1) = writesTo l n ++ (writeOf l n).toList := by
  unfold writesTo
  rw [List.range_succ, List.filterMap_append]
  congr 1
theorem readsTo_len (l : List Ev) (n : Nat) : (readsTo l n).length ≤ n := by
  unfold readsTo
  exact Nat.le_trans (List.length_filterMap_le _ _) (by simp)
theorem writesTo_len (l : List Ev) (n : Nat) : (writesTo l n).length ≤ n := by
  unfold writesTo
  exact Nat.le_trans (List.length_filterMap_le _ _) (by simp)

def firstBad (l : List Ev) : Option Nat := (List.range l.length).find? fun i => wrongAt l i != 0
theorem firstBad_some {l : List Ev} {k : Nat} (hk : k < l.length) (h : ∀ j, j < k → wrongAt l j = 0) (hb : wrongAt l k ≠ 0) : firstBad l = some k := by
  unfold firstBad
  rw [List.find?_range_eq_some]
  exact ⟨by simpa using hb, by simpa using hk, fun j hj => by simpa using h j hj⟩
theorem firstBad_none {l : List Ev} (h : ∀ j, j < l.length → wrongAt l j = 0) : firstBad l = none := by
  unfold firstBad
  rw [List.find?_eq_none]
  intro x hx
  simpa using h x (by simpa using hx)

/-- The reference's look: by definition. -/
def lookR (l : List Ev) : LookOut := match firstBad l with
  | some i => ⟨[], [], i, wrongAt l i⟩
  | none => ⟨readsTo l 16, writesTo l 16, 0, 0⟩

theorem future_step {l : List Ev} {i k : Nat} {key val : Int} {x : Ev} (hik : i < k) (hx : l[k]? = some x) :
    (l.drop k).any (fun x => x.kind == 2 && x.key == key && x.val == val) = ((x.kind == 2 && x.key == key && x.val == val) || (l.drop (k + 1)).any fun x => x.kind == 2 && x.key == key && x.val == val) := by
  have hk : k < l.length := by
    rcases Nat.lt_or_ge k l.length with h | h
    · exact h
    · rw [List.getElem?_eq_none h] at hx; cases hx
  rw [List.drop_eq_getElem_cons hk, List.any_cons]
  rw [List.getElem?_eq_getElem hk] at hx
  injection hx with hx
  rw [hx]

end Go.Inq

namespace Go.Proofs.YtfhnamomiaekdaaGreatDoor
open Go.RowKit Go.Inq
set_option maxHeartbeats 400000

end Go.Proofs.YtfhnamomiaekdaaGreatDoor

namespace Go.Inq
open Go Go.RowKit

/-- The first number below n at which f is not 0. -/
def firstN (n : Nat) (f : Nat → Int) : Option Nat := (List.range n).find? fun i => f i != 0
theorem firstN_some {n k : Nat} {f : Nat → Int} (hk : k < n) (h : ∀ j, j < k → f j = 0) (hb : f k ≠ 0) : firstN n f = some k := by
  unfold firstN
  rw [List.find?_range_eq_some]
  exact ⟨by simpa using hb, by simpa using hk, fun j hj => by simpa using h j hj⟩
theorem firstN_none {n : Nat} {f : Nat → Int} (h : ∀ j, j < n → f j = 0) : firstN n f = none := by
  unfold firstN
  rw [List.find?_eq_none]
  intro x hx
  simpa using h x (by simpa using hx)
theorem firstN_ways (n : Nat) (f : Nat → Int) : (∃ k, k < n ∧ (∀ j, j < k → f j = 0) ∧ f k ≠ 0 ∧ firstN n f = some k) ∨ ((∀ j, j < n → f j = 0) ∧ firstN n f = none) := by
  cases h : firstN n f with
  | none =>
    refine .inr ⟨fun j hj => ?_, rfl⟩
    unfold firstN at h
    rw [List.find?_eq_none] at h
    simpa using h j (by simpa using hj)
  | some k =>
    unfold firstN at h
    rw [List.find?_range_eq_some] at h
    obtain ⟨h1, h2, h3⟩ := h
    exact .inl ⟨k, by simpa using h2, fun j hj => by simpa using h3 j hj, by simpa using h1, rfl⟩

structure Tx where
  sess : Int
  done : Bool
  first : Int
  ops : List Ev
structure Txn where
  sess : Int
  writes : List Int
  reads : List It
deriving DecidableEq

def mayE (e : Ev) : Bool := e.right && itemB e.kind
/-- A transaction may be looked at. -/
def mayT (t : Tx) : Bool := t.ops.all mayE && belowB t.sess 8
def isW (x : It) (e : Ev) : Bool := e.kind == 2 && e.key == x.a && e.val == x.b
/-- How often this is written among the first ops. -/
def wr (ops : List Ev) (many : Nat) (x : It) : Nat := ((ops.take many).filter (isW x)).length
theorem wr_zero (ops : List Ev) (x : It) : wr ops 0 x = 0 := rfl
theorem wr_step {ops : List Ev} {i : Nat} (hi : i < ops.length) (x : It) : wr ops (i + 1) x = wr ops i x + if isW x ops[i] = true then 1 else 0 := by
  unfold wr
  rw [List.take_succ_eq_append_getElem hi, List.filter_append, List.length_append]
  congr 1
  by_cases h : isW x ops[i] = true <;> simp [h]
theorem wr_le (ops : List Ev) (i : Nat) (x : It) : wr ops i x ≤ i := by
  unfold wr
  exact Nat.le_trans (List.length_filter_le _ _) (by rw [List.length_take]; omega)
def wrT (t : Tx) (x : It) : Nat := wr t.ops t.ops.length x
/-- How often the first transactions write it. -/
def sumW (l : List Tx) (n : Nat) (x : It) : Nat := ((l.take n).map fun t => wrT t x).sum
theorem sumW_step {l : List Tx} {i : Nat} (hi : i < l.length) (x : It) : sumW l (i + 1) x = sumW l i x + wrT l[i] x := by
  unfold sumW
  rw [List.take_succ_eq_append_getElem hi, List.map_append, List.sum_append]
  simp
/-- What is wrong with a write. -/
def opE (l : List Tx) (i : Nat) (ops : List Ev) (j : Nat) : Int := match ops[j]? with
  | none => 0
  | some e => if e.kind ≠ 2 then 0 else if e.val = 0 then 7 else if 0 < wr ops j ⟨e.key, e.val⟩ + sumW l i ⟨e.key, e.val⟩ then 8 else 0
/-- What is wrong with a transaction's writes. -/
def unlikeR (l : List Tx) (i : Nat) : Int := match l[i]? with
  | none => 0
  | some t => match firstN t.ops.length (opE l i t.ops) with
    | some j => opE l i t.ops j
    | none => 0
/-- A transaction's number among the committed ones. -/
def numR7 (l : List Tx) (i : Nat) : Nat := ((l.take i).filter (·.done)).length
theorem num7_step {l : List Tx} {i : Nat} (hi : i < l.length) : numR7 l (i + 1) = numR7 l i + if l[i].done = true then 1 else 0 := by
  unfold numR7
  rw [List.take_succ_eq_append_getElem hi, List.filter_append, List.length_append]
  congr 1
  by_cases h : l[i].done = true <;> simp [h]
theorem num7_le (l : List Tx) (i : Nat) : numR7 l i ≤ i := by
  unfold numR7
  exact Nat.le_trans (List.length_filter_le _ _) (by rw [List.length_take]; omega)
/-- The first transaction that writes it. -/
def whoR (l : List Tx) (x : It) : Option Nat := l.findIdx? fun t => decide (0 < wrT t x)
def middleB (ws : List It) (x : It) : Bool := ws.any fun y => y.a == x.a && y.b != x.b
/-- Whose a value of a key is. -/
def fromR (l : List Tx) (x : It) : Int × Int :=
  if x.b = 0 then (-1, 0) else match whoR l x with
    | none => (0, 12)
    | some k => match l[k]? with
      | none => (0, 12)
      | some t => if t.done = false then (0, 13) else if middleB (lookR t.ops).writes x = true then (0, 14) else ((numR7 l k : Int), 0)
/-- What is wrong with a read. -/
def readE (l : List Tx) (rs : List It) (i : Nat) : Int := match rs[i]? with | some r => (fromR l r).2 | none => 0
theorem readE_at {l : List Tx} {rs : List It} {i : Nat} (h : i < rs.length) : readE l rs i = (fromR l rs[i]).2 := by
  unfold readE; rw [List.getElem?_eq_getElem h]
/-- A committed transaction, as a history has it; or what is wrong with its reads. -/
def oneR (l : List Tx) (t : Tx) : Txn × Int :=
  let f := lookR t.ops
  match firstN f.reads.length (readE l f.reads) with
  | some i => (⟨0, [], []⟩, readE l f.reads i)
  | none => (⟨t.sess, f.writes.map (·.a), f.reads.map fun r => ⟨r.a, (fromR l r).1⟩⟩, 0)
def mayAt (l : List Tx) (i : Nat) : Int := match l[i]? with | some t => if mayT t = true then 0 else 1 | none => 0
def lookAt (l : List Tx) (i : Nat) : Int := match l[i]? with | some t => if t.done = true then (lookR t.ops).err else 0 | none => 0
def oneAt (l : List Tx) (i : Nat) : Int := match l[i]? with | some t => if t.done = true then (oneR l t).2 else 0 | none => 0
/-- The committed ones among the first. -/
def txnsTo (l : List Tx) (n : Nat) : List Txn := ((l.take n).filter (·.done)).map fun t => (oneR l t).1
theorem txnsTo_step {l : List Tx} {i : Nat} (hi : i < l.length) : txnsTo l (i + 1) = txnsTo l i ++ if l[i].done = true then [(oneR l l[i]).1] else [] := by
  unfold txnsTo
  rw [List.take_succ_eq_append_getElem hi, List.filter_append, List.map_append]
  congr 1
  by_cases h : l[i].done = true <;> simp [h]
/-- The history of transactions; or which one is wrong, and how. -/
def histR (l : List Tx) : List Txn × Int × Int :=
  if 32 < l.length then ([], 0, 4)
  else match firstN l.length (mayAt l) with
    | some i => ([], i, mayAt l i)
    | none => match firstN l.length (unlikeR l) with
      | some i => ([], i, unlikeR l i)
      | none => match firstN l.length (lookAt l) with
        | some i => ([], i, lookAt l i)
        | none => match firstN l.length (oneAt l) with
          | some i => ([], i, oneAt l i)
          | none => (txnsTo l l.length, 0, 0)
theorem histR_many {l : List Tx} (h : 32 < l.length) : histR l = ([], 0, 4) := by unfold histR; rw [if_pos h]
theorem histR_may {l : List Tx} (h : ¬ 32 < l.length) {i : Nat} (hi : i < l.length) (hj : ∀ j, j < i → mayAt l j = 0) (hb : mayAt l i ≠ 0) : histR l = ([], (i : Int), mayAt l i) := by
  unfold histR; rw [if_neg h, firstN_some hi hj hb]
theorem histR_unlike {l : List Tx} (h : ¬ 32 < l.length) (h1 : ∀ j, j < l.length → mayAt l j = 0) {i : Nat} (hi : i < l.length) (hj : ∀ j, j < i → unlikeR l j = 0) (hb : unlikeR l i ≠ 0) : histR l = ([], (i : Int), unlikeR l i) := by
  unfold histR; rw [if_neg h, firstN_none h1, firstN_some hi hj hb]
theorem histR_look {l : List Tx} (h : ¬ 32 < l.length) (h1 : ∀ j, j < l.length → mayAt l j = 0) (h2 : ∀ j, j < l.length → unlikeR l j = 0) {i : Nat} (hi : i < l.length) (hj : ∀ j, j < i → lookAt l j = 0) (hb : lookAt l i ≠ 0) : histR l = ([], (i : Int), lookAt l i) := by
  unfold histR; rw [if_neg h, firstN_none h1, firstN_none h2, firstN_some hi hj hb]
theorem histR_one {l : List Tx} (h : ¬ 32 < l.length) (h1 : ∀ j, j < l.length → mayAt l j = 0) (h2 : ∀ j, j < l.length → unlikeR l j = 0) (h3 : ∀ j, j < l.length → lookAt l j = 0) {i : Nat} (hi : i < l.length) (hj : ∀ j, j < i → oneAt l j = 0) (hb : oneAt l i ≠ 0) : histR l = ([], (i : Int), oneAt l i) := by
  unfold histR; rw [if_neg h, firstN_none h1, firstN_none h2, firstN_none h3, firstN_some hi hj hb]
theorem histR_good {l : List Tx} (h : ¬ 32 < l.length) (h1 : ∀ j, j < l.length → mayAt l j = 0) (h2 : ∀ j, j < l.length → unlikeR l j = 0) (h3 : ∀ j, j < l.length → lookAt l j = 0) (h4 : ∀ j, j < l.length → oneAt l j = 0) : histR l = (txnsTo l l.length, 0, 0) := by
  unfold histR; rw [if_neg h, firstN_none h1, firstN_none h2, firstN_none h3, firstN_none h4]
end Go.Inq

namespace Go.Inq
open Go Go.RowKit

/-- The call's own slice v holds the list l, as elements that R tells of. -/
def OwnR {α : Type} (size : Nat) (R : World → (Nat → Prop) → List Value → α → Prop) (w : World) (K : Nat → Prop) (base : Nat) (e : TypeId) (v : Value) (l : List α) : Prop :=
  ∃ ys : List (List Value), w.ownsRow base e size v l.length ys.flatten ∧ ys.length = l.length ∧ ∀ (i : Nat) cs x, ys[i]? = some cs → l[i]? = some x → cs.length = size ∧ R w K cs x

section
variable {α : Type} {size : Nat} {R : World → (Nat → Prop) → List Value → α → Prop} {w w' : World} {K K' : Nat → Prop} {base : Nat} {e : TypeId} {v : Value} {l : List α}

theorem OwnR.nil (size : Nat) (R : World → (Nat → Prop) → List Value → α → Prop) (w : World) (K : Nat → Prop) (base : Nat) (e : TypeId) : OwnR size R w K base e (.slice none 0 0) ([] : List α) :=
  ⟨[], World.ownsRow_nil _ _ _ _, rfl, fun i cs x h => by simp at h⟩

theorem OwnR.lt (h : OwnR size R w K base e v l) : ∀ k, v.ownBlock = some k → base ≤ k ∧ k < w.heap.size := by
  obtain ⟨ys, h1, _⟩ := h
  exact h1.lt

theorem OwnR.form (h : OwnR size R w K base e v l) : ∃ A c, v = .slice A l.length c := by
  obtain ⟨ys, h1, _⟩ := h
  exact own_slice h1

theorem OwnR.sl (h : OwnR size R w K base e v l) (hK : ∀ g, v.ownBlock = some g → K g) : SlR size R w K v l := by
  obtain ⟨ys, h1, h2, h3⟩ := h
  exact SlR.of_own h1 rfl rfl h2 h3 hK

/-- What holds the same in K, and in the row, keeps it. -/
theorem OwnR.keep (hR : Stab R) (h : OwnR size R w K base e v l) (ha : Agree K w w') (hk : ∀ b, K b → K' b) (hr : ∀ g, v.ownBlock = some g → w'.heap[g]? = w.heap[g]?) : OwnR size R w' K' base e v l := by
  obtain ⟨ys, h1, h2, h3⟩ := h
  refine ⟨ys, ⟨h1.1, ?_⟩, h2, fun i cs x a b => ⟨(h3 i cs x a b).1, hR _ _ _ _ _ _ (h3 i cs x a b).2 ha hk⟩⟩
  rcases h1.2 with h4 | ⟨g, cap, cur, hv, hg, hh, r⟩
  · exact .inl h4
  · exact .inr ⟨g, cap, cur, hv, hg, by rw [hr g (by rw [hv]; rfl)]; exact hh, r⟩

theorem OwnR.flat {enc : α → List Value} (h : w.ownsRow base e size v l.length (l.map enc).flatten) (hs : ∀ x, (enc x).length = size) : OwnR size (Flat enc) w K base e v l :=
  ⟨l.map enc, h, by simp, fun i cs x h1 h2 => by
    rw [List.getElem?_map, h2] at h1
    injection h1 with h1
    exact ⟨by rw [← h1]; exact hs x, h1.symm⟩⟩
end

theorem run_append_own_nil {P : Program} (w : World) (base : Nat) (t ty e : TypeId) (i : TypeInfo) (size : Nat) (ht : P.underlying t = some (.slice e)) (hi : P.info? e = some i)
    (v : Value) (n : Nat) (xs : List Value) (hown : w.ownsRow base e size v n xs) (c : Nat) :
    (Builtin.append_ #[t, t] ty #[v, .slice none 0 c]).run P w = .ok v w := by
  rcases hown.2 with ⟨rfl, rfl⟩ | ⟨g, cap, cur, rfl, _, _, hnc, _⟩
  · simp [Builtin.append_, run_underlying ht, sizeOf, typeInfo, hi, Builtin.lenOf, Builtin.firstCells]
  · simp [Builtin.append_, run_underlying ht, sizeOf, typeInfo, hi, Builtin.lenOf, Builtin.firstCells, hnc, storeCells]

theorem flatten_at {size : Nat} : ∀ (ys : List (List Value)) (j : Nat) (u : Value), (∀ (i : Nat) cs, ys[i]? = some cs → cs.length = size) → ys.flatten[j]? = some u → ∃ i k cs, j = i * size + k ∧ ys[i]? = some cs ∧ cs[k]? = some u
  | [], j, u, _, h => by simp at h
  | y :: ys, j, u, hs, h => by
    have hy := hs 0 y rfl
    rw [List.flatten_cons] at h
    rcases Nat.lt_or_ge j y.length with hj | hj
    · rw [List.getElem?_append_left hj] at h
      exact ⟨0, j, y, by simp, rfl, h⟩
    · rw [List.getElem?_append_right hj] at h
      obtain ⟨i, k, cs, h1, h2, h3⟩ := flatten_at ys (j - y.length) u (fun i cs h => hs (i + 1) cs (by simpa using h)) h
      exact ⟨i + 1, k, cs, by rw [Nat.add_mul]; omega, by simpa using h2, h3⟩

/-- append(s, x...): s of the call's own, x whatever reads as a list. -/
theorem wpList_append_list {P : Program} {w : World} {ops : Array Oper} {rest : List Oper} {o : Oper} {a : Act} {Q : Exit → Act → World → Prop} {α : Type} {R : World → (Nat → Prop) → List Value → α → Prop}
    (hgd : o.guard = none) (s x : Operand) (t : TypeId) (ho : o.op = .call { callee := .builtin .append, args := #[s, x], argTypes := #[t, t] })
    (base : Nat) (e : TypeId) (i : TypeInfo) (z : Value) (size bytes : Nat) (ht : P.underlying t = some (.slice e)) (hi : P.info? e = some i) (hz : i.zero = some z)
    (hsize : i.size = size) (hby : i.bytes = bytes) (hzs : z.cells.size = size) (hsz : 0 < size)
    (v : Value) (K : Nat → Prop) (l : List α) (hs : a.eval s = v) (hown : OwnR size R w K base e v l)
    (vx : Value) (l2 : List α) (hx : a.eval x = vx) (hsrc : SlR size R w K vx l2)
    (h1 : ∀ cs x, R w K cs x → ∀ u ∈ cs, u.oneCell' = true) (h63 : l.length + l2.length ≤ maxLen) (hbytes : (l.length + l2.length) * bytes ≤ 140737488355328) (hbase : base ≤ w.heap.size)
    (hA : ∀ w', w.grownBy w' v.ownBlock → ∀ cs x, R w K cs x → R w' K cs x)
    (h : ∀ v' w', OwnR size R w' K base e v' (l ++ l2) → w.grownBy w' v.ownBlock → (v'.ownBlock = v.ownBlock ∨ v'.ownBlock = some w.heap.size) → wpList P ops Q rest (a.put o.dst v') w') :
    wpList P ops Q (o :: rest) a w := by
  obtain ⟨ys, hy, hyl, hyR⟩ := hown
  obtain ⟨A, c, xs, rfl, hc, hxl, hxR, hxc⟩ := hsrc
  have join : ∀ w', w.grownBy w' v.ownBlock → ∀ (i : Nat) cs x, (ys ++ xs)[i]? = some cs → (l ++ l2)[i]? = some x → cs.length = size ∧ R w' K cs x := fun w' ha i cs x g1 g2 => by
    by_cases hil : i < l.length
    · rw [List.getElem?_append_left (by omega)] at g1 g2
      exact ⟨(hyR i cs x g1 g2).1, hA w' ha _ _ (hyR i cs x g1 g2).2⟩
    · rw [List.getElem?_append_right (by omega)] at g1 g2
      rw [hyl] at g1
      exact ⟨(hxR _ cs x g1 g2).1, hA w' ha _ _ (hxR _ cs x g1 g2).2⟩
  have fin : ∀ v' w', w'.ownsRow base e size v' (l.length + l2.length) (ys.flatten ++ xs.flatten) → w.grownBy w' v.ownBlock → OwnR size R w' K base e v' (l ++ l2) := fun v' w' g1 g2 =>
    ⟨ys ++ xs, by rw [List.length_append, List.flatten_append]; exact g1, by simp [hyl, hxl], join w' g2⟩
  have hlen : ∀ (i : Nat) cs, xs[i]? = some cs → cs.length = size := fun i cs g => by
    have hil : i < l2.length := by
      rw [← hxl]
      rcases Nat.lt_or_ge i xs.length with h | h
      · exact h
      · rw [List.getElem?_eq_none h] at g; cases g
    exact (hxR i cs l2[i] g (List.getElem?_eq_getElem hil)).1
  have hnl : xs.flatten.length = l2.length * size := by
    rw [← hxl]
    clear join fin hxR hxc hxl hx
    induction xs with
    | nil => simp
    | cons y ys ih =>
      rw [List.flatten_cons, List.length_append, hlen 0 y rfl, ih (fun i cs h => hlen (i + 1) cs (by simpa using h)), List.length_cons, Nat.add_mul]
      omega
  have hone : ∀ u ∈ xs.flatten, u.oneCell' = true := fun u hu => by
    obtain ⟨cs, hcs, hu⟩ := List.mem_flatten.1 hu
    obtain ⟨i, hi⟩ := List.getElem?_of_mem hcs
    have hil : i < l2.length := by
      rw [← hxl]
      rcases Nat.lt_or_ge i xs.length with h | h
      · exact h
      · rw [List.getElem?_eq_none h] at hi; cases hi
    exact h1 cs l2[i] (hxR i cs l2[i] hi (List.getElem?_eq_getElem hil)).2 u hu
  cases A with
  | some ad =>
    refine wpList_append_own_at w hgd s x t ho base e i z size bytes ht hi hz hsize hby hzs hsz v l.length ys.flatten hs hy ad l2.length c xs.flatten hx hnl (fun j u hj => ?_) hone h63 hbytes hbase (fun v' w' g1 g2 _ g3 => h v' w' (fin v' w' g1 g2) g2 g3)
    have hpos : 0 < l2.length := by
      rcases Nat.lt_or_ge 0 l2.length with h | h
      · exact h
      · have : xs = [] := List.eq_nil_of_length_eq_zero (by omega)
        subst this; simp at hj
    obtain ⟨b, off, hA, hb, hcell⟩ := hxc hpos
    injection hA with hA
    subst hA
    obtain ⟨i, k, cs, hj2, hi2, hk2⟩ := flatten_at xs j u hlen hj
    rw [Addr.add_lit, hj2, ← Nat.add_assoc]
    exact hcell i k cs u hi2 hk2
  | none =>
    have hz2 : l2 = [] := by
      rcases Nat.lt_or_ge 0 l2.length with h | h
      · obtain ⟨b, off, hA, _⟩ := hxc h; cases hA
      · exact List.eq_nil_of_length_eq_zero (by omega)
    subst hz2
    have hr := run_append_own_nil (P := P) w base t o.type e i size ht hi v l.length ys.flatten hy c
    refine wpList_plain hgd fun K' hK' => ?_
    unfold Oper.wp execOp
    simp only [ho, resolve, invoke, builtin, Sem.run_bind, Sem.run_pure, Result.andThen_ok, List.map_toArray, List.map_cons, List.map_nil, hs, hx, List.length_nil, hr]
    refine hK' _ _ (h v w (by rw [List.append_nil]; exact ⟨ys, hy, hyl, hyR⟩) ⟨rfl, rfl, rfl, Nat.le_refl _, fun _ _ _ => rfl⟩ (.inl rfl))

theorem OwnR.raw {α : Type} {size : Nat} {enc : α → List Value} {w : World} {K : Nat → Prop} {base : Nat} {e : TypeId} {v : Value} {l : List α} (h : OwnR size (Flat enc) w K base e v l) : w.ownsRow base e size v l.length (l.map enc).flatten := by
  obtain ⟨ys, h1, h2, h3⟩ := h
  have : ys = l.map enc := by
    refine List.ext_getElem (by simp [h2]) fun i g1 g2 => ?_
    have := (h3 i _ _ (List.getElem?_eq_getElem g1) (List.getElem?_eq_getElem (by omega))).2
    rw [List.getElem_map]
    exact this
  rw [← this]
  exact h1

/-- The same, of elements that are told by their cells alone. -/
theorem wpList_append_flat {P : Program} {w : World} {ops : Array Oper} {rest : List Oper} {o : Oper} {a : Act} {Q : Exit → Act → World → Prop} {α : Type} {enc : α → List Value}
    (hgd : o.guard = none) (s x : Operand) (t : TypeId) (ho : o.op = .call { callee := .builtin .append, args := #[s, x], argTypes := #[t, t] })
    (base : Nat) (e : TypeId) (i : TypeInfo) (z : Value) (size bytes : Nat) (ht : P.underlying t = some (.slice e)) (hi : P.info? e = some i) (hz : i.zero = some z)
    (hsize : i.size = size) (hby : i.bytes = bytes) (hzs : z.cells.size = size) (hsz : 0 < size)
    (v : Value) (K : Nat → Prop) (l : List α) (hs : a.eval s = v) (hown : w.ownsRow base e size v l.length (l.map enc).flatten) (hen : ∀ x, (enc x).length = size)
    (vx : Value) (l2 : List α) (hx : a.eval x = vx) (hsrc : SlR size (Flat enc) w K vx l2)
    (h1 : ∀ x, ∀ u ∈ enc x, u.oneCell' = true) (h63 : l.length + l2.length ≤ maxLen) (hbytes : (l.length + l2.length) * bytes ≤ 140737488355328) (hbase : base ≤ w.heap.size)
    (h : ∀ v' w', w'.ownsRow base e size v' (l ++ l2).length ((l ++ l2).map enc).flatten → w.grownBy w' v.ownBlock → (v'.ownBlock = v.ownBlock ∨ v'.ownBlock = some w.heap.size) → wpList P ops Q rest (a.put o.dst v') w') :
    wpList P ops Q (o :: rest) a w :=
  wpList_append_list hgd s x t ho base e i z size bytes ht hi hz hsize hby hzs hsz v K l hs (OwnR.flat hown hen) vx l2 hx hsrc (fun cs x g u hu => h1 x u (by unfold Flat at g; rw [← g]; exact hu)) h63 hbytes hbase
    (fun _ _ _ _ g => g) fun v' w' g1 g2 g3 => h v' w' g1.raw g2 g3

/-- A block of one element, as a slice of one. -/
theorem SlR.one {α : Type} {size : Nat} {R : World → (Nat → Prop) → List Value → α → Prop} {w : World} {K : Nat → Prop} {g : Nat} {t : TypeId} {cs : Array Value} {x : α} (h : Blk w g t cs) (hl : cs.size = size) (hR : R w K cs.toList x) (hK : K g) :
    SlR size R w K (.slice (some ⟨g, 0, none⟩) 1 1) [x] := by
  refine ⟨some ⟨g, 0, none⟩, 1, [cs.toList], rfl, by simp, rfl, fun i ds y h1 h2 => ?_, fun _ => ⟨g, 0, rfl, hK, fun i j ds u h1 h2 => ?_⟩⟩
  · cases i with
    | zero => simp at h1 h2; subst h1 h2; exact ⟨by simpa using hl, hR⟩
    | succ i => simp at h1
  · cases i with
    | zero =>
      simp at h1; subst h1
      have := h.cell j
      simp only [Nat.zero_mul, Nat.zero_add]
      rw [this]
      simpa using h2
    | succ i => simp at h1
end Go.Inq

namespace Go.Inq
open Go Go.RowKit

def encI (n : Int) : List Value := [.int .i64 n]
/-- A slice of numbers. -/
def IntS (w : World) (K : Nat → Prop) (v : Value) (l : List Int) : Prop := SlR 1 (Flat Go.Inq.encI) w K v l

section
variable {w w' : World} {K K' : Nat → Prop} {v : Value} {l : List Int}
theorem IntS.keep (h : IntS w K v l) (ha : Agree K w w') (hk : ∀ b, K b → K' b) : IntS w' K' v l := SlR.keep (Flat.stab _) h ha hk
theorem IntS.below (h : IntS w (Old w) v l) (hb : Below w.heap.size w w') : IntS w' (Old w') v l := SlR.below (Flat.stab _) h hb
theorem IntS.fit (h : IntS w K v l) (hk : ∀ b, K b → K' b) : IntS w K' v l := SlR.fit (Flat.stab _) h hk
theorem IntS.form (h : IntS w K v l) : ∃ A c, v = .slice A l.length c := by
  obtain ⟨A, c, hv, _⟩ := SlR.len h
  exact ⟨A, c, hv⟩
theorem IntS.at_ {A : Option Addr} {n c : Nat} (h : IntS w K (.slice A n c) l) {i : Nat} (hi : i < l.length) : ∃ b off, A = some ⟨b, off, none⟩ ∧ K b ∧ w.cell? ⟨b, off + i, none⟩ = some (.int .i64 l[i]) := by
  obtain ⟨b, off, cs, hA, hK, _, hR, hc⟩ := SlR.at_ h hi
  unfold Flat at hR
  subst hR
  have := hc 0 _ rfl
  rw [Nat.mul_one, Nat.add_zero] at this
  exact ⟨b, off, hA, hK, this⟩
theorem IntS.cells {b off n c : Nat} (h : IntS w K (.slice (some ⟨b, off, none⟩) n c) l) {i : Nat} (hi : i < l.length) : K b ∧ w.cell? ⟨b, off + i, none⟩ = some (.int .i64 l[i]) := by
  obtain ⟨cs, hK, _, hR, hc⟩ := SlR.cells h hi
  unfold Flat at hR
  subst hR
  have := hc 0 _ rfl
  rw [Nat.mul_one, Nat.add_zero] at this
  exact ⟨hK, this⟩
theorem IntS.nil (w : World) (K : Nat → Prop) (A : Option Addr) (c : Nat) : IntS w K (.slice A 0 c) [] := SlR.nil _ _ _ _ _ _
/-- A block of numbers, whole. -/
theorem IntS.of_blk {g : Nat} {t : TypeId} (h : Blk w g t (l.map (Value.int .i64)).toArray) (hK : K g) : IntS w K (.slice (some ⟨g, 0, none⟩) l.length l.length) l := by
  refine ⟨some ⟨g, 0, none⟩, l.length, l.map Go.Inq.encI, rfl, Nat.le_refl _, by simp, fun i cs x h1 h2 => ?_, fun _ => ⟨g, 0, rfl, hK, fun i j cs u h1 h2 => ?_⟩⟩
  · rw [List.getElem?_map, h2] at h1
    injection h1 with h1
    exact ⟨by rw [← h1]; rfl, h1.symm⟩
  · rw [List.getElem?_map] at h1
    cases hl : l[i]? with
    | none => rw [hl] at h1; cases h1
    | some x =>
      rw [hl] at h1
      injection h1 with h1
      subst h1
      cases j with
      | zero =>
        injection h2 with h2
        rw [Nat.zero_add, Nat.mul_one, Nat.add_zero, h.cell, List.getElem?_toArray, List.getElem?_map, hl, ← h2]
        rfl
      | succ j => simp [Go.Inq.encI] at h2
end
theorem encI_one : ∀ (x : Int), ∀ u ∈ Go.Inq.encI x, u.oneCell' = true := by
  intro x u hu
  simp [Go.Inq.encI] at hu
  subst hu
  rfl
end Go.Inq

namespace Go.Inq
open Go Go.RowKit

theorem SlR.form {α : Type} {size : Nat} {R : World → (Nat → Prop) → List Value → α → Prop} {w : World} {K : Nat → Prop} {v : Value} {l : List α} (h : SlR size R w K v l) : ∃ A c, v = .slice A l.length c := by
  obtain ⟨A, c, hv, _⟩ := SlR.len h
  exact ⟨A, c, hv⟩
/-- A transaction's cells. -/
def TxR (w : World) (K : Nat → Prop) (cs : List Value) (t : Tx) : Prop := ∃ vo, cs = [.int .i64 t.sess, .bool t.done, .int .i64 t.first, vo] ∧ EvS w K vo t.ops
theorem TxR.stab : Stab TxR := fun _ _ _ _ _ _ h ha hk => by
  obtain ⟨vo, h1, h2⟩ := h
  exact ⟨vo, h1, EvS.keep h2 ha hk⟩
theorem TxR.one {w : World} {K : Nat → Prop} {cs : List Value} {t : Tx} (h : TxR w K cs t) : ∀ u ∈ cs, u.oneCell' = true := by
  obtain ⟨vo, rfl, h2⟩ := h
  obtain ⟨A, c, rfl⟩ := SlR.form h2
  intro u hu
  simp at hu
  rcases hu with rfl | rfl | rfl | rfl <;> rfl
/-- A slice of transactions. -/
def TxS (w : World) (K : Nat → Prop) (v : Value) (l : List Tx) : Prop := SlR 4 TxR w K v l
section
variable {w w' : World} {K K' : Nat → Prop} {v : Value} {l : List Tx}
theorem TxS.keep (h : TxS w K v l) (ha : Agree K w w') (hk : ∀ b, K b → K' b) : TxS w' K' v l := SlR.keep TxR.stab h ha hk
theorem TxS.below (h : TxS w (Old w) v l) (hb : Below w.heap.size w w') : TxS w' (Old w') v l := SlR.below TxR.stab h hb
theorem TxS.fit (h : TxS w K v l) (hk : ∀ b, K b → K' b) : TxS w K' v l := SlR.fit TxR.stab h hk
theorem TxS.at_ {A : Option Addr} {n c : Nat} (h : TxS w K (.slice A n c) l) {i : Nat} (hi : i < l.length) :
    ∃ b off A' c', A = some ⟨b, off, none⟩ ∧ K b ∧ w.cell? ⟨b, off + i * 4, none⟩ = some (.int .i64 l[i].sess) ∧ w.cell? ⟨b, off + i * 4 + 1, none⟩ = some (.bool l[i].done) ∧
      w.cell? ⟨b, off + i * 4 + 2, none⟩ = some (.int .i64 l[i].first) ∧ w.cell? ⟨b, off + i * 4 + 3, none⟩ = some (.slice A' l[i].ops.length c') ∧ EvS w K (.slice A' l[i].ops.length c') l[i].ops := by
  obtain ⟨b, off, cs, hA, hK, _, ⟨vo, hcs, hev⟩, hc⟩ := SlR.at_ h hi
  obtain ⟨A', c', rfl⟩ := SlR.form hev
  subst hcs
  exact ⟨b, off, A', c', hA, hK, hc 0 _ rfl, hc 1 _ rfl, hc 2 _ rfl, hc 3 _ rfl, hev⟩
end
/-- A history's transaction's cells. -/
def TxnR (w : World) (K : Nat → Prop) (cs : List Value) (t : Txn) : Prop := ∃ vw vr, cs = [.int .i64 t.sess, vw, vr] ∧ IntS w K vw t.writes ∧ ItS w K vr t.reads
theorem TxnR.stab : Stab TxnR := fun _ _ _ _ _ _ h ha hk => by
  obtain ⟨vw, vr, h1, h2, h3⟩ := h
  exact ⟨vw, vr, h1, IntS.keep h2 ha hk, ItS.keep h3 ha hk⟩
theorem TxnR.one {w : World} {K : Nat → Prop} {cs : List Value} {t : Txn} (h : TxnR w K cs t) : ∀ u ∈ cs, u.oneCell' = true := by
  obtain ⟨vw, vr, rfl, h2, h3⟩ := h
  obtain ⟨A, c, rfl⟩ := SlR.form h2
  obtain ⟨A', c', rfl⟩ := SlR.form h3
  intro u hu
  simp at hu
  rcases hu with rfl | rfl | rfl <;> rfl
/-- A slice of a history's transactions. -/
def TxnS (w : World) (K : Nat → Prop) (v : Value) (l : List Txn) : Prop := SlR 3 TxnR w K v l
section
variable {w w' : World} {K K' : Nat → Prop} {v : Value} {l : List Txn}
theorem TxnS.keep (h : TxnS w K v l) (ha : Agree K w w') (hk : ∀ b, K b → K' b) : TxnS w' K' v l := SlR.keep TxnR.stab h ha hk
theorem TxnS.below (h : TxnS w (Old w) v l) (hb : Below w.heap.size w w') : TxnS w' (Old w') v l := SlR.below TxnR.stab h hb
theorem TxnS.fit (h : TxnS w K v l) (hk : ∀ b, K b → K' b) : TxnS w K' v l := SlR.fit TxnR.stab h hk
theorem TxnS.nil (w : World) (K : Nat → Prop) (A : Option Addr) (c : Nat) : TxnS w K (.slice A 0 c) [] := SlR.nil _ _ _ _ _ _
theorem TxnS.at_ {A : Option Addr} {n c : Nat} (h : TxnS w K (.slice A n c) l) {i : Nat} (hi : i < l.length) :
    ∃ b off Aw cw Ar cr, A = some ⟨b, off, none⟩ ∧ K b ∧ w.cell? ⟨b, off + i * 3, none⟩ = some (.int .i64 l[i].sess) ∧ w.cell? ⟨b, off + i * 3 + 1, none⟩ = some (.slice Aw l[i].writes.length cw) ∧
      w.cell? ⟨b, off + i * 3 + 2, none⟩ = some (.slice Ar l[i].reads.length cr) ∧ IntS w K (.slice Aw l[i].writes.length cw) l[i].writes ∧ ItS w K (.slice Ar l[i].reads.length cr) l[i].reads := by
  obtain ⟨b, off, cs, hA, hK, _, ⟨vw, vr, hcs, h1, h2⟩, hc⟩ := SlR.at_ h hi
  obtain ⟨Aw, cw, rfl⟩ := SlR.form h1
  obtain ⟨Ar, cr, rfl⟩ := SlR.form h2
  subst hcs
  exact ⟨b, off, Aw, cw, Ar, cr, hA, hK, hc 0 _ rfl, hc 1 _ rfl, hc 2 _ rfl, h1, h2⟩
end
end Go.Inq

namespace Go.Proofs.YtfhnamomiaekdaaGreatDoor
open Go.RowKit Go.Inq
set_option maxHeartbeats 1000000
attribute [local go_sem ↓] Go.wp_at_zero Go.wp_at_succ

theorem ints_any (A A' : Option Addr) (c c' : Nat) (l l' : List Int) (w : World) (h : IntS w (Old w) (.slice A l.length c) l) (h' : IntS w (Old w) (.slice A' l'.length c') l') (hn : l.length ≤ 1000000) (hn' : l'.length ≤ 1000000) :
    Calls Tryz.prog 64 #[.slice A l.length c, .slice A' l'.length c'] w fun e w' => e = .returned (.bool (decide (l = l'))) ∧ Below w.heap.size w w' := by
  rcases Nat.decEq l.length l'.length with hlen | hlen
  rotate_left
  · rw [← hlen] at h' ⊢
    have hlen2 := hide hlen
    clear hn' hlen
    go_enter Tryz.func64, Tryz.ntmps64
    go_wp2
    go_loopw [5] (fun s5 wr => ∃ i : Nat, i ≤ l.length ∧ s5 = .int .i64 i ∧ Hid (∀ j (hj : j < l.length) (hj' : j < l'.length), j < i → l[j] = l'[j]) ∧ Below w.heap.size w wr) (fun s5 _ => l.length - (intOf s5).toNat)
    case atStart => exact ⟨0, Nat.zero_le _, by go_num, fun j _ _ h => absurd h (by omega), Below.refl _ _⟩
    case round =>
      obtain ⟨i, hi, rfl, hall, hb⟩ := hrel
      by_cases hlt : i < l.length
      · have hlt' : i < l'.length := by have := hlen2.out; omega
        have hw := IntS.below h hb
        have hw' := IntS.below h' hb
        obtain ⟨b, off, rfl, hbK, c0⟩ := IntS.at_ hw hlt
        obtain ⟨b', off', rfl, hbK', d0⟩ := IntS.at_ hw' hlt'
        have hi1 : (0 : Int) ≤ (i : Int) := Int.natCast_nonneg _
        have hi2 : (i : Int) < (l.length : Int) := by omega
        by_cases he : l[i] = l'[i]
        · have hstep : Hid (∀ j (hj : j < l.length) (hj' : j < l'.length), j < i + 1 → l[j] = l'[j]) := fun j hj hj' hji => by
            by_cases hje : j = i
            · subst hje; exact he
            · exact hall.out j hj hj' (by omega)
          rw [← he] at d0
          clear he
          generalize l[i] = x at *
          go_wp2
          go_quiet (fail)
          go_wp2
          go_roundw
          case rel => exact ⟨i + 1, by omega, by go_num, hstep, ⟨hb.os, hb.tape, hb.output, hb.size, hb.block⟩⟩
          case measure => simp [intOf]; omega
        · have hf : l ≠ l' := fun e => he (by subst e; rfl)
          replace hf := hide hf
          have hne : (l[i] != l'[i]) = true := by simpa using he
          clear he
          generalize l[i] = x at *
          generalize l'[i] = x' at *
          go_wp2
          go_quiet (fail)
          go_wp2
          go_ret
          exact ⟨by simp [hf.out], ⟨hb.os, hb.tape, hb.output, hb.size, hb.block⟩⟩
      · have he : l = l' := List.ext_getElem hlen2.out (fun j h1 h2 => hall.out j h1 h2 (by omega))
        have : i = l.length := by omega
        subst this
        go_wp2
        go_ret
        exact ⟨by simp [he], hb⟩
  · have hf : l ≠ l' := fun e => hlen (by rw [e])
    go_enter Tryz.func64, Tryz.ntmps64
    go_wp2
    go_ret
    exact ⟨by simp [hf], Below.refl _ _⟩

/-- A history's row, of few, and short. -/
def SmallH (l : List Txn) : Prop := l.length ≤ 1000000 ∧ ∀ t ∈ l, t.writes.length ≤ 1000000 ∧ t.reads.length ≤ 1000000
end Go.Proofs.YtfhnamomiaekdaaGreatDoor

namespace Go.Inq
open Go Go.RowKit

/-- The last transaction of a session. -/
def lastIx : List Tx → Int → Option Nat
  | [], _ => none
  | t :: r, s => match lastIx r s with
    | some k => some (k + 1)
    | none => if t.sess = s then some 0 else none
theorem lastIx_lt {l : List Tx} {s : Int} {k : Nat} (h : lastIx l s = some k) : ∃ hk : k < l.length, l[k].sess = s := by
  induction l generalizing k with
  | nil => cases h
  | cons t r ih =>
    unfold lastIx at h
    cases hr : lastIx r s with
    | some j =>
      rw [hr] at h
      injection h with h
      subst h
      obtain ⟨hj, he⟩ := ih hr
      exact ⟨by simp; omega, by simpa using he⟩
    | none =>
      rw [hr] at h
      dsimp only at h
      split at h
      · injection h with h; subst h; exact ⟨by simp, by simpa using by assumption⟩
      · cases h
theorem lastIx_snoc (l : List Tx) (t : Tx) (s : Int) : lastIx (l ++ [t]) s = if t.sess = s then some l.length else lastIx l s := by
  induction l with
  | nil => simp [lastIx]
  | cons u r ih =>
    rw [List.cons_append, lastIx, ih]
    by_cases h : t.sess = s
    · rw [if_pos h, if_pos h]; simp
    · rw [if_neg h, if_neg h, lastIx]
theorem lastIx_set {l : List Tx} {k : Nat} {t : Tx} (h : ∀ u, l[k]? = some u → t.sess = u.sess) (s : Int) : lastIx (l.set k t) s = lastIx l s := by
  induction l generalizing k with
  | nil => rfl
  | cons u r ih =>
    cases k with
    | zero =>
      have := h u rfl
      rw [List.set_cons_zero, lastIx, lastIx, this]
    | succ k =>
      rw [List.set_cons_succ, lastIx, lastIx, ih (fun v hv => h v (by simpa using hv))]
/-- By steps from the end: the reference's search. -/
def lastTo (l : List Tx) (s : Int) (n : Nat) : Option Nat := lastIx (l.take n) s
theorem lastTo_step {l : List Tx} {s : Int} {n : Nat} (hn : n < l.length) : lastTo l s (n + 1) = if l[n].sess = s then some n else lastTo l s n := by
  unfold lastTo
  rw [List.take_succ_eq_append_getElem hn, lastIx_snoc, List.length_take, Nat.min_eq_left (by omega)]

structure Grp where
  out : List Tx
  opn : List Bool
/-- Whether a transaction of the session is open: which one. -/
def Grp.at_ (g : Grp) (s : Int) : Option Nat := match lastIx g.out s with
  | some k => if g.opn[k]? = some true then some k else none
  | none => none
/-- What is wrong with an event. -/
def Grp.bad (g : Grp) (e : Ev) : Int :=
  if e.right = false then 1
  else if e.kind = 0 then (if (g.at_ e.sess).isSome then 5 else if g.out.length = 32 then 4 else 0)
  else if (g.at_ e.sess).isSome then 0 else 6
def addOp (t : Tx) (e : Ev) : Tx := { t with ops := t.ops ++ [e] }
def shutT (t : Tx) (b : Bool) : Tx := { t with done := b }
def noTx : Tx := ⟨0, false, 0, []⟩
/-- One event more. -/
def Grp.next (g : Grp) (i : Nat) (e : Ev) : Grp :=
  if e.kind = 0 then ⟨g.out ++ [⟨e.sess, false, i, []⟩], g.opn ++ [true]⟩
  else match g.at_ e.sess with
    | none => g
    | some k => if e.kind = 1 ∨ e.kind = 2 then ⟨g.out.set k (addOp (g.out[k]?.getD noTx) e), g.opn⟩
      else ⟨g.out.set k (shutT (g.out[k]?.getD noTx) (decide (e.kind = 3))), g.opn.set k false⟩
def grpTo (l : List Ev) : Nat → Grp
  | 0 => ⟨[], []⟩
  | n + 1 => match l[n]? with
    | some e => (grpTo l n).next n e
    | none => grpTo l n
def grpBad (l : List Ev) (i : Nat) : Int := match l[i]? with | some e => (grpTo l i).bad e | none => 0
/-- Events' transactions; or which event is wrong, and how. -/
def groupR (l : List Ev) : List Tx × Int × Int := match firstN l.length (grpBad l) with
  | some i => ([], i, grpBad l i)
  | none => ((grpTo l l.length).out, 0, 0)
theorem grpTo_step {l : List Ev} {i : Nat} (hi : i < l.length) : grpTo l (i + 1) = (grpTo l i).next i l[i] := by
  rw [grpTo, List.getElem?_eq_getElem hi]
theorem grpBad_at {l : List Ev} {i : Nat} (hi : i < l.length) : grpBad l i = (grpTo l i).bad l[i] := by
  unfold grpBad; rw [List.getElem?_eq_getElem hi]
theorem groupR_bad {l : List Ev} {i : Nat} (hi : i < l.length) (hj : ∀ j, j < i → grpBad l j = 0) (hb : grpBad l i ≠ 0) : groupR l = ([], (i : Int), grpBad l i) := by
  unfold groupR; rw [firstN_some hi hj hb]
theorem groupR_good {l : List Ev} (hj : ∀ j, j < l.length → grpBad l j = 0) : groupR l = ((grpTo l l.length).out, 0, 0) := by
  unfold groupR; rw [firstN_none hj]

theorem Grp.next_len (g : Grp) (i : Nat) (e : Ev) (h : g.out.length = g.opn.length) : (g.next i e).out.length = (g.next i e).opn.length := by
  unfold Grp.next
  split
  · simp [h]
  · split
    · exact h
    · split
      · simp [h]
      · simp [h]
theorem grpTo_len (l : List Ev) : ∀ n, (grpTo l n).out.length = (grpTo l n).opn.length
  | 0 => rfl
  | n + 1 => by
    rw [grpTo]
    split
    · exact Grp.next_len _ _ _ (grpTo_len l n)
    · exact grpTo_len l n
theorem Grp.at_lt {g : Grp} {s : Int} {k : Nat} (h : g.at_ s = some k) : k < g.out.length ∧ k < g.opn.length ∧ g.opn[k]? = some true ∧ lastIx g.out s = some k := by
  unfold Grp.at_ at h
  cases hl : lastIx g.out s with
  | none => rw [hl] at h; cases h
  | some j =>
    rw [hl] at h
    dsimp only at h
    split at h
    · rename_i ho
      injection h with h
      subst h
      obtain ⟨hk, _⟩ := lastIx_lt hl
      refine ⟨hk, ?_, ho, rfl⟩
      rcases Nat.lt_or_ge j g.opn.length with g1 | g1
      · exact g1
      · rw [List.getElem?_eq_none g1] at ho; cases ho
    · cases h
theorem Grp.at_begin {g : Grp} {e : Ev} {i : Nat} (h : g.out.length = g.opn.length) (hk : e.kind = 0) (s : Int) : (g.next i e).at_ s = if s = e.sess then some g.out.length else g.at_ s := by
  unfold Grp.next
  rw [if_pos hk]
  unfold Grp.at_
  dsimp only
  rw [lastIx_snoc]
  dsimp only
  by_cases hs : s = e.sess
  · rw [if_pos hs.symm, if_pos hs]
    dsimp only
    rw [h, List.getElem?_append_right (Nat.le_refl _)]
    simp
  · rw [if_neg (fun x => hs x.symm), if_neg hs]
    cases hl : lastIx g.out s with
    | none => rfl
    | some k =>
      obtain ⟨hk2, _⟩ := lastIx_lt hl
      dsimp only
      rw [List.getElem?_append_left (by omega)]
theorem Grp.at_op {g : Grp} {e : Ev} {i k : Nat} (hk : e.kind = 1 ∨ e.kind = 2) (ha : g.at_ e.sess = some k) (s : Int) : (g.next i e).at_ s = g.at_ s := by
  unfold Grp.next
  rw [if_neg (by omega), ha]
  dsimp only
  rw [if_pos hk]
  unfold Grp.at_
  dsimp only
  rw [lastIx_set fun u hu => by rw [hu]; rfl]
theorem Grp.at_shut {g : Grp} {e : Ev} {i k : Nat} (h0 : e.kind ≠ 0) (h12 : ¬ (e.kind = 1 ∨ e.kind = 2)) (ha : g.at_ e.sess = some k) (s : Int) : (g.next i e).at_ s = if s = e.sess then none else g.at_ s := by
  obtain ⟨h1, h2, h3, h4⟩ := Grp.at_lt ha
  unfold Grp.next
  rw [if_neg h0, ha]
  dsimp only
  rw [if_neg h12]
  unfold Grp.at_
  dsimp only
  rw [lastIx_set fun u hu => by rw [hu]; rfl]
  by_cases hs : s = e.sess
  · subst hs
    rw [if_pos rfl, h4]
    dsimp only
    rw [List.getElem?_set_self (by omega), if_neg (by simp)]
  · rw [if_neg hs]
    cases hl : lastIx g.out s with
    | none => rfl
    | some j =>
      obtain ⟨hj, hjs⟩ := lastIx_lt hl
      obtain ⟨hk2, hks⟩ := lastIx_lt h4
      have : k ≠ j := by
        intro e2
        subst e2
        exact hs (hjs.symm.trans hks)
      dsimp only
      rw [List.getElem?_set_ne this]

def txEvents (t : Tx) : List Ev := ⟨0, t.sess, 0, 0⟩ :: t.ops ++ [⟨if t.done = true then 3 else 4, t.sess, 0, 0⟩]
/-- Transactions as events. -/
def eventsR (l : List Tx) : List Ev := (l.map txEvents).flatten
theorem eventsR_snoc (l : List Tx) (t : Tx) : eventsR (l ++ [t]) = eventsR l ++ txEvents t := by
  unfold eventsR; simp
end Go.Inq

namespace Go.Inq
open Go Go.RowKit

def lastK (l : List Int) : Int := (l.getLast?).getD (-1)
theorem lastK_nil : lastK [] = -1 := rfl
theorem lastK_snoc (l : List Int) (k : Int) : lastK (l ++ [k]) = k := by simp [lastK]
/-- Is the key at place j greater than the one ahead, and a key? -/
def wF (l : List Int) (j : Nat) : Bool := match l[j]? with | some k => decide (lastK (l.take j) < k) && decide (k < 16) | none => true
theorem wF_at {l : List Int} {j : Nat} (h : j < l.length) : wF l j = (decide (lastK (l.take j) < l[j]) && decide (l[j] < 16)) := by
  unfold wF; rw [List.getElem?_eq_getElem h]
def wFs (l : List Int) (n : Nat) : List Bool := (List.range n).map (wF l)
theorem wFs_step (l : List Int) (n : Nat) : wFs l (n + 1) = wFs l n ++ [wF l n] := by unfold wFs; rw [List.range_succ, List.map_append]; rfl
def wrOf (H : List Txn) (i : Int) : List Int := ((H[i.toNat]?).map (·.writes)).getD []
/-- May a read of transaction n be from where it says? -/
def thereB (H : List Txn) (n : Nat) (x : It) : Bool := x.b == -1 || (decide (0 ≤ x.b) && decide (x.b < (H.length : Int)) && x.b != (n : Int) && (wrOf H x.b).contains x.a)
def rF (H : List Txn) (n : Nat) (l : List It) (j : Nat) : Bool := match l[j]? with | some x => decide (lastK ((l.take j).map (·.a)) < x.a) && decide (x.a < 16) && thereB H n x | none => true
theorem rF_at {H : List Txn} {n : Nat} {l : List It} {j : Nat} (h : j < l.length) : rF H n l j = (decide (lastK ((l.take j).map (·.a)) < l[j].a) && decide (l[j].a < 16) && thereB H n l[j]) := by
  unfold rF; rw [List.getElem?_eq_getElem h]
def rFs (H : List Txn) (m : Nat) (l : List It) (n : Nat) : List Bool := (List.range n).map (rF H m l)
theorem rFs_step (H : List Txn) (m : Nat) (l : List It) (n : Nat) : rFs H m l (n + 1) = rFs H m l n ++ [rF H m l n] := by unfold rFs; rw [List.range_succ, List.map_append]; rfl
/-- What is told of one transaction. -/
def txF (H : List Txn) (n : Nat) : List Bool := match H[n]? with
  | some t => wFs t.writes t.writes.length ++ rFs H n t.reads t.reads.length ++ [belowB t.sess 8]
  | none => []
theorem txF_at {H : List Txn} {n : Nat} (h : n < H.length) : txF H n = wFs H[n].writes H[n].writes.length ++ rFs H n H[n].reads H[n].reads.length ++ [belowB H[n].sess 8] := by
  unfold txF; rw [List.getElem?_eq_getElem h]
def faultsTo (H : List Txn) (n : Nat) : List Bool := ((List.range n).map (txF H)).flatten
theorem faultsTo_step (H : List Txn) (n : Nat) : faultsTo H (n + 1) = faultsTo H n ++ txF H n := by
  unfold faultsTo; rw [List.range_succ, List.map_append, List.flatten_append]; simp
def faultsL (H : List Txn) : List Bool := decide (H.length ≤ 32) :: faultsTo H H.length
/-- May a history be? -/
def rightH (H : List Txn) : Bool := (faultsL H).all id

theorem pre_false {l p : List Bool} (h : p <+: l) (hf : false ∈ p) : l.all id = false := by
  rw [List.all_eq_false]
  exact ⟨false, h.subset hf, by simp⟩
/-- A row of keys that rises. -/
theorem rise_iff (l : List Int) (n : Nat) (hn : n ≤ l.length) : (wFs l n).all id = true ↔ (l.take n).Pairwise (· < ·) ∧ ∀ k ∈ l.take n, 0 ≤ k ∧ k < 16 := by
  induction n with
  | zero => simp [wFs]
  | succ n ih =>
    rw [wFs_step, List.all_append, Bool.and_eq_true, ih (by omega), List.take_succ_eq_append_getElem (by omega), List.pairwise_append]
    rw [show ([wF l n].all id = true) = (wF l n = true) by simp, wF_at (by omega), Bool.and_eq_true, decide_eq_true_eq, decide_eq_true_eq]
    have hmid : ∀ (P : List Int) (k : Int), P.Pairwise (· < ·) → (∀ y ∈ P, 0 ≤ y ∧ y < 16) → (lastK P < k ↔ (∀ y ∈ P, y < k) ∧ 0 ≤ k) := by
      intro P k h1 h2
      rcases List.eq_nil_or_concat P with rfl | ⟨Q, z, rfl⟩
      · simp [lastK]; omega
      · rw [List.concat_eq_append] at *
        rw [lastK_snoc]
        have hz := h2 z (by simp)
        constructor
        · intro g
          refine ⟨fun y hy => ?_, by omega⟩
          rcases List.mem_append.1 hy with hy | hy
          · have := (List.pairwise_append.1 h1).2.2 y hy z (by simp); omega
          · simp at hy; omega
        · intro g; exact g.1 z (by simp)
    constructor
    · rintro ⟨⟨h1, h2⟩, h3, h4⟩
      have := (hmid _ _ h1 h2).1 h3
      refine ⟨⟨h1, by simp, fun y hy z hz => ?_⟩, fun k hk => ?_⟩
      · simp at hz; subst hz; exact this.1 y hy
      · rcases List.mem_append.1 hk with hk | hk
        · exact h2 k hk
        · simp at hk; subst hk; exact ⟨this.2, h4⟩
    · rintro ⟨⟨h1, _, h3⟩, h4⟩
      have g2 : ∀ k ∈ l.take n, 0 ≤ k ∧ k < 16 := fun k hk => h4 k (List.mem_append.2 (.inl hk))
      have g3 := h4 l[n] (List.mem_append.2 (.inr (by simp)))
      exact ⟨⟨h1, g2⟩, (hmid _ _ h1 g2).2 ⟨fun y hy => h3 y hy _ (by simp), g3.1⟩, g3.2⟩
theorem rises_iff (H : List Txn) (m : Nat) (l : List It) (n : Nat) (hn : n ≤ l.length) : (rFs H m l n).all id = true ↔ (wFs (l.map (·.a)) n).all id = true ∧ ∀ x ∈ l.take n, thereB H m x = true := by
  induction n with
  | zero => simp [wFs, rFs]
  | succ n ih =>
    rw [rFs_step, wFs_step, List.all_append, List.all_append, Bool.and_eq_true, Bool.and_eq_true, ih (by omega), List.take_succ_eq_append_getElem (by omega)]
    rw [show ([wF (l.map (·.a)) n].all id = true) = (wF (l.map (·.a)) n = true) by simp, show ([rF H m l n].all id = true) = (rF H m l n = true) by simp, rF_at (by omega), wF_at (by rw [List.length_map]; omega), List.getElem_map, ← List.map_take, Bool.and_eq_true (_ && _)]
    constructor
    · rintro ⟨⟨h1, h2⟩, h3, h4⟩
      refine ⟨⟨h1, h3⟩, fun x hx => ?_⟩
      rcases List.mem_append.1 hx with hx | hx
      · exact h2 x hx
      · simp at hx; subst hx; exact h4
    · rintro ⟨⟨h1, h2⟩, h3⟩
      exact ⟨⟨h1, fun x hx => h3 x (List.mem_append.2 (.inl hx))⟩, h2, h3 _ (List.mem_append.2 (.inr (by simp)))⟩
/-- What is right of one transaction. -/
structure TxnOk (H : List Txn) (n : Nat) (t : Txn) : Prop where
  wrise : t.writes.Pairwise (· < ·)
  wkey : ∀ k ∈ t.writes, 0 ≤ k ∧ k < 16
  rrise : (t.reads.map (·.a)).Pairwise (· < ·)
  rkey : ∀ x ∈ t.reads, 0 ≤ x.a ∧ x.a < 16
  there : ∀ x ∈ t.reads, thereB H n x = true
  sess : 0 ≤ t.sess ∧ t.sess < 8
theorem txF_iff {H : List Txn} {n : Nat} (h : n < H.length) : (txF H n).all id = true ↔ TxnOk H n H[n] := by
  rw [txF_at h, List.all_append, List.all_append, Bool.and_eq_true, Bool.and_eq_true, rise_iff _ _ (Nat.le_refl _), rises_iff _ _ _ _ (Nat.le_refl _), rise_iff _ _ (by simp)]
  rw [List.take_length, List.take_length, List.take_of_length_le (show (H[n].reads.map (·.a)).length ≤ H[n].reads.length by simp)]
  have hs : ([belowB H[n].sess 8].all id = true) ↔ 0 ≤ H[n].sess ∧ H[n].sess < 8 := by simp [belowB]
  rw [hs]
  constructor
  · rintro ⟨⟨⟨h1, h2⟩, ⟨h3, h4⟩, h5⟩, h6⟩
    exact ⟨h1, h2, h3, fun x hx => h4 _ (List.mem_map_of_mem hx), h5, h6⟩
  · rintro ⟨h1, h2, h3, h4, h5, h6⟩
    exact ⟨⟨⟨h1, h2⟩, ⟨h3, fun k hk => by obtain ⟨x, hx, rfl⟩ := List.mem_map.1 hk; exact h4 x hx⟩, h5⟩, h6⟩
theorem faultsTo_iff (H : List Txn) (n : Nat) (hn : n ≤ H.length) : (faultsTo H n).all id = true ↔ ∀ j (hj : j < H.length), j < n → TxnOk H j H[j] := by
  induction n with
  | zero => simp [faultsTo]
  | succ n ih =>
    rw [faultsTo_step, List.all_append, Bool.and_eq_true, ih (by omega), txF_iff (by omega)]
    constructor
    · rintro ⟨h1, h2⟩ j hj hjn
      by_cases e : j = n
      · subst e; exact h2
      · exact h1 j hj (by omega)
    · intro h
      exact ⟨fun j hj hjn => h j hj (by omega), h n (by omega) (by omega)⟩
/-- What is right of a history that may be. -/
theorem rightH_iff (H : List Txn) : rightH H = true ↔ H.length ≤ 32 ∧ ∀ j (hj : j < H.length), TxnOk H j H[j] := by
  unfold rightH faultsL
  rw [List.all_cons, Bool.and_eq_true, faultsTo_iff H _ (Nat.le_refl _)]
  constructor
  · rintro ⟨h1, h2⟩
    exact ⟨by simpa using h1, fun j hj => h2 j hj hj⟩
  · rintro ⟨h1, h2⟩
    exact ⟨by simpa using h1, fun j hj _ => h2 j hj⟩
theorem thereB_iff (H : List Txn) (n : Nat) (x : It) : thereB H n x = true ↔ x.b = -1 ∨ ∃ k, ∃ hk : k < H.length, x.b = (k : Int) ∧ k ≠ n ∧ x.a ∈ H[k].writes := by
  unfold thereB
  rw [Bool.or_eq_true, Bool.and_eq_true, Bool.and_eq_true, Bool.and_eq_true, decide_eq_true_eq, decide_eq_true_eq, beq_iff_eq, bne_iff_ne, List.contains_iff_mem]
  constructor
  · rintro (h | ⟨⟨⟨h1, h2⟩, h3⟩, h4⟩)
    · exact .inl h
    · refine .inr ⟨x.b.toNat, by omega, by omega, by omega, ?_⟩
      unfold wrOf at h4
      rw [List.getElem?_eq_getElem (by omega)] at h4
      exact h4
  · rintro (h | ⟨k, hk, h1, h2, h3⟩)
    · exact .inl h
    · refine .inr ⟨⟨⟨by omega, by omega⟩, by omega⟩, ?_⟩
      unfold wrOf
      rw [h1, Int.toNat_natCast, List.getElem?_eq_getElem hk]
      exact h3

/-- A transaction's events, but for its beginning and its end. -/
def opsOf (t : Txn) (n : Nat) : List Ev := t.reads.map (fun x => ⟨1, t.sess, x.a, x.b + 1⟩) ++ t.writes.map (fun k => ⟨2, t.sess, k, (n : Int) + 1⟩)
def txOf (t : Txn) (n : Nat) : Tx := ⟨t.sess, true, 0, opsOf t n⟩
def txsOf (H : List Txn) : List Tx := H.mapIdx fun n t => txOf t n
theorem txsOf_len (H : List Txn) : (txsOf H).length = H.length := by unfold txsOf; rw [List.length_mapIdx]
theorem txsOf_at {H : List Txn} {i : Nat} (h : i < (txsOf H).length) : (txsOf H)[i] = txOf (H[i]'(by rwa [txsOf_len] at h)) i := List.getElem_mapIdx ..
end Go.Inq

namespace Go.Proofs.YtfhnamomiaekdaaGreatDoor
open Go.RowKit Go.Inq
set_option maxHeartbeats 2000000
attribute [local go_sem ↓] Go.wp_at_zero Go.wp_at_succ

/-- At most N transactions, with few reads and writes. -/
def fewN (N : Nat) (l : List Txn) : Bool := decide (l.length ≤ N) && l.all fun t => decide (t.writes.length ≤ 20) && decide (t.reads.length ≤ 20)
def fewH (l : List Txn) : Bool := fewN 40 l
theorem fewN_len {N : Nat} {l : List Txn} (h : fewN N l = true) : l.length ≤ N := by
  unfold fewN at h
  rw [Bool.and_eq_true] at h
  simpa using h.1
theorem fewN_small {N : Nat} (hN : N ≤ 40) {l : List Txn} (h : fewN N l = true) : SmallH l := by
  unfold fewN at h
  rw [Bool.and_eq_true, List.all_eq_true] at h
  have h1 : l.length ≤ N := by simpa using h.1
  refine ⟨by omega, fun t ht => ?_⟩
  have := h.2 t ht
  simp at this
  omega
theorem fewH_small {l : List Txn} (h : fewH l = true) : SmallH l := fewN_small (Nat.le_refl _) h
theorem fewN_bad {N : Nat} {l : List Txn} {i : Nat} (hi : i < l.length) (h : 20 < l[i].writes.length ∨ 20 < l[i].reads.length) : fewN N l = false := by
  rw [← Bool.not_eq_true]
  intro g
  unfold fewN at g
  rw [Bool.and_eq_true, List.all_eq_true] at g
  have := g.2 _ (List.getElem_mem hi)
  simp at this
  omega
theorem fewN_many {N : Nat} {l : List Txn} (h : N < l.length) : fewN N l = false := by
  unfold fewN; rw [show decide (l.length ≤ N) = false by simpa using h]; rfl
theorem fewN_good {N : Nat} {l : List Txn} (h : l.length ≤ N) (hall : ∀ i (hi : i < l.length), l[i].writes.length ≤ 20 ∧ l[i].reads.length ≤ 20) : fewN N l = true := by
  unfold fewN
  rw [Bool.and_eq_true, List.all_eq_true]
  refine ⟨by simpa using h, fun t ht => ?_⟩
  obtain ⟨i, hi, rfl⟩ := List.getElem_of_mem ht
  have := hall i hi
  simp
  omega
set_option maxRecDepth 100000 in
theorem few8n_any (N : Nat) (A : Option Addr) (c : Nat) (H : List Txn) (w : World) (h : TxnS w (Old w) (.slice A H.length c) H) (hn : H.length ≤ maxLen) (hns : ∀ t ∈ H, t.writes.length ≤ maxLen ∧ t.reads.length ≤ maxLen) :
    Calls Tryz.prog 33 #[.agg #[.slice A H.length c], .int .i64 (N : Int)] w fun e w' => e = .returned (.bool (fewN N H)) ∧ Below w.heap.size w w' := by
  unfold maxLen at hn hns
  have hA : Below w.heap.size w (w.alloc (.cells #[.slice A H.length c] 24)) := (Below.refl _ _).alloc (Nat.le_refl _) _
  have kh : Blk (w.alloc (.cells #[.slice A H.length c] 24)) w.heap.size 24 #[.slice A H.length c] := Blk.new _ _ _
  have h1 := TxnS.below h hA
  have y0 := kh.cell 0
  simp only [List.getElem?_toArray, List.getElem?_cons_zero] at y0
  have hl1 : (0 : Int) ≤ (H.length : Int) := Int.natCast_nonneg _
  replace hns := hide hns
  by_cases hm : N < H.length
  · have hr := hide (fewN_many hm)
    have hmb : decide ((H.length : Int) > (N : Int)) = true := by simp; omega
    have hmb2 : decide (N < H.length) = true := by simp; omega
    clear hm
    go_enter Tryz.func33, Tryz.ntmps33
    go_wp2
    go_ret
    exact ⟨by rw [hr.out]; rfl, hA⟩
  · have hmb : decide ((H.length : Int) > (N : Int)) = false := by simp; omega
    have hmb2 : decide (N < H.length) = false := by simp; omega
    have hbad := hide (fun i => fewN_bad (N := N) (l := H) (i := i))
    have hgood := hide (fewN_good (N := N) (l := H) (by omega))
    go_enter Tryz.func33, Tryz.ntmps33
    go_wp2_with fail
    generalize w.alloc (.cells #[.slice A H.length c] 24) = W at *
    go_loop [5] (fun s5 => ∃ i : Nat, i ≤ H.length ∧ s5 = .int .i64 i ∧ Hid (∀ j (hj : j < H.length), j < i → H[j].writes.length ≤ 20 ∧ H[j].reads.length ≤ 20)) (fun s5 => H.length - (intOf s5).toNat)
    case atStart => exact ⟨0, Nat.zero_le _, by go_num, fun j hj h => absurd h (by omega)⟩
    case round =>
      obtain ⟨i, hi, rfl, hall⟩ := hrel
      have hi1 : (0 : Int) ≤ (i : Int) := Int.natCast_nonneg _
      by_cases hlt : i < H.length
      · have hi2 : (i : Int) < (H.length : Int) := by omega
        obtain ⟨b, off, Aw, cw, Ar, cr, rfl, hbK, d0, d1, d2, hws, hrs⟩ := TxnS.at_ h1 hlt
        have hb := hide (hbad.out i hlt)
        have hsm := hns.out _ (List.getElem_mem hlt)
        have hst : Hid (H[i].writes.length ≤ 20 ∧ H[i].reads.length ≤ 20 → ∀ j (hj : j < H.length), j < i + 1 → H[j].writes.length ≤ 20 ∧ H[j].reads.length ≤ 20) := fun g j hj hji => by
          by_cases e : j = i
          · subst e; exact g
          · exact hall.out j hj (by omega)
        clear hall hws hrs
        generalize H[i] = t at *
        obtain ⟨ts, ws, rs⟩ := t
        dsimp only at *
        by_cases g1 : 20 < ws.length
        · have g1b : decide ((ws.length : Int) > 20) = true := by simp; omega
          have hr := hide (hb.out (.inl g1))
          clear g1 hb hst
          go_wp2
          go_ret
          exact ⟨by rw [hr.out]; rfl, hA⟩
        · have g1b : decide ((ws.length : Int) > 20) = false := by simp; omega
          by_cases g2 : 20 < rs.length
          · have g2b : decide ((rs.length : Int) > 20) = true := by simp; omega
            have hr := hide (hb.out (.inr g2))
            clear g2 hb hst
            go_wp2
            go_ret
            exact ⟨by rw [hr.out]; rfl, hA⟩
          · have g2b : decide ((rs.length : Int) > 20) = false := by simp; omega
            have hr := hide (hst.out ⟨by omega, by omega⟩)
            clear hb hst
            go_wp2
            go_round
            case rel => exact ⟨i + 1, by omega, by go_num, hr⟩
            case measure => simp [intOf]; omega
      · have hr := hide (hgood.out fun j hj => hall.out j hj (by omega))
        go_wp2
        go_ret
        exact ⟨by rw [hr.out]; rfl, hA⟩
theorem few8_any (A : Option Addr) (c : Nat) (H : List Txn) (w : World) (h : TxnS w (Old w) (.slice A H.length c) H) (hn : H.length ≤ maxLen) (hns : ∀ t ∈ H, t.writes.length ≤ maxLen ∧ t.reads.length ≤ maxLen) :
    Calls Tryz.prog 33 #[.agg #[.slice A H.length c], .int .i64 40] w fun e w' => e = .returned (.bool (fewH H)) ∧ Below w.heap.size w w' := few8n_any 40 A c H w h hn hns
end Go.Proofs.YtfhnamomiaekdaaGreatDoor

namespace Go.Inq
open Go.Lib

theorem compact_rise (d : Array Int) (hs : ∀ i j, i ≤ j → j < d.size → d[i]! ≤ d[j]!) : ∀ m, m ≤ d.size →
    (compactUpTo d m).Pairwise (· < ·) ∧ ∀ x, x ∈ compactUpTo d m ↔ ∃ j, j < m ∧ d[j]! = x
  | 0, _ => ⟨by simp [compactUpTo], fun x => by simp [compactUpTo]⟩
  | m + 1, hm => by
    obtain ⟨h1, h2⟩ := compact_rise d hs m (by omega)
    rw [compactUpTo_succ]
    by_cases hk : keeps d m = true
    · rw [if_pos hk]
      refine ⟨List.pairwise_append.2 ⟨h1, by simp, fun a ha b hb => ?_⟩, fun x => ?_⟩
      · obtain rfl : b = d[m]! := by simpa using hb
        obtain ⟨j, hj, rfl⟩ := (h2 a).1 ha
        have hne : d[m]! ≠ d[m - 1]! := by
          unfold keeps at hk
          have := of_decide_eq_true hk
          rcases this with h | h
          · omega
          · exact h
        have e1 := hs j (m - 1) (by omega) (by omega)
        have e2 := hs (m - 1) m (by omega) (by omega)
        omega
      · rw [List.mem_append, h2]
        constructor
        · rintro (⟨j, hj, e⟩ | h)
          · exact ⟨j, by omega, e⟩
          · exact ⟨m, by omega, by simpa using (List.mem_singleton.1 h).symm⟩
        · rintro ⟨j, hj, e⟩
          by_cases he : j = m
          · subst he; exact .inr (by simp [e])
          · exact .inl ⟨j, by omega, e⟩
    · rw [if_neg hk, List.append_nil]
      refine ⟨h1, fun x => ?_⟩
      rw [h2]
      have hk2 : ¬ (m = 0 ∨ d[m]! ≠ d[m - 1]!) := fun h => hk (by unfold keeps; exact decide_eq_true h)
      constructor
      · rintro ⟨j, hj, e⟩; exact ⟨j, by omega, e⟩
      · rintro ⟨j, hj, e⟩
        by_cases he : j = m
        · subst he
          exact ⟨j - 1, by omega, by rw [← e]; exact Eq.symm (Classical.byContradiction fun h => hk2 (.inr h))⟩
        · exact ⟨j, by omega, e⟩

/-- Two rows that rise, of the same elements, are the same. -/
theorem rise_eq : ∀ {a b : List Int}, a.Pairwise (· < ·) → b.Pairwise (· < ·) → (∀ x, x ∈ a ↔ x ∈ b) → a = b
  | [], [], _, _, _ => rfl
  | [], y :: _, _, _, h => by have := (h y).2 (by simp); cases this
  | x :: _, [], _, _, h => by have := (h x).1 (by simp); cases this
  | x :: a, y :: b, ha, hb, h => by
    rw [List.pairwise_cons] at ha hb
    have hxy : x = y := by
      have h1 := (h x).1 (by simp)
      have h2 := (h y).2 (by simp)
      rw [List.mem_cons] at h1 h2
      rcases h1 with h1 | h1
      · exact h1
      · rcases h2 with h2 | h2
        · exact h2.symm
        · have := ha.1 _ h2; have := hb.1 _ h1; omega
    subst hxy
    rw [rise_eq ha.2 hb.2 (fun z => ?_)]
    have hz := h z
    rw [List.mem_cons, List.mem_cons] at hz
    constructor
    · intro hm
      rcases hz.1 (.inr hm) with e | e
      · have := ha.1 _ hm; omega
      · exact e
    · intro hm
      rcases hz.2 (.inr hm) with e | e
      · have := hb.1 _ hm; omega
      · exact e

/-- slices.Compact of what slices.Sort leaves. -/
theorem compact_sorted (l : List Int) : (compact (l.mergeSort fun x y => decide (x ≤ y))).Pairwise (· < ·) ∧ ∀ x, x ∈ compact (l.mergeSort fun x y => decide (x ≤ y)) ↔ x ∈ l := by
  have hp := List.pairwise_mergeSort (le := fun x y : Int => decide (x ≤ y)) (fun a b c h1 h2 => by simp at *; omega) (fun a b => by simp; omega) l
  have hm : ∀ x, x ∈ (l.mergeSort fun x y => decide (x ≤ y)) ↔ x ∈ l := fun x => List.mem_mergeSort
  generalize (l.mergeSort fun x y => decide (x ≤ y)) = s at *
  have hs : ∀ i j, i ≤ j → j < s.toArray.size → s.toArray[i]! ≤ s.toArray[j]! := by
    intro i j hij hj
    have hj' : j < s.length := by simpa using hj
    rw [getElem!_pos s.toArray i (by simp; omega), getElem!_pos s.toArray j hj]
    rcases Nat.lt_or_eq_of_le hij with h | h
    · have := List.pairwise_iff_getElem.1 hp i j (by omega) hj' h
      simpa using this
    · subst h; exact Int.le_refl _
  obtain ⟨h1, h2⟩ := compact_rise s.toArray hs s.length (by simp)
  refine ⟨h1, fun x => ?_⟩
  unfold compact
  rw [h2, ← hm]
  constructor
  · rintro ⟨j, hj, rfl⟩
    rw [getElem!_pos s.toArray j (by simpa using hj)]
    simp
  · intro h
    obtain ⟨j, hj, rfl⟩ := List.getElem_of_mem h
    exact ⟨j, hj, by rw [getElem!_pos s.toArray j (by simpa using hj)]; simp⟩

/-- A choice, or a pair of writers of one key. -/
structure Cho where
  key : Int
  a : Int
  b : Int
deriving DecidableEq

def txnAt (H : List Txn) (t : Nat) : Txn := H.getD t ⟨0, [], []⟩
theorem txnAt_of {H : List Txn} {t : Nat} (h : t < H.length) : txnAt H t = H[t] := by unfold txnAt; rw [List.getD_eq_getElem?_getD, List.getElem?_eq_getElem h]; rfl

/-- Who writes a key (of a history that may be). -/
def wrsTo (H : List Txn) (key : Int) (n : Nat) : List Nat := (List.range n).filter fun t => (txnAt H t).writes.contains key
def wrsL (H : List Txn) (key : Int) : List Nat := wrsTo H key H.length
theorem wrsTo_step (H : List Txn) (key : Int) (n : Nat) : wrsTo H key (n + 1) = wrsTo H key n ++ (if (txnAt H n).writes.contains key then [n] else []) := by
  unfold wrsTo
  rw [List.range_succ, List.filter_append]
  congr 1
  rw [List.filter_cons, List.filter_nil]
theorem wrsL_mem {H : List Txn} {key : Int} {t : Nat} : t ∈ wrsL H key ↔ t < H.length ∧ key ∈ (txnAt H t).writes := by
  unfold wrsL wrsTo; rw [List.mem_filter, List.mem_range, List.contains_iff_mem]
theorem wrsL_rise (H : List Txn) (key : Int) : (wrsL H key).Pairwise (· < ·) := List.Pairwise.filter _ List.pairwise_lt_range
theorem wrsL_len (H : List Txn) (key : Int) : (wrsL H key).length ≤ H.length := Nat.le_trans (List.length_filter_le _ _) (by simp)

/-- All keys that are written, rising. -/
def keysL (H : List Txn) : List Int := compact ((H.map (·.writes)).flatten.mergeSort fun x y => decide (x ≤ y))
theorem keysL_mem {H : List Txn} {k : Int} : k ∈ keysL H ↔ ∃ t, t ∈ H ∧ k ∈ t.writes := by
  unfold keysL
  rw [(compact_sorted _).2, List.mem_flatten]
  constructor
  · rintro ⟨l, hl, hk⟩
    obtain ⟨t, ht, rfl⟩ := List.mem_map.1 hl
    exact ⟨t, ht, hk⟩
  · rintro ⟨t, ht, hk⟩
    exact ⟨t.writes, List.mem_map_of_mem ht, hk⟩
theorem keysL_rise (H : List Txn) : (keysL H).Pairwise (· < ·) := (compact_sorted _).1

/-- Of a history that may be: the keys below 16 that anybody writes. -/
theorem keysL_16 {H : List Txn} (h : ∀ t ∈ H, ∀ k ∈ t.writes, 0 ≤ k ∧ k < 16) : keysL H = ((List.range 16).filter fun (k : Nat) => decide (wrsL H (k : Int) ≠ [])).map fun (k : Nat) => (k : Int) := by
  refine rise_eq (keysL_rise H) ?_ (fun x => ?_)
  · refine List.pairwise_map.2 ?_
    exact (List.Pairwise.filter _ List.pairwise_lt_range).imp (fun hab => by omega)
  · rw [keysL_mem]
    constructor
    · rintro ⟨t, ht, hx⟩
      have hb := h t ht x hx
      obtain ⟨i, hi, rfl⟩ := List.getElem_of_mem ht
      refine List.mem_map.2 ⟨x.toNat, List.mem_filter.2 ⟨by simp; omega, ?_⟩, by omega⟩
      rw [show ((x.toNat : Nat) : Int) = x by omega]
      refine decide_eq_true (fun e => ?_)
      have : i ∈ wrsL H x := wrsL_mem.2 ⟨hi, by rw [txnAt_of hi]; exact hx⟩
      rw [e] at this; cases this
    · intro hx
      obtain ⟨k, hk, rfl⟩ := List.mem_map.1 hx
      obtain ⟨_, hk2⟩ := List.mem_filter.1 hk
      have hk3 := of_decide_eq_true hk2
      cases hw : wrsL H (k : Int) with
      | nil => exact absurd hw hk3
      | cons t r =>
        have : t ∈ wrsL H (k : Int) := by rw [hw]; simp
        obtain ⟨h1, h2⟩ := wrsL_mem.1 this
        rw [txnAt_of h1] at h2
        exact ⟨_, List.getElem_mem h1, h2⟩

/-- All two of some writers. -/
def pairsK (key : Int) : List Nat → List Cho
  | [] => []
  | a :: r => r.map (fun (b : Nat) => (⟨key, a, b⟩ : Cho)) ++ pairsK key r
def pairsL (H : List Txn) : List Cho := ((keysL H).map fun k => pairsK k (wrsL H k)).flatten

/-- Who reads a key from somebody. -/
def rdsL (H : List Txn) (key src : Int) : List Nat := ((List.range H.length).map fun t => ((txnAt H t).reads.filter fun r => decide (r.a = key) && decide (r.b = src)).map fun _ => t).flatten
theorem rdsL_mem {H : List Txn} {key src : Int} {t : Nat} : t ∈ rdsL H key src ↔ t < H.length ∧ ∃ r ∈ (txnAt H t).reads, r.a = key ∧ r.b = src := by
  unfold rdsL
  rw [List.mem_flatten]
  constructor
  · rintro ⟨l, hl, ht⟩
    obtain ⟨u, hu, rfl⟩ := List.mem_map.1 hl
    obtain ⟨r, hr, rfl⟩ := List.mem_map.1 ht
    obtain ⟨h1, h2⟩ := List.mem_filter.1 hr
    exact ⟨by simpa using hu, r, h1, by simpa using h2⟩
  · rintro ⟨h, r, hr, hk⟩
    exact ⟨_, List.mem_map.2 ⟨t, by simpa using h, rfl⟩, List.mem_map.2 ⟨r, List.mem_filter.2 ⟨hr, by simpa using hk⟩, rfl⟩⟩
end Go.Inq

namespace Go.Inq

/-- The numbers below n of which p says so, as bits. -/
def setB (p : Nat → Bool) : Nat → Nat
  | 0 => 0
  | n + 1 => setB p n ||| (if p n then 2 ^ n else 0)

theorem testBit_setB (p : Nat → Bool) : ∀ (n i : Nat), (setB p n).testBit i = (decide (i < n) && p i)
  | 0, i => by simp [setB]
  | n + 1, i => by
    unfold setB
    rw [Nat.testBit_or, testBit_setB p n i]
    by_cases h : i = n
    · subst h
      cases hp : p i <;> simp [hp, Nat.testBit_two_pow]
    · have h2 : (if p n = true then 2 ^ n else 0).testBit i = false := by
        split
        · rw [Nat.testBit_two_pow]; simp; omega
        · simp
      rw [h2]
      have h3 : decide (i < n + 1) = decide (i < n) := by simp; omega
      rw [h3]; simp

theorem setB_lt (p : Nat → Bool) (n : Nat) : setB p n < 2 ^ n := by
  refine Nat.lt_pow_two_of_testBit _ (fun i hi => ?_)
  rw [testBit_setB]; simp; omega

theorem setB_eq {p : Nat → Bool} {n x : Nat} (hx : x < 2 ^ n) (h : ∀ i, i < n → x.testBit i = p i) : x = setB p n := by
  refine Nat.eq_of_testBit_eq (fun i => ?_)
  rw [testBit_setB]
  by_cases hi : i < n
  · rw [h i hi]; simp [hi]
  · rw [Nat.testBit_lt_two_pow (Nat.lt_of_lt_of_le hx (Nat.pow_le_pow_right (by decide) (by omega)))]; simp [hi]

theorem setB_self {n x : Nat} (hx : x < 2 ^ n) : setB x.testBit n = x := (setB_eq hx (fun _ _ => rfl)).symm

theorem setB_congr {p q : Nat → Bool} {n : Nat} (h : ∀ i, i < n → p i = q i) : setB p n = setB q n :=
  setB_eq (setB_lt p n) (fun i hi => by rw [testBit_setB, h i hi]; simp [hi])

/-- One number's bit. -/
theorem one_or (x i : Nat) (j : Nat) : (x ||| 2 ^ i).testBit j = (x.testBit j || decide (i = j)) := by
  rw [Nat.testBit_or, Nat.testBit_two_pow]

theorem and_one (x i : Nat) : (x &&& 2 ^ i = 0) ↔ x.testBit i = false := by
  constructor
  · intro h
    have := congrArg (fun y => y.testBit i) h
    simpa [Nat.testBit_and, Nat.testBit_two_pow] using this
  · intro h
    refine Nat.eq_of_testBit_eq (fun j => ?_)
    rw [Nat.testBit_and, Nat.testBit_two_pow]
    by_cases e : i = j
    · subst e; simp [h]
    · simp [e]


/-- A graph's rows, of n nodes, by its edges. -/
def rowsG (n : Nat) (E : Nat → Nat → Bool) : List Nat := (List.range n).map fun a => setB (E a) n
theorem rowsG_length (n : Nat) (E : Nat → Nat → Bool) : (rowsG n E).length = n := by simp [rowsG]
theorem rowsG_at {n : Nat} {E : Nat → Nat → Bool} {a : Nat} (h : a < n) : (rowsG n E)[a]'(by rw [rowsG_length]; exact h) = setB (E a) n := by simp [rowsG]
theorem rowsG_congr {n : Nat} {E F : Nat → Nat → Bool} (h : ∀ a b, a < n → b < n → E a b = F a b) : rowsG n E = rowsG n F := by
  unfold rowsG
  refine List.map_congr_left (fun a ha => setB_congr (fun b hb => h a b (by simpa using ha) hb))
theorem rowsG_self {l : List Nat} (h : ∀ x ∈ l, x < 2 ^ l.length) : rowsG l.length (fun a b => (l.getD a 0).testBit b) = l := by
  refine List.ext_getElem (by simp [rowsG]) (fun a h1 h2 => ?_)
  simp only [rowsG, List.getElem_map, List.getElem_range]
  rw [show (fun b => (l.getD a 0).testBit b) = (l.getD a 0).testBit from rfl]
  rw [List.getD_eq_getElem?_getD, List.getElem?_eq_getElem h2]
  exact setB_self (h _ (List.getElem_mem h2))
end Go.Inq

namespace Go.Inq

/-- A set's numbers, rising. -/
def listB (x : Nat) : List Nat := (List.range 64).filter fun i => x.testBit i

theorem filter_least (p : Nat → Bool) (k : Nat) (hk : p k = true) (hl : ∀ i, i < k → p i = false) : ∀ n, k < n → (List.range n).filter p = k :: (List.range n).filter (fun i => p i && decide (i ≠ k))
  | 0, h => absurd h (by omega)
  | n + 1, h => by
    rw [List.range_succ, List.filter_append, List.filter_append]
    by_cases e : k = n
    · subst e
      have h1 : (List.range k).filter p = [] := by
        rw [List.filter_eq_nil_iff]; intro i hi; rw [hl i (by simpa using hi)]; simp
      have h2 : (List.range k).filter (fun i => p i && decide (i ≠ k)) = [] := by
        rw [List.filter_eq_nil_iff]; intro i hi; rw [hl i (by simpa using hi)]; simp
      rw [h1, h2]; simp [hk]
    · rw [filter_least p k hk hl n (by omega)]
      have e2 : decide (n ≠ k) = true := by simp; omega
      simp only [List.filter_cons, List.filter_nil, e2, Bool.and_true, List.cons_append]

theorem odd_bit (k m i : Nat) : (2 ^ k * (2 * m + 1)).testBit i = (decide (k ≤ i) && (decide (i = k) || m.testBit (i - k - 1))) := by
  rw [Nat.mul_comm, Nat.testBit_mul_two_pow]
  by_cases h : k ≤ i
  · by_cases e : i = k
    · subst e; simp [Nat.testBit_zero]
    · obtain ⟨j, rfl⟩ : ∃ j, i = k + (j + 1) := ⟨i - k - 1, by omega⟩
      rw [show k + (j + 1) - k = j + 1 by omega, Nat.testBit_succ, show (2 * m + 1) / 2 = m by omega, show j + 1 - 1 = j by omega]
      simp
  · simp [h]

theorem less_bit (k m i : Nat) : (2 ^ k * (2 * m + 1) - 1).testBit i = (decide (i < k) || (decide (k < i) && m.testBit (i - k - 1))) := by
  have e : 2 ^ k * (2 * m + 1) - 1 = 2 ^ k * (2 * m) + (2 ^ k - 1) := by
    have := Nat.two_pow_pos k
    rw [Nat.mul_add, Nat.mul_one]; omega
  rw [e, Nat.testBit_two_pow_mul_add _ (by have := Nat.two_pow_pos k; omega)]
  by_cases h : i < k
  · rw [if_pos h, Nat.testBit_two_pow_sub_one]; simp [h]
  · rw [if_neg h]
    by_cases e : i = k
    · subst e; simp [Nat.testBit_zero]
    · obtain ⟨j, rfl⟩ : ∃ j, i = k + (j + 1) := ⟨i - k - 1, by omega⟩
      rw [show k + (j + 1) - k = j + 1 by omega, Nat.testBit_succ, show 2 * m / 2 = m by omega, show j + 1 - 1 = j by omega, decide_eq_false h, decide_eq_true (show k < k + (j + 1) by omega)]
      simp

/-- Without its least number. -/
theorem drop_bit (x : Nat) (h0 : x ≠ 0) (hx : x < 2 ^ 64) : x.testBit (Lib.ctz 64 x) = true ∧ (∀ i, i < Lib.ctz 64 x → x.testBit i = false) ∧ Lib.ctz 64 x < 64 ∧ ∀ i, (x &&& (x - 1)).testBit i = (x.testBit i && decide (i ≠ Lib.ctz 64 x)) := by
  have e : Lib.ctz 64 x = Lib.ctzFrom 64 x := by unfold Lib.ctz; rw [if_neg h0]
  rw [e]
  obtain ⟨m, hm, hk⟩ := Lib.ctzFrom_spec 64 x (by omega) hx
  generalize Lib.ctzFrom 64 x = k at *
  subst hm
  refine ⟨?_, ?_, hk, ?_⟩
  · rw [odd_bit]; simp
  · intro i hi; rw [odd_bit]; simp; omega
  · intro i
    rw [Nat.testBit_and, odd_bit, less_bit]
    by_cases h1 : i < k
    · have : ¬ k ≤ i := by omega
      simp [this]
    · by_cases h2 : i = k
      · subst h2; simp
      · have h3 : k < i := by omega
        have h4 : k ≤ i := by omega
        simp [h1, h2, h3, h4]

theorem listB_next (x : Nat) (h0 : x ≠ 0) (hx : x < 2 ^ 64) : listB x = Lib.ctz 64 x :: listB (x &&& (x - 1)) := by
  obtain ⟨h1, h2, h3, h4⟩ := drop_bit x h0 hx
  unfold listB
  rw [filter_least _ _ h1 h2 64 h3]
  congr 1
  refine List.filter_congr (fun i _ => (h4 i).symm)
theorem listB_zero : listB 0 = [] := by simp [listB]
theorem and_less (x : Nat) (hx : x < 2 ^ 64) : x &&& (x - 1) < 2 ^ 64 := Nat.lt_of_le_of_lt Nat.and_le_left hx
theorem listB_mem {x i : Nat} : i ∈ listB x ↔ i < 64 ∧ x.testBit i = true := by simp [listB]
theorem listB_len (x : Nat) : (listB x).length ≤ 64 := Nat.le_trans (List.length_filter_le _ _) (by simp)
end Go.Inq

namespace Go.Inq

/-- An edge of a graph that is told by its rows. -/
def hasG (g : List Nat) (a b : Nat) : Bool := (g.getD a 0).testBit b
theorem hasG_rows {n : Nat} {E : Nat → Nat → Bool} {a b : Nat} (ha : a < n) (hb : b < n) : hasG (rowsG n E) a b = E a b := by
  unfold hasG
  rw [List.getD_eq_getElem?_getD, List.getElem?_eq_getElem (by rw [rowsG_length]; exact ha), Option.getD_some, rowsG_at ha, testBit_setB]
  simp [hb]
theorem rowsG_lt {n : Nat} {E : Nat → Nat → Bool} {x : Nat} (h : x ∈ rowsG n E) : x < 2 ^ n := by
  unfold rowsG at h
  obtain ⟨a, _, rfl⟩ := List.mem_map.1 h
  exact setB_lt _ _

abbrev Edges := Nat → Nat → Bool
def orE (E F : Edges) : Edges := fun a b => E a b || F a b
def thenE (n : Nat) (E F : Edges) : Edges := fun a c => (List.range n).any fun b => E a b && F b c
def turnE (E : Edges) : Edges := fun a b => E b a

/-- The sessions' order; who reads from whom; who reads what was there at first, and who wrote over it. -/
def soE (H : List Txn) : Edges := fun a b => decide (a < b) && decide ((txnAt H a).sess = (txnAt H b).sess)
def wrE (H : List Txn) : Edges := fun a b => decide (a ≠ b) && (txnAt H b).reads.any fun r => decide (r.b = (a : Int))
def initE (H : List Txn) : Edges := fun a b => decide (a ≠ b) && (txnAt H a).reads.any fun r => decide (r.b = -1) && (txnAt H b).writes.contains r.a
def pastE (H : List Txn) : Edges := orE (soE H) (wrE H)
/-- What follows, if it is known whose write is ahead. -/
def wwE (l : List Cho) : Edges := fun a b => l.any fun c => decide (c.a = (a : Int)) && decide (c.b = (b : Int))
def rwE (H : List Txn) (l : List Cho) : Edges := fun t b => initE H t b || l.any fun c => decide (c.b = (b : Int)) && decide (t ≠ b) && (txnAt H t).reads.any fun r => decide (r.a = c.key) && decide (r.b = c.a)
def fullE (H : List Txn) (level : Int) (l : List Cho) : Edges :=
  let d := orE (pastE H) (wwE l)
  orE d (if level = 1 then thenE H.length d (rwE H l) else rwE H l)

/-- As the program lays it: by keys, readers of what was there at first, and writers. -/
theorem initE_iff {H : List Txn} {a b : Nat} (ha : a < H.length) (hb : b < H.length) : initE H a b = true ↔ a ≠ b ∧ ∃ k ∈ keysL H, a ∈ rdsL H k (-1) ∧ b ∈ wrsL H k := by
  unfold initE
  rw [Bool.and_eq_true, List.any_eq_true]
  constructor
  · rintro ⟨h1, r, hr, h2⟩
    rw [Bool.and_eq_true, List.contains_iff_mem] at h2
    refine ⟨of_decide_eq_true h1, r.a, keysL_mem.2 ⟨H[b], List.getElem_mem hb, by rw [← txnAt_of hb]; exact h2.2⟩, rdsL_mem.2 ⟨ha, r, hr, rfl, of_decide_eq_true h2.1⟩, wrsL_mem.2 ⟨hb, h2.2⟩⟩
  · rintro ⟨h1, k, _, hr, hw⟩
    obtain ⟨_, r, hr2, rfl, e⟩ := rdsL_mem.1 hr
    exact ⟨decide_eq_true h1, r, hr2, by rw [Bool.and_eq_true, List.contains_iff_mem]; exact ⟨decide_eq_true e, (wrsL_mem.1 hw).2⟩⟩

/-- The least that may come next. -/
def nextT (n : Nat) (E : Edges) (l : List Nat) : Option Nat := (List.range n).find? fun v => !l.contains v && (List.range n).all fun x => !E x v || l.contains x
def orderTo (n : Nat) (E : Edges) : Nat → Option (List Nat)
  | 0 => some []
  | k + 1 => match orderTo n E k with
    | none => none
    | some l => match nextT n E l with
      | none => none
      | some v => some (l ++ [v])
def orderT (n : Nat) (E : Edges) : Option (List Nat) := orderTo n E n
theorem orderTo_len {n : Nat} {E : Edges} : ∀ {k : Nat} {l : List Nat}, orderTo n E k = some l → l.length = k
  | 0, l, h => by unfold orderTo at h; injection h with h; subst h; rfl
  | k + 1, l, h => by
    unfold orderTo at h
    split at h
    · cases h
    · rename_i l0 h0
      split at h
      · cases h
      · injection h with h; subst h; simp [orderTo_len h0]

/-- A state of Widen. -/
structure Wd where
  width : Int
  cut : Bool
  path : List Int
  left : List (List Int)
deriving DecidableEq

def freshW (n : Nat) (l path : List Int) : Bool := l.all fun t => decide (0 ≤ t) && decide (t < (n : Int)) && !path.contains t
def riseW : List Int → Bool
  | a :: b :: r => decide (a < b) && riseW (b :: r)
  | _ => true
/-- May a state be? -/
def rightW (H : List Txn) (s : Wd) : Bool :=
  rightH H && decide (1 ≤ s.width) && decide (s.width ≤ 32) && decide (s.path.length ≤ H.length - 1) &&
  ((List.range s.path.length).all fun i => freshW H.length [s.path.getD i 0] (s.path.take i)) &&
  (if s.left = [] then decide (s.path = []) else
    decide (s.left.length = s.path.length + 1) && (List.range s.left.length).all fun i => riseW (s.left.getD i []) && freshW H.length (s.left.getD i []) (s.path.take i))

/-- What can come behind some numbers. -/
def comeW (H : List Txn) (path : List Int) : List Int :=
  ((List.range H.length).filter fun (t : Nat) => !path.contains (t : Int) && (List.range H.length).all fun (x : Nat) => !pastE H x t || path.contains (x : Int)).map fun (t : Nat) => (t : Int)
def putW (H : List Txn) (s : Wd) : Wd :=
  let l := comeW H s.path
  { s with cut := s.cut || decide (s.width < (l.length : Int)), left := s.left ++ [l.take s.width.toNat] }
/-- What numbers decide of a pair. -/
def turnC (path : List Int) (p : Cho) : Option Cho :=
  match path.idxOf? p.a, path.idxOf? p.b with
  | none, none => none
  | some i, some j => if j < i then some ⟨p.key, p.b, p.a⟩ else some p
  | some _, none => some p
  | none, some _ => some ⟨p.key, p.b, p.a⟩
def decW (H : List Txn) (path : List Int) : List Cho := (pairsL H).filterMap (turnC path)

/-- A step: the state behind it, what it says, and an order. -/
def stepW (H : List Txn) (level : Int) (s : Wd) : Wd × Int × List Int :=
  if rightW H s = false ∨ (level ≠ 0 ∧ level ≠ 1) then (s, 3, [])
  else if H = [] then (s, 1, [])
  else match s.left.getLast? with
  | none => (putW H s, 0, [])
  | some [] =>
    if s.left.length > 1 then ({ s with left := s.left.dropLast, path := s.path.dropLast }, 0, [])
    else if s.cut = true ∧ s.width < 32 then (⟨s.width + 1, false, [], []⟩, 0, [])
    else (s, 3, [])
  | some (t :: r) =>
    let longer := s.path ++ [t]
    let s2 : Wd := { s with left := s.left.dropLast ++ [r] }
    match orderT H.length (fullE H level (decW H longer)) with
    | none => (s2, 0, [])
    | some o => if longer.length = H.length then (s2, 1, o.map fun (x : Nat) => (x : Int)) else (putW H { s2 with path := longer }, 0, [])
end Go.Inq

namespace Go.Inq

/-- A number's bit. -/
def bitN (i : Int) : Nat := if 0 ≤ i ∧ i < 64 then 2 ^ i.toNat else 0
theorem bitN_in {i : Int} (h0 : 0 ≤ i) (h : i < 64) : bitN i = 2 ^ i.toNat := by unfold bitN; rw [if_pos ⟨h0, h⟩]
theorem bitN_low {i : Int} (h : i < 0) : bitN i = 0 := by unfold bitN; rw [if_neg (by omega)]
theorem bitN_high {i : Int} (h : 64 ≤ i) : bitN i = 0 := by unfold bitN; rw [if_neg (by omega)]
theorem bitN_lt (i : Int) : bitN i < 18446744073709551616 := by
  unfold bitN
  split
  · rename_i h
    exact Nat.lt_of_lt_of_le (Nat.pow_lt_pow_right (by decide) (show i.toNat < 64 by omega)) (by decide)
  · decide
/-- Has a set a number? -/
def hasB (s : Nat) (i : Int) : Bool := decide (0 ≤ i) && s.testBit i.toNat
theorem hasB_nat (s i : Nat) : hasB s (i : Int) = s.testBit i := by unfold hasB; simp
theorem and_bitN {s : Nat} (hs : s < 18446744073709551616) (i : Int) : decide (s &&& bitN i = 0) = !hasB s i := by
  unfold hasB bitN
  by_cases h0 : 0 ≤ i
  · by_cases h : i < 64
    · rw [if_pos ⟨h0, h⟩, Bool.eq_iff_iff, decide_eq_true_iff, and_one]; simp [h0]
    · rw [if_neg (by omega)]
      have : s.testBit i.toNat = false := Nat.testBit_lt_two_pow (Nat.lt_of_lt_of_le (show s < 2 ^ 64 from hs) (Nat.pow_le_pow_right (by decide) (by omega)))
      simp [this]
  · rw [if_neg (by omega)]; simp [h0]
/-- A set with a number. -/
def withB (s : Nat) (i : Int) : Nat := s ||| bitN i
theorem withB_lt {s : Nat} (hs : s < 18446744073709551616) (i : Int) : withB s i < 18446744073709551616 := Nat.or_lt_two_pow (n := 64) hs (bitN_lt i)
theorem withB_bit (s : Nat) {i : Nat} (hi : i < 64) (j : Nat) : (withB s (i : Int)).testBit j = (s.testBit j || decide (i = j)) := by
  unfold withB
  rw [bitN_in (by omega) (by omega), Int.toNat_natCast]
  exact one_or s i j
/-- All that is in some sets. -/
def joinL (l : List Nat) : Nat := l.foldl (· ||| ·) 0
theorem foldl_or_bit (l : List Nat) : ∀ (a i : Nat), (l.foldl (· ||| ·) a).testBit i = (a.testBit i || l.any fun x => x.testBit i) := by
  induction l with
  | nil => intro a i; simp
  | cons x r ih => intro a i; rw [List.foldl_cons, ih, Nat.testBit_or, List.any_cons, Bool.or_assoc]
theorem joinL_bit (l : List Nat) (i : Nat) : (joinL l).testBit i = l.any fun x => x.testBit i := by
  unfold joinL; rw [foldl_or_bit]; simp
theorem joinL_lt {l : List Nat} {n : Nat} (h : ∀ x ∈ l, x < 2 ^ n) : joinL l < 2 ^ n := by
  refine Nat.lt_pow_two_of_testBit _ (fun i hi => ?_)
  rw [joinL_bit, List.any_eq_false]
  intro x hx
  rw [Nat.testBit_lt_two_pow (Nat.lt_of_lt_of_le (h x hx) (Nat.pow_le_pow_right (by decide) hi))]
  simp
theorem joinL_take {l : List Nat} {k : Nat} (h : k < l.length) : joinL (l.take (k + 1)) = joinL (l.take k) ||| l[k] := by
  unfold joinL
  rw [List.take_succ_eq_append_getElem h, List.foldl_append]; rfl
/-- Is all of one set in another one? -/
def subB (a b : Nat) : Bool := decide (a &&& (18446744073709551615 - b) = 0)
theorem subB_iff {a b : Nat} (ha : a < 18446744073709551616) (hb : b < 18446744073709551616) : subB a b = true ↔ ∀ i, a.testBit i = true → b.testBit i = true := by
  unfold subB
  rw [decide_eq_true_iff]
  have hc : ∀ i, (18446744073709551615 - b).testBit i = (decide (i < 64) && !b.testBit i) := by
    intro i
    have := Nat.testBit_two_pow_sub_succ (n := 64) (x := b) hb i
    rw [show 2 ^ 64 - (b + 1) = 18446744073709551615 - b by omega] at this
    exact this
  constructor
  · intro h i hi
    have hi64 : i < 64 := by
      rcases Nat.lt_or_ge i 64 with h | h
      · exact h
      · rw [Nat.testBit_lt_two_pow (Nat.lt_of_lt_of_le (show a < 2 ^ 64 from ha) (Nat.pow_le_pow_right (by decide) h))] at hi; cases hi
    have := congrArg (fun y => y.testBit i) h
    simp only [Nat.testBit_and, hc, hi, decide_eq_true hi64, Nat.zero_testBit, Bool.true_and] at this
    simpa using this
  · intro h
    refine Nat.eq_of_testBit_eq (fun i => ?_)
    rw [Nat.testBit_and, hc, Nat.zero_testBit]
    by_cases hi : a.testBit i = true
    · rw [h i hi]; simp
    · simp [hi]
theorem pow_le_64 {n : Nat} (h : n ≤ 64) : 2 ^ n ≤ 18446744073709551616 := Nat.le_trans (Nat.pow_le_pow_right (by decide) h) (by decide)
/-- Rows that may be are of its nodes. -/
theorem sub_nodes {l : List Nat} {n : Nat} (hn : n ≤ 64) (h : ∀ x ∈ l, x < 2 ^ n) : subB (joinL l) (2 ^ n - 1) = true := by
  have hp := pow_le_64 hn
  have hj := joinL_lt h
  rw [subB_iff (by omega) (by have := Nat.two_pow_pos n; omega)]
  intro i hi
  rw [Nat.testBit_two_pow_sub_one]
  refine decide_eq_true ?_
  rcases Nat.lt_or_ge i n with h | h
  · exact h
  · rw [Nat.testBit_lt_two_pow (Nat.lt_of_lt_of_le hj (Nat.pow_le_pow_right (by decide) h))] at hi; cases hi

theorem listB_setB {p : Nat → Bool} {n : Nat} (hn : n ≤ 64) : listB (setB p n) = (List.range n).filter p := by
  unfold listB
  obtain ⟨m, hm⟩ := Nat.le.dest hn
  rw [← hm, List.range_add, List.filter_append]
  have h1 : (List.range n).filter (fun i => (setB p n).testBit i) = (List.range n).filter p := List.filter_congr fun i hi => by
    have : i < n := by simpa using hi
    rw [testBit_setB]; simp [this]
  have h2 : ((List.range m).map (n + ·)).filter (fun i => (setB p n).testBit i) = [] := by
    rw [List.filter_eq_nil_iff]
    intro i hi
    obtain ⟨k, _, rfl⟩ := List.mem_map.1 hi
    rw [testBit_setB]; simp; intro h; omega
  rw [h1, h2, List.append_nil]

/-- One edge. -/
def oneE (a b : Nat) : Edges := fun x y => decide (x = a) && decide (y = b)
def noE : Edges := fun _ _ => false
theorem rowsG_no (n : Nat) : rowsG n noE = List.replicate n 0 := by
  refine List.ext_getElem (by simp [rowsG_length]) fun a h1 h2 => ?_
  have ha : a < n := by rw [rowsG_length] at h1; exact h1
  rw [rowsG_at ha, List.getElem_replicate]
  refine Nat.eq_of_testBit_eq (fun i => ?_)
  rw [testBit_setB]; simp [noE]
theorem rowsG_get {n : Nat} {E : Edges} {a : Nat} (h : a < (rowsG n E).length) : (rowsG n E)[a] = setB (E a) n := rowsG_at (by rw [rowsG_length] at h; exact h)
/-- A row with a number more. -/
theorem setB_with {p : Nat → Bool} {n b : Nat} (hb : b < n) (hn : n ≤ 64) : withB (setB p n) (b : Int) = setB (fun y => p y || decide (y = b)) n := by
  refine setB_eq ?_ (fun i hi => ?_)
  · refine Nat.lt_pow_two_of_testBit _ (fun i hi => ?_)
    rw [withB_bit _ (by omega), testBit_setB]
    simp; omega
  · rw [withB_bit _ (by omega), testBit_setB]
    have : decide (b = i) = decide (i = b) := by simp [eq_comm]
    simp [hi, this]
theorem rowsG_add {n : Nat} {E : Edges} {a b : Nat} (ha : a < n) (hb : b < n) (hn : n ≤ 64) : (rowsG n E).set a (withB ((rowsG n E)[a]'(by rw [rowsG_length]; exact ha)) (b : Int)) = rowsG n (orE E (oneE a b)) := by
  generalize e2 : (rowsG n E)[a]'(by rw [rowsG_length]; exact ha) = v
  rw [rowsG_at ha] at e2
  subst e2
  refine List.ext_getElem (by simp [rowsG_length]) fun x h1 h2 => ?_
  have hx : x < n := by rw [rowsG_length] at h2; exact h2
  have e1 : (rowsG n (orE E (oneE a b)))[x]'h2 = setB (orE E (oneE a b) x) n := rowsG_at hx
  have e3 : (rowsG n E)[x]'(by rw [rowsG_length]; exact hx) = setB (E x) n := rowsG_at hx
  rw [List.getElem_set, e1]
  split
  · rename_i e
    subst e
    rw [setB_with hb hn]
    exact setB_congr fun y hy => by simp [orE, oneE]
  · rename_i e
    rw [e3]
    exact setB_congr fun y hy => by
      have : decide (x = a) = false := by simp; omega
      simp [orE, oneE, this]
theorem joinL_two (a b : Nat) : joinL [a, b] = a ||| b := by unfold joinL; simp
theorem setB_or {p q : Nat → Bool} {n : Nat} : setB p n ||| setB q n = setB (fun y => p y || q y) n := by
  refine setB_eq (Nat.or_lt_two_pow (setB_lt _ _) (setB_lt _ _)) (fun i hi => ?_)
  rw [Nat.testBit_or, testBit_setB, testBit_setB]; simp [hi]
/-- All edges of a graph. -/
def edgesG (n : Nat) (E : Edges) : List (Nat × Nat) := ((List.range n).map fun a => ((List.range n).filter (E a)).map fun b => (a, b)).flatten
theorem edgesG_mem {n : Nat} {E : Edges} {a b : Nat} : (a, b) ∈ edgesG n E ↔ a < n ∧ b < n ∧ E a b = true := by
  unfold edgesG
  rw [List.mem_flatten]
  constructor
  · rintro ⟨l, hl, h⟩
    obtain ⟨x, hx, rfl⟩ := List.mem_map.1 hl
    obtain ⟨y, hy, e⟩ := List.mem_map.1 h
    injection e with e1 e2
    subst e1 e2
    rw [List.mem_filter] at hy
    exact ⟨by simpa using hx, by simpa using hy.1, hy.2⟩
  · rintro ⟨ha, hb, he⟩
    exact ⟨_, List.mem_map.2 ⟨a, by simpa using ha, rfl⟩, List.mem_map.2 ⟨b, List.mem_filter.2 ⟨by simpa using hb, he⟩, rfl⟩⟩
/-- The edges of a row of edges. -/
def ofL (l : List (Nat × Nat)) : Edges := fun a b => l.contains (a, b)
theorem ofL_snoc (l : List (Nat × Nat)) (a b : Nat) : ofL (l ++ [(a, b)]) = orE (ofL l) (oneE a b) := by
  funext x y
  unfold ofL orE oneE
  rw [Bool.eq_iff_iff]
  simp
end Go.Inq
