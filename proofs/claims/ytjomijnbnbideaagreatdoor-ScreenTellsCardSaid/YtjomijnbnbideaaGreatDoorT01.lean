/-
  Words for memory that all texts of this family share: slices that read as lists, over a set of blocks; no program in sight.
-/
import Derived.WalkKit
import Derived.WalkSpells
import Derived.WalkLawsBesides
import Derived.Handy
import Derived.Deep.QuietTactic
import Derived.BigQuiet
import Derived.Deep.RegionHeld3
import Derived.Deep.DrawnRows
import Derived.Below
import Derived.Laws.OwnMore
import Derived.Deep.AppendLies
import Derived.Deep.Draws
import Derived.Laws.Rows
import Derived.Maps.AppendAt
import Derived.RegionTactic
import Derived.OwnWalk
import Derived.Deep.Light
import Derived.Deep.LoopGhost
import Derived.Deep.DeepCutAuto
import Derived.BigGuardPart
import Derived.StillTailTactics
import Derived.Deep.AppendSrc
import Derived.Lib.Split
import Derived.Lib.Strings
import Derived.Lib.IndexBytes
import Derived.Lib.SmallJoins
set_option linter.unusedVariables false
set_option linter.unusedSimpArgs false
namespace Go.Inq
open Go Go.RowKit

theorem hide {p : Prop} (h : p) : Hid p := h
theorem ret_bool {a b : Bool} (h : a = b) : Ending.returned (.bool a) = .returned (.bool b) := by rw [h]
theorem ret_int {k : IntKind} {a b : Int} (h : a = b) : Ending.returned (.int k a) = .returned (.int k b) := by rw [h]

/-- The worlds w and w' hold the same in the blocks of K. -/
def Agree (K : Nat → Prop) (w w' : World) : Prop := ∀ b, K b → w'.heap[b]? = w.heap[b]?

section
variable {K K' : Nat → Prop} {w w' w'' : World}
theorem Agree.refl (K : Nat → Prop) (w : World) : Agree K w w := fun _ _ => rfl
theorem Agree.trans (h : Agree K w w') (h' : Agree K w' w'') : Agree K w w'' := fun b hb => (h' b hb).trans (h b hb)
theorem Agree.mono (h : Agree K w w') (hk : ∀ b, K' b → K b) : Agree K' w w' := fun b hb => h b (hk b hb)
theorem Agree.cell (h : Agree K w w') {p : Addr} (hp : K p.block) : w'.cell? p = w.cell? p := World.cell?_of_block (h _ hp)
theorem Agree.frozen (h : Agree K w w') {p : Addr} (hp : K p.block) : w'.frozen? p = w.frozen? p := World.frozen?_of_block (h _ hp)
theorem Agree.drew (K : Nat → Prop) (w : World) : Agree K w w.drew := fun _ _ => rfl
theorem Agree.drewN (K : Nat → Prop) (w : World) (n : Nat) : Agree K w (w.drewN n) := fun _ _ => rfl
theorem Agree.alloc (hk : ∀ b, K b → b < w.heap.size) (o : Obj) : Agree K w (w.alloc o) := fun b hb => Below.heap_alloc w o b (hk b hb)
theorem Agree.setCell (p : Addr) (hk : ¬ K p.block) (u : Value) : Agree K w (w.setCell p u) :=
  fun b hb => Below.heap_setCell w p u b (fun e => hk (e ▸ hb))
theorem Agree.below {B : Nat} (h : Below B w w') (hk : ∀ b, K b → b < B) : Agree K w w' := fun b hb => h.block b (hk b hb)
theorem Agree.grown {row : Option Nat} (h : w.grownBy w' row) (hk : ∀ b, K b → b < w.heap.size ∧ some b ≠ row) : Agree K w w' := fun b hb => h.block b (hk b hb).1 (hk b hb).2
end

/-- The slice v reads as the list l; each element lies in 'size' cells that R tells of; all lies in blocks of K. -/
def SlR {α : Type} (size : Nat) (R : World → (Nat → Prop) → List Value → α → Prop) (w : World) (K : Nat → Prop) (v : Value) (l : List α) : Prop :=
  ∃ (A : Option Addr) (c : Nat) (xs : List (List Value)), v = .slice A l.length c ∧ l.length ≤ c ∧ xs.length = l.length ∧
    (∀ (i : Nat) cs x, xs[i]? = some cs → l[i]? = some x → cs.length = size ∧ R w K cs x) ∧
    (0 < l.length → ∃ b off, A = some ⟨b, off, none⟩ ∧ K b ∧ ∀ (i j : Nat) cs u, xs[i]? = some cs → cs[j]? = some u → w.cell? ⟨b, off + i * size + j, none⟩ = some u)

/-- R's word stands in each later world that holds the same in K, and over each greater set. -/
def Stab {α : Type} (R : World → (Nat → Prop) → List Value → α → Prop) : Prop :=
  ∀ w w' K K' cs x, R w K cs x → Agree K w w' → (∀ b, K b → K' b) → R w' K' cs x

theorem SlR.keep {α : Type} {size : Nat} {R : World → (Nat → Prop) → List Value → α → Prop} (hR : Stab R) {w w' : World} {K K' : Nat → Prop} {v : Value} {l : List α}
    (h : SlR size R w K v l) (ha : Agree K w w') (hk : ∀ b, K b → K' b) : SlR size R w' K' v l := by
  obtain ⟨A, c, xs, hv, hc, hl, he, hm⟩ := h
  refine ⟨A, c, xs, hv, hc, hl, fun i cs x h1 h2 => ⟨(he i cs x h1 h2).1, hR _ _ _ _ _ _ (he i cs x h1 h2).2 ha hk⟩, fun h0 => ?_⟩
  obtain ⟨b, off, hA, hb, hcell⟩ := hm h0
  exact ⟨b, off, hA, hk b hb, fun i j cs u h1 h2 => (ha.cell (p := ⟨b, off + i * size + j, none⟩) hb).trans (hcell i j cs u h1 h2)⟩

/-- All blocks that are there. -/
def Old (w : World) : Nat → Prop := fun b => b < w.heap.size

theorem SlR.below {α : Type} {size : Nat} {R : World → (Nat → Prop) → List Value → α → Prop} (hR : Stab R) {w w' : World} {v : Value} {l : List α}
    (h : SlR size R w (Old w) v l) (hb : Below w.heap.size w w') : SlR size R w' (Old w') v l :=
  h.keep hR (Agree.below hb fun _ h => h) fun _ h => Nat.lt_of_lt_of_le h hb.size
theorem SlR.fit {α : Type} {size : Nat} {R : World → (Nat → Prop) → List Value → α → Prop} (hR : Stab R) {w : World} {K K' : Nat → Prop} {v : Value} {l : List α}
    (h : SlR size R w K v l) (hk : ∀ b, K b → K' b) : SlR size R w K' v l := h.keep hR (Agree.refl _ _) hk

/-- Elements that are told by their cells alone. -/
def Flat {α : Type} (enc : α → List Value) : World → (Nat → Prop) → List Value → α → Prop := fun _ _ cs x => cs = enc x
theorem Flat.stab {α : Type} (enc : α → List Value) : Stab (Flat enc) := fun _ _ _ _ _ _ h _ _ => h

theorem SlR.len {α : Type} {size : Nat} {R : World → (Nat → Prop) → List Value → α → Prop} {w : World} {K : Nat → Prop} {v : Value} {l : List α} (h : SlR size R w K v l) :
    ∃ A c, v = .slice A l.length c ∧ l.length ≤ c := by
  obtain ⟨A, c, xs, hv, hc, _⟩ := h
  exact ⟨A, c, hv, hc⟩

theorem SlR.nil {α : Type} (size : Nat) (R : World → (Nat → Prop) → List Value → α → Prop) (w : World) (K : Nat → Prop) (c : Nat) (A : Option Addr) : SlR size R w K (.slice A 0 c) ([] : List α) :=
  ⟨A, c, [], rfl, Nat.zero_le _, rfl, fun i cs x h => by simp at h, fun h => by simp at h⟩

/-- One element's cells. -/
theorem SlR.at_ {α : Type} {size : Nat} {R : World → (Nat → Prop) → List Value → α → Prop} {w : World} {K : Nat → Prop} {A : Option Addr} {n c : Nat} {l : List α} (h : SlR size R w K (.slice A n c) l) {i : Nat} (hi : i < l.length) :
    ∃ b off cs, A = some ⟨b, off, none⟩ ∧ K b ∧ cs.length = size ∧ R w K cs l[i] ∧ ∀ (j : Nat) u, cs[j]? = some u → w.cell? ⟨b, off + i * size + j, none⟩ = some u := by
  obtain ⟨A', c', xs, hv, hc, hl, he, hm⟩ := h
  obtain ⟨b, off, hA, hb, hcell⟩ := hm (by omega)
  injection hv with h1 h2 h3
  have hx : xs[i]? = some (xs[i]'(by omega)) := List.getElem?_eq_getElem (by omega)
  have := he i _ l[i] hx (List.getElem?_eq_getElem hi)
  exact ⟨b, off, xs[i]'(by omega), by rw [h1, hA], hb, this.1, this.2, fun j u hj => hcell i j _ u hx hj⟩

theorem SlR.cells {α : Type} {size : Nat} {R : World → (Nat → Prop) → List Value → α → Prop} {w : World} {K : Nat → Prop} {b off n c : Nat} {l : List α} (h : SlR size R w K (.slice (some ⟨b, off, none⟩) n c) l) {i : Nat} (hi : i < l.length) :
    ∃ cs, K b ∧ cs.length = size ∧ R w K cs l[i] ∧ ∀ (j : Nat) u, cs[j]? = some u → w.cell? ⟨b, off + i * size + j, none⟩ = some u := by
  obtain ⟨b', off', cs, hA, h1, h2, h3, h4⟩ := h.at_ hi
  injection hA with hA
  injection hA with hb ho
  subst hb ho
  exact ⟨cs, h1, h2, h3, h4⟩

/-- The first k elements. -/
theorem SlR.take {α : Type} {size : Nat} {R : World → (Nat → Prop) → List Value → α → Prop} {w : World} {K : Nat → Prop} {A : Option Addr} {n c : Nat} {l : List α} (h : SlR size R w K (.slice A n c) l) {k : Nat} (hk : k ≤ l.length) :
    SlR size R w K (.slice A k c) (l.take k) := by
  obtain ⟨A', c', xs, hv, hc, hl, he, hm⟩ := h
  injection hv with h1 h2 h3
  subst h1 h3
  have hlk : (l.take k).length = k := by rw [List.length_take]; omega
  refine ⟨A, c, xs.take k, by rw [hlk], by omega, by rw [List.length_take, List.length_take]; omega, fun i cs x h1 h2 => ?_, fun h0 => ?_⟩
  · rw [List.getElem?_take] at h1 h2
    split at h1
    · rename_i hik; rw [if_pos hik] at h2; exact he i cs x h1 h2
    · cases h1
  · obtain ⟨b, off, hA, hb, hcell⟩ := hm (by omega)
    refine ⟨b, off, hA, hb, fun i j cs u h1 h2 => ?_⟩
    rw [List.getElem?_take] at h1
    split at h1
    · exact hcell i j cs u h1 h2
    · cases h1

/-- What is left behind the first k elements: 's[k:]', with the model's own 'if'. -/
theorem SlR.drop {α : Type} {size : Nat} {R : World → (Nat → Prop) → List Value → α → Prop} {w : World} {K : Nat → Prop} {A : Option Addr} {n c : Nat} {l : List α} (h : SlR size R w K (.slice A n c) l) {k : Nat} (hk : k ≤ l.length) :
    SlR size R w K (.slice (if c = k then A else A.map (·.add (k * size))) (n - k) (c - k)) (l.drop k) := by
  obtain ⟨A', c', xs, hv, hc, hl, he, hm⟩ := h
  injection hv with h1 h2 h3
  subst h1 h3
  have hlk : (l.drop k).length = l.length - k := List.length_drop
  refine ⟨_, _, xs.drop k, by rw [hlk, h2], by rw [hlk]; omega, by rw [List.length_drop, List.length_drop, hl], fun i cs x h1 h2 => ?_, fun h0 => ?_⟩
  · rw [List.getElem?_drop] at h1 h2
    exact he _ cs x h1 h2
  · rw [hlk] at h0
    obtain ⟨b, off, hA, hb, hcell⟩ := hm (by omega)
    rw [if_neg (by omega), hA]
    refine ⟨b, off + k * size, ?_, hb, fun i j cs u h1 h2 => ?_⟩
    · simp only [Option.map_some, Addr.add]
      split
      · rename_i h0; rw [h0]; rfl
      · rfl
    · rw [List.getElem?_drop] at h1
      have := hcell (k + i) j cs u h1 h2
      rw [Nat.add_mul, ← Nat.add_assoc] at this
      exact this

/-- An owned row reads as a list, over whatever set holds its block. -/
theorem SlR.of_own {α : Type} {size : Nat} {R : World → (Nat → Prop) → List Value → α → Prop} {w : World} {K : Nat → Prop} {base : Nat} {e : TypeId} {v : Value} {n : Nat} {xs : List Value} {l : List α} {ys : List (List Value)}
    (h : w.ownsRow base e size v n xs) (hn : n = l.length) (hx : xs = ys.flatten) (hy : ys.length = l.length) (he : ∀ (i : Nat) cs x, ys[i]? = some cs → l[i]? = some x → cs.length = size ∧ R w K cs x)
    (hK : ∀ g, v.ownBlock = some g → K g) : SlR size R w K v l := by
  have hcell : ∀ g, v.ownBlock = some g → ∀ j u, xs[j]? = some u → w.cell? ⟨g, j, none⟩ = some u := by
    intro g hg j u hu
    have := h.cells hg j u hu
    rwa [show (⟨g, 0, none⟩ : Addr).add j = ⟨g, j, none⟩ by unfold Addr.add; split <;> simp_all] at this
  have hflat : ∀ (ys : List (List Value)) (i j : Nat) cs u, (∀ (i : Nat) cs, ys[i]? = some cs → cs.length = size) → ys[i]? = some cs → cs[j]? = some u → ys.flatten[i * size + j]? = some u := by
    intro ys
    induction ys with
    | nil => intro i j cs u _ h; simp at h
    | cons y ys ih =>
      intro i j cs u hs h1 h2
      have hy := hs 0 y rfl
      cases i with
      | zero =>
        simp at h1; subst h1
        have hj : j < y.length := by
          rcases Nat.lt_or_ge j y.length with h | h
          · exact h
          · rw [List.getElem?_eq_none h] at h2; cases h2
        rw [List.flatten_cons, List.getElem?_append_left (by omega)]
        simpa using h2
      | succ i =>
        simp at h1
        rw [List.flatten_cons, List.getElem?_append_right (by rw [hy, Nat.add_mul]; omega), hy, show (i + 1) * size + j - size = i * size + j by rw [Nat.add_mul]; omega]
        exact ih i j cs u (fun i cs h => hs (i + 1) cs (by simpa using h)) h1 h2
  have hsz : ∀ (i : Nat) cs, ys[i]? = some cs → cs.length = size := by
    intro i cs h1
    have hi : i < l.length := by
      rw [← hy]
      rcases Nat.lt_or_ge i ys.length with h | h
      · exact h
      · rw [List.getElem?_eq_none h] at h1; cases h1
    exact (he i cs l[i] h1 (List.getElem?_eq_getElem hi)).1
  rcases h.2 with ⟨hv, h0⟩ | ⟨g, cap, cur, hv, hg, hh, hn', hcap, hcs, htake⟩
  · subst hv
    have : l = [] := List.eq_nil_of_length_eq_zero (by omega)
    subst this
    exact SlR.nil _ _ _ _ _ _
  · refine ⟨some ⟨g, 0, none⟩, cap, ys, by rw [hv, hn], by omega, hy, he, fun _ => ⟨g, 0, rfl, hK g (by rw [hv]; rfl), fun i j cs u h1 h2 => ?_⟩⟩
    rw [Nat.zero_add]
    exact hcell g (by rw [hv]; rfl) _ u (by rw [hx]; exact hflat ys i j cs u hsz h1 h2)

theorem SlR.of_flat {α : Type} {size : Nat} {enc : α → List Value} {w : World} {K : Nat → Prop} {base : Nat} {e : TypeId} {v : Value} {n : Nat} {l : List α}
    (h : w.ownsRow base e size v n (l.map enc).flatten) (hn : n = l.length) (hs : ∀ x, (enc x).length = size) (hK : ∀ g, base ≤ g → g < w.heap.size → K g) : SlR size (Flat enc) w K v l := by
  refine SlR.of_own (ys := l.map enc) h hn rfl (by simp) (fun i cs x h1 h2 => ?_) (fun g hg => hK g (h.lt g hg).1 (h.lt g hg).2)
  rw [List.getElem?_map, h2] at h1
  injection h1 with h1
  exact ⟨by rw [← h1]; exact hs x, h1.symm⟩

/-- Block g is just the cells cs of element type t, none frozen. -/
def Blk (w : World) (g : Nat) (t : TypeId) (cs : Array Value) : Prop := w.heap[g]? = some (.cells cs t (0, 0))
section
variable {w w' : World} {g : Nat} {t : TypeId} {cs : Array Value}
theorem Blk.lt (h : Blk w g t cs) : g < w.heap.size := by
  rcases Nat.lt_or_ge g w.heap.size with hlt | hge
  · exact hlt
  · unfold Blk at h; rw [Array.getElem?_eq_none hge] at h; cases h
theorem Blk.cell (h : Blk w g t cs) (i : Nat) : w.cell? ⟨g, i, none⟩ = cs[i]? := cell_of_row w g i cs t (0, 0) h
theorem Blk.frozen (h : Blk w g t cs) (i : Nat) : w.frozen? ⟨g, i, none⟩ = false := by
  unfold Blk at h
  simp [World.frozen?, h]
theorem Blk.new (w : World) (t : TypeId) (cs : Array Value) : Blk (w.alloc (.cells cs t)) w.heap.size t cs := heap_alloc_new w _
theorem Blk.drew (h : Blk w g t cs) : Blk w.drew g t cs := h
theorem Blk.drewN (h : Blk w g t cs) (n : Nat) : Blk (w.drewN n) g t cs := h
theorem Blk.alloc (h : Blk w g t cs) (o : Obj) : Blk (w.alloc o) g t cs := (Below.heap_alloc w o g h.lt).trans h
theorem Blk.set_ (h : Blk w g t cs) (i : Nat) (u : Value) : Blk (w.setCell ⟨g, i, none⟩ u) g t (cs.setIfInBounds i u) := by
  unfold Blk at h ⊢
  simp [World.setCell, Array.getElem?_modify, h]
theorem Blk.far (h : Blk w g t cs) {p : Addr} (hp : g ≠ p.block) (u : Value) : Blk (w.setCell p u) g t cs := (Below.heap_setCell w p u g hp).trans h
theorem Blk.below {B : Nat} (h : Blk w g t cs) (hb : Below B w w') (hg : g < B) : Blk w' g t cs := (hb.block g hg).trans h
theorem Blk.grown {row : Option Nat} (h : Blk w g t cs) (hb : w.grownBy w' row) (hg : some g ≠ row) : Blk w' g t cs := (hb.block g h.lt hg).trans h
theorem Blk.agree {K : Nat → Prop} (h : Blk w g t cs) (ha : Agree K w w') (hg : K g) : Blk w' g t cs := (ha g hg).trans h
theorem own_below {base B : Nat} {e : TypeId} {size n : Nat} {v : Value} {xs : List Value} (h : w.ownsRow base e size v n xs) (hb : Below B w w') (hB : w.heap.size ≤ B) : w'.ownsRow base e size v n xs :=
  h.kept (row := none) ⟨hb.os, hb.tape, hb.output, hb.size, fun k hk _ => hb.block k (by omega)⟩ (by cases v.ownBlock <;> simp)
theorem own_setCell {base : Nat} {e : TypeId} {size n : Nat} {v : Value} {xs : List Value} (h : w.ownsRow base e size v n xs) {p : Addr} (hp : v.ownBlock ≠ some p.block) (u : Value) : (w.setCell p u).ownsRow base e size v n xs := by
  refine ⟨h.1, ?_⟩
  rcases h.2 with h2 | ⟨g, cap, cur, hv, hg, hh, r⟩
  · exact .inl h2
  · refine .inr ⟨g, cap, cur, hv, hg, ?_, r⟩
    rw [Below.heap_setCell _ _ _ _ (fun e => hp (by rw [hv]; simp [Value.ownBlock, e]))]
    exact hh
theorem own_slice {base : Nat} {e : TypeId} {size n : Nat} {v : Value} {xs : List Value} (h : w.ownsRow base e size v n xs) : ∃ A c, v = .slice A n c := by
  rcases h.2 with ⟨h1, h2⟩ | ⟨g, cap, cur, hv, _⟩
  · subst h2; exact ⟨none, 0, h1⟩
  · exact ⟨_, _, hv⟩
theorem own_drewN {base : Nat} {e : TypeId} {size n : Nat} {v : Value} {xs : List Value} (h : w.ownsRow base e size v n xs) (k : Nat) : (w.drewN k).ownsRow base e size v n xs := h
end

theorem flat_snoc {α : Type} (enc : α → List Value) (l : List α) (x : α) : ((l ++ [x]).map enc).flatten = (l.map enc).flatten ++ enc x := by simp
theorem take_snoc' {α : Type} {l : List α} {k : Nat} (h : k < l.length) : l.take (k + 1) = l.take k ++ [l[k]] := by rw [List.take_succ_eq_append_getElem h]

end Go.Inq

namespace Go.Inq
open Go Go.RowKit

structure Ev where
  kind : Int
  sess : Int
  key : Int
  val : Int
deriving DecidableEq

def Ev.enc (e : Ev) : List Value := [.int .i64 e.kind, .int .i64 e.sess, .int .i64 e.key, .int .i64 e.val]

def belowB (n m : Int) : Bool := decide (0 ≤ n) && decide (n < m)
def itemB (k : Int) : Bool := k == 1 || k == 2

/-- An event may be. -/
def Ev.right (e : Ev) : Bool := belowB e.kind 5 && belowB e.sess 8 && (if itemB e.kind then belowB e.key 16 && belowB e.val 2147483648 else e.key == 0 && e.val == 0)

/-- A slice of events. -/
def EvS (w : World) (K : Nat → Prop) (v : Value) (l : List Ev) : Prop := SlR 4 (Flat Ev.enc) w K v l

theorem EvS.keep {w w' : World} {K K' : Nat → Prop} {v : Value} {l : List Ev} (h : EvS w K v l) (ha : Agree K w w') (hk : ∀ b, K b → K' b) : EvS w' K' v l :=
  SlR.keep (Flat.stab _) h ha hk

theorem EvS.at_ {w : World} {K : Nat → Prop} {A : Option Addr} {n c : Nat} {l : List Ev} (h : EvS w K (.slice A n c) l) {i : Nat} (hi : i < l.length) :
    ∃ b off, A = some ⟨b, off, none⟩ ∧ K b ∧ w.cell? ⟨b, off + i * 4, none⟩ = some (.int .i64 l[i].kind) ∧ w.cell? ⟨b, off + i * 4 + 1, none⟩ = some (.int .i64 l[i].sess) ∧
      w.cell? ⟨b, off + i * 4 + 2, none⟩ = some (.int .i64 l[i].key) ∧ w.cell? ⟨b, off + i * 4 + 3, none⟩ = some (.int .i64 l[i].val) := by
  obtain ⟨b, off, cs, hA, hK, _, hR, hc⟩ := SlR.at_ h hi
  unfold Flat at hR
  subst hR
  exact ⟨b, off, hA, hK, hc 0 _ rfl, hc 1 _ rfl, hc 2 _ rfl, hc 3 _ rfl⟩

theorem EvS.below {w w' : World} {v : Value} {l : List Ev} (h : EvS w (Old w) v l) (hb : Below w.heap.size w w') : EvS w' (Old w') v l := SlR.below (Flat.stab _) h hb
theorem EvS.fit {w : World} {K K' : Nat → Prop} {v : Value} {l : List Ev} (h : EvS w K v l) (hk : ∀ b, K b → K' b) : EvS w K' v l := SlR.fit (Flat.stab _) h hk
theorem EvS.cells {w : World} {K : Nat → Prop} {b off n c : Nat} {l : List Ev} (h : EvS w K (.slice (some ⟨b, off, none⟩) n c) l) {i : Nat} (hi : i < l.length) :
    K b ∧ w.cell? ⟨b, off + i * 4, none⟩ = some (.int .i64 l[i].kind) ∧ w.cell? ⟨b, off + i * 4 + 1, none⟩ = some (.int .i64 l[i].sess) ∧
      w.cell? ⟨b, off + i * 4 + 2, none⟩ = some (.int .i64 l[i].key) ∧ w.cell? ⟨b, off + i * 4 + 3, none⟩ = some (.int .i64 l[i].val) := by
  obtain ⟨cs, hK, _, hR, hc⟩ := SlR.cells h hi
  unfold Flat at hR
  subst hR
  exact ⟨hK, hc 0 _ rfl, hc 1 _ rfl, hc 2 _ rfl, hc 3 _ rfl⟩

/-- A pair of numbers: a key, and a value (a take: a key, and from whom). -/
structure It where
  a : Int
  b : Int
deriving DecidableEq
def It.enc (e : It) : List Value := [.int .i64 e.a, .int .i64 e.b]

def ItS (w : World) (K : Nat → Prop) (v : Value) (l : List It) : Prop := SlR 2 (Flat It.enc) w K v l

theorem ItS.keep {w w' : World} {K K' : Nat → Prop} {v : Value} {l : List It} (h : ItS w K v l) (ha : Agree K w w') (hk : ∀ b, K b → K' b) : ItS w' K' v l :=
  SlR.keep (Flat.stab _) h ha hk

theorem ItS.below {w w' : World} {v : Value} {l : List It} (h : ItS w (Old w) v l) (hb : Below w.heap.size w w') : ItS w' (Old w') v l := SlR.below (Flat.stab _) h hb
theorem ItS.fit {w : World} {K K' : Nat → Prop} {v : Value} {l : List It} (h : ItS w K v l) (hk : ∀ b, K b → K' b) : ItS w K' v l := SlR.fit (Flat.stab _) h hk
theorem ItS.cells {w : World} {K : Nat → Prop} {b off n c : Nat} {l : List It} (h : ItS w K (.slice (some ⟨b, off, none⟩) n c) l) {i : Nat} (hi : i < l.length) :
    K b ∧ w.cell? ⟨b, off + i * 2, none⟩ = some (.int .i64 l[i].a) ∧ w.cell? ⟨b, off + i * 2 + 1, none⟩ = some (.int .i64 l[i].b) := by
  obtain ⟨cs, hK, _, hR, hc⟩ := SlR.cells h hi
  unfold Flat at hR
  subst hR
  exact ⟨hK, hc 0 _ rfl, hc 1 _ rfl⟩

theorem ItS.at_ {w : World} {K : Nat → Prop} {A : Option Addr} {n c : Nat} {l : List It} (h : ItS w K (.slice A n c) l) {i : Nat} (hi : i < l.length) :
    ∃ b off, A = some ⟨b, off, none⟩ ∧ K b ∧ w.cell? ⟨b, off + i * 2, none⟩ = some (.int .i64 l[i].a) ∧ w.cell? ⟨b, off + i * 2 + 1, none⟩ = some (.int .i64 l[i].b) := by
  obtain ⟨b, off, cs, hA, hK, _, hR, hc⟩ := SlR.at_ h hi
  unfold Flat at hR
  subst hR
  exact ⟨b, off, hA, hK, hc 0 _ rfl, hc 1 _ rfl⟩

/-- The last op of a kind and a key among the first k. -/
def aheadN (l : List Ev) (kind key : Int) : Nat → Int
  | 0 => -1
  | k + 1 => match l[k]? with
    | some e => if e.kind = kind ∧ e.key = key then k else aheadN l kind key k
    | none => aheadN l kind key k

theorem aheadN_hit {l : List Ev} {kind key : Int} {m : Nat} {x : Ev} (h : l[m]? = some x) (h1 : x.kind = kind) (h2 : x.key = key) : aheadN l kind key (m + 1) = m := by
  simp [aheadN, h, h1, h2]
theorem aheadN_miss {l : List Ev} {kind key : Int} {m : Nat} {x : Ev} (h : l[m]? = some x) (h1 : ¬ (x.kind = kind ∧ x.key = key)) : aheadN l kind key (m + 1) = aheadN l kind key m := by
  simp [aheadN, h, h1]
theorem aheadN_lt (l : List Ev) (kind key : Int) : ∀ k : Nat, -1 ≤ aheadN l kind key k ∧ aheadN l kind key k < k
  | 0 => by simp [aheadN]
  | k + 1 => by
    have := aheadN_lt l kind key k
    unfold aheadN
    split
    · split <;> omega
    · omega

/-- Does some write behind place i have this key and value? -/
def future (l : List Ev) (i : Nat) (key val : Int) : Bool := (l.drop (i + 1)).any fun x => x.kind == 2 && x.key == key && x.val == val
def valAt (l : List Ev) (k : Int) : Int := ((l[k.toNat]?).map (·.val)).getD 0

/-- What is wrong with the op e at place i, those ahead being right. -/
def wrongE (l : List Ev) (i : Nat) (e : Ev) : Int :=
  if e.right = false ∨ (e.kind ≠ 1 ∧ e.kind ≠ 2) then 1
  else if e.kind = 2 then 0
  else if 0 ≤ aheadN l 2 e.key i then (if valAt l (aheadN l 2 e.key i) = e.val then 0 else 10)
  else if 0 ≤ aheadN l 1 e.key i then (if valAt l (aheadN l 1 e.key i) = e.val then 0 else 11)
  else if future l i e.key e.val = true then 9 else 0
def wrongAt (l : List Ev) (i : Nat) : Int := match l[i]? with | some e => wrongE l i e | none => 0

/-- What a look at ops gives: what is read, what is written, the place, the error. -/
structure LookOut where
  reads : List It
  writes : List It
  at_ : Int
  err : Int

/-- The first place from k on with a key. -/
def firstI (key : Int) : List Ev → Nat → Int
  | [], _ => -1
  | x :: r, k => if x.key = key then k else firstI key r (k + 1)
def firstD (l : List Ev) (key : Int) (k : Nat) : Int := firstI key (l.drop k) k
theorem firstD_step {l : List Ev} {key : Int} {k : Nat} {x : Ev} (hx : l[k]? = some x) : firstD l key k = if x.key = key then (k : Int) else firstD l key (k + 1) := by
  have hk : k < l.length := by
    rcases Nat.lt_or_ge k l.length with h | h
    · exact h
    · rw [List.getElem?_eq_none h] at hx; cases hx
  rw [List.getElem?_eq_getElem hk] at hx
  injection hx with hx
  unfold firstD
  rw [List.drop_eq_getElem_cons hk, firstI, hx]
theorem firstD_end (l : List Ev) (key : Int) : firstD l key l.length = -1 := by simp [firstD, firstI]
theorem firstI_lt (key : Int) : ∀ (l : List Ev) (k : Nat), firstI key l k = -1 ∨ ((k : Int) ≤ firstI key l k ∧ firstI key l k < (k : Int) + l.length)
  | [], _ => .inl rfl
  | x :: r, k => by
    unfold firstI
    split
    · right; simp; omega
    · rcases firstI_lt key r (k + 1) with h | h
      · exact .inl h
      · right; simp; omega
theorem firstD_lt (l : List Ev) (key : Int) : -1 ≤ firstD l key 0 ∧ firstD l key 0 < l.length := by
  have := firstI_lt key (l.drop 0) 0
  unfold firstD
  simp only [List.drop_zero] at *
  omega

def kindAt (l : List Ev) (k : Int) : Int := ((l[k.toNat]?).map (·.kind)).getD 0
def readOf (l : List Ev) (key : Int) : Option It := if 0 ≤ firstD l key 0 ∧ kindAt l (firstD l key 0) = 1 then some ⟨key, valAt l (firstD l key 0)⟩ else none
def writeOf (l : List Ev) (key : Int) : Option It := if 0 ≤ aheadN l 2 key l.length then some ⟨key, valAt l (aheadN l 2 key l.length)⟩ else none
def readsTo (l : List Ev) (n : Nat) : List It := (List.range n).filterMap fun (k : Nat) => readOf l (k : Int)
def writesTo (l : List Ev) (n : Nat) : List It := (List.range n).filterMap fun (k : Nat) => writeOf l (k : Int)
theorem readsTo_succ (l : List Ev) (n : Nat) : readsTo l (n + 1) = readsTo l n ++ (readOf l n).toList := by
  unfold readsTo
  rw [List.range_succ, List.filterMap_append]
  congr 1
theorem writesTo_succ (l : List Ev) (n : Nat) : writesTo l (n + 1) = writesTo l n ++ (writeOf l n).toList := by
  unfold writesTo
  rw [List.range_succ, List.filterMap_append]
  congr 1
theorem readsTo_len (l : List Ev) (n : Nat) : (readsTo l n).length ≤ n := by
  unfold readsTo
  exact Nat.le_trans (List.length_filterMap_le _ _) (by simp)
theorem writesTo_len (l : List Ev) (n : Nat) : (writesTo l n).length ≤ n := by
  unfold writesTo
  exact Nat.le_trans (List.length_filterMap_le _ _) (by simp)

def firstBad (l : List Ev) : Option Nat := (List.range l.length).find? fun i => wrongAt l i != 0
theorem firstBad_some {l : List Ev} {k : Nat} (hk : k < l.length) (h : ∀ j, j < k → wrongAt l j = 0) (hb : wrongAt l k ≠ 0) : firstBad l = some k := by
  unfold firstBad
  rw [List.find?_range_eq_some]
  exact ⟨by simpa using hb, by simpa using hk, fun j hj => by simpa using h j hj⟩
theorem firstBad_none {l : List Ev} (h : ∀ j, j < l.length → wrongAt l j = 0) : firstBad l = none := by
  unfold firstBad
  rw [List.find?_eq_none]
  intro x hx
  simpa using h x (by simpa using hx)

/-- The reference's look: by definition. -/
def lookR (l : List Ev) : LookOut := match firstBad l with
  | some i => ⟨[], [], i, wrongAt l i⟩
  | none => ⟨readsTo l 16, writesTo l 16, 0, 0⟩

theorem future_step {l : List Ev} {i k : Nat} {key val : Int} {x : Ev} (hik : i < k) (hx : l[k]? = some x) :
    (l.drop k).any (fun x => x.kind == 2 && x.key == key && x.val == val) = ((x.kind == 2 && x.key == key && x.val == val) || (l.drop (k + 1)).any fun x => x.kind == 2 && x.key == key && x.val == val) := by
  have hk : k < l.length := by
    rcases Nat.lt_or_ge k l.length with h | h
    · exact h
    · rw [List.getElem?_eq_none h] at hx; cases hx
  rw [List.drop_eq_getElem_cons hk, List.any_cons]
  rw [List.getElem?_eq_getElem hk] at hx
  injection hx with hx
  rw [hx]

end Go.Inq

namespace Go.Inq
open Go Go.RowKit

/-- The first number below n at which f is not 0. -/
def firstN (n : Nat) (f : Nat → Int) : Option Nat := (List.range n).find? fun i => f i != 0
theorem firstN_some {n k : Nat} {f : Nat → Int} (hk : k < n) (h : ∀ j, j < k → f j = 0) (hb : f k ≠ 0) : firstN n f = some k := by
  unfold firstN
  rw [List.find?_range_eq_some]
  exact ⟨by simpa using hb, by simpa using hk, fun j hj => by simpa using h j hj⟩
theorem firstN_none {n : Nat} {f : Nat → Int} (h : ∀ j, j < n → f j = 0) : firstN n f = none := by
  unfold firstN
  rw [List.find?_eq_none]
  intro x hx
  simpa using h x (by simpa using hx)
theorem firstN_ways (n : Nat) (f : Nat → Int) : (∃ k, k < n ∧ (∀ j, j < k → f j = 0) ∧ f k ≠ 0 ∧ firstN n f = some k) ∨ ((∀ j, j < n → f j = 0) ∧ firstN n f = none) := by
  cases h : firstN n f with
  | none =>
    refine .inr ⟨fun j hj => ?_, rfl⟩
    unfold firstN at h
    rw [List.find?_eq_none] at h
    simpa using h j (by simpa using hj)
  | some k =>
    unfold firstN at h
    rw [List.find?_range_eq_some] at h
    obtain ⟨h1, h2, h3⟩ := h
    exact .inl ⟨k, by simpa using h2, fun j hj => by simpa using h3 j hj, by simpa using h1, rfl⟩

structure Tx where
  sess : Int
  done : Bool
  first : Int
  ops : List Ev
structure Txn where
  sess : Int
  writes : List Int
  reads : List It
deriving DecidableEq

def mayE (e : Ev) : Bool := e.right && itemB e.kind
/-- A transaction may be looked at. -/
def mayT (t : Tx) : Bool := t.ops.all mayE && belowB t.sess 8
def isW (x : It) (e : Ev) : Bool := e.kind == 2 && e.key == x.a && e.val == x.b
/-- How often this is written among the first ops. -/
def wr (ops : List Ev) (many : Nat) (x : It) : Nat := ((ops.take many).filter (isW x)).length
theorem wr_zero (ops : List Ev) (x : It) : wr ops 0 x = 0 := rfl
theorem wr_step {ops : List Ev} {i : Nat} (hi : i < ops.length) (x : It) : wr ops (i + 1) x = wr ops i x + if isW x ops[i] = true then 1 else 0 := by
  unfold wr
  rw [List.take_succ_eq_append_getElem hi, List.filter_append, List.length_append]
  congr 1
  by_cases h : isW x ops[i] = true <;> simp [h]
theorem wr_le (ops : List Ev) (i : Nat) (x : It) : wr ops i x ≤ i := by
  unfold wr
  exact Nat.le_trans (List.length_filter_le _ _) (by rw [List.length_take]; omega)
def wrT (t : Tx) (x : It) : Nat := wr t.ops t.ops.length x
/-- How often the first transactions write it. -/
def sumW (l : List Tx) (n : Nat) (x : It) : Nat := ((l.take n).map fun t => wrT t x).sum
theorem sumW_step {l : List Tx} {i : Nat} (hi : i < l.length) (x : It) : sumW l (i + 1) x = sumW l i x + wrT l[i] x := by
  unfold sumW
  rw [List.take_succ_eq_append_getElem hi, List.map_append, List.sum_append]
  simp
/-- What is wrong with a write. -/
def opE (l : List Tx) (i : Nat) (ops : List Ev) (j : Nat) : Int := match ops[j]? with
  | none => 0
  | some e => if e.kind ≠ 2 then 0 else if e.val = 0 then 7 else if 0 < wr ops j ⟨e.key, e.val⟩ + sumW l i ⟨e.key, e.val⟩ then 8 else 0
/-- What is wrong with a transaction's writes. -/
def unlikeR (l : List Tx) (i : Nat) : Int := match l[i]? with
  | none => 0
  | some t => match firstN t.ops.length (opE l i t.ops) with
    | some j => opE l i t.ops j
    | none => 0
/-- A transaction's number among the committed ones. -/
def numR7 (l : List Tx) (i : Nat) : Nat := ((l.take i).filter (·.done)).length
theorem num7_step {l : List Tx} {i : Nat} (hi : i < l.length) : numR7 l (i + 1) = numR7 l i + if l[i].done = true then 1 else 0 := by
  unfold numR7
  rw [List.take_succ_eq_append_getElem hi, List.filter_append, List.length_append]
  congr 1
  by_cases h : l[i].done = true <;> simp [h]
theorem num7_le (l : List Tx) (i : Nat) : numR7 l i ≤ i := by
  unfold numR7
  exact Nat.le_trans (List.length_filter_le _ _) (by rw [List.length_take]; omega)
/-- The first transaction that writes it. -/
def whoR (l : List Tx) (x : It) : Option Nat := l.findIdx? fun t => decide (0 < wrT t x)
def middleB (ws : List It) (x : It) : Bool := ws.any fun y => y.a == x.a && y.b != x.b
/-- Whose a value of a key is. -/
def fromR (l : List Tx) (x : It) : Int × Int :=
  if x.b = 0 then (-1, 0) else match whoR l x with
    | none => (0, 12)
    | some k => match l[k]? with
      | none => (0, 12)
      | some t => if t.done = false then (0, 13) else if middleB (lookR t.ops).writes x = true then (0, 14) else ((numR7 l k : Int), 0)
/-- What is wrong with a read. -/
def readE (l : List Tx) (rs : List It) (i : Nat) : Int := match rs[i]? with | some r => (fromR l r).2 | none => 0
theorem readE_at {l : List Tx} {rs : List It} {i : Nat} (h : i < rs.length) : readE l rs i = (fromR l rs[i]).2 := by
  unfold readE; rw [List.getElem?_eq_getElem h]
/-- A committed transaction, as a history has it; or what is wrong with its reads. -/
def oneR (l : List Tx) (t : Tx) : Txn × Int :=
  let f := lookR t.ops
  match firstN f.reads.length (readE l f.reads) with
  | some i => (⟨0, [], []⟩, readE l f.reads i)
  | none => (⟨t.sess, f.writes.map (·.a), f.reads.map fun r => ⟨r.a, (fromR l r).1⟩⟩, 0)
def mayAt (l : List Tx) (i : Nat) : Int := match l[i]? with | some t => if mayT t = true then 0 else 1 | none => 0
def lookAt (l : List Tx) (i : Nat) : Int := match l[i]? with | some t => if t.done = true then (lookR t.ops).err else 0 | none => 0
def oneAt (l : List Tx) (i : Nat) : Int := match l[i]? with | some t => if t.done = true then (oneR l t).2 else 0 | none => 0
/-- The committed ones among the first. -/
def txnsTo (l : List Tx) (n : Nat) : List Txn := ((l.take n).filter (·.done)).map fun t => (oneR l t).1
theorem txnsTo_step {l : List Tx} {i : Nat} (hi : i < l.length) : txnsTo l (i + 1) = txnsTo l i ++ if l[i].done = true then [(oneR l l[i]).1] else [] := by
  unfold txnsTo
  rw [List.take_succ_eq_append_getElem hi, List.filter_append, List.map_append]
  congr 1
  by_cases h : l[i].done = true <;> simp [h]
/-- The history of transactions; or which one is wrong, and how. -/
def histR (l : List Tx) : List Txn × Int × Int :=
  if 32 < l.length then ([], 0, 4)
  else match firstN l.length (mayAt l) with
    | some i => ([], i, mayAt l i)
    | none => match firstN l.length (unlikeR l) with
      | some i => ([], i, unlikeR l i)
      | none => match firstN l.length (lookAt l) with
        | some i => ([], i, lookAt l i)
        | none => match firstN l.length (oneAt l) with
          | some i => ([], i, oneAt l i)
          | none => (txnsTo l l.length, 0, 0)
theorem histR_many {l : List Tx} (h : 32 < l.length) : histR l = ([], 0, 4) := by unfold histR; rw [if_pos h]
theorem histR_may {l : List Tx} (h : ¬ 32 < l.length) {i : Nat} (hi : i < l.length) (hj : ∀ j, j < i → mayAt l j = 0) (hb : mayAt l i ≠ 0) : histR l = ([], (i : Int), mayAt l i) := by
  unfold histR; rw [if_neg h, firstN_some hi hj hb]
theorem histR_unlike {l : List Tx} (h : ¬ 32 < l.length) (h1 : ∀ j, j < l.length → mayAt l j = 0) {i : Nat} (hi : i < l.length) (hj : ∀ j, j < i → unlikeR l j = 0) (hb : unlikeR l i ≠ 0) : histR l = ([], (i : Int), unlikeR l i) := by
  unfold histR; rw [if_neg h, firstN_none h1, firstN_some hi hj hb]
theorem histR_look {l : List Tx} (h : ¬ 32 < l.length) (h1 : ∀ j, j < l.length → mayAt l j = 0) (h2 : ∀ j, j < l.length → unlikeR l j = 0) {i : Nat} (hi : i < l.length) (hj : ∀ j, j < i → lookAt l j = 0) (hb : lookAt l i ≠ 0) : histR l = ([], (i : Int), lookAt l i) := by
  unfold histR; rw [if_neg h, firstN_none h1, firstN_none h2, firstN_some hi hj hb]
theorem histR_one {l : List Tx} (h : ¬ 32 < l.length) (h1 : ∀ j, j < l.length → mayAt l j = 0) (h2 : ∀ j, j < l.length → unlikeR l j = 0) (h3 : ∀ j, j < l.length → lookAt l j = 0) {i : Nat} (hi : i < l.length) (hj : ∀ j, j < i → oneAt l j = 0) (hb : oneAt l i ≠ 0) : histR l = ([], (i : Int), oneAt l i) := by
  unfold histR; rw [if_neg h, firstN_none h1, firstN_none h2, firstN_none h3, firstN_some hi hj hb]
theorem histR_good {l : List Tx} (h : ¬ 32 < l.length) (h1 : ∀ j, j < l.length → mayAt l j = 0) (h2 : ∀ j, j < l.length → unlikeR l j = 0) (h3 : ∀ j, j < l.length → lookAt l j = 0) (h4 : ∀ j, j < l.length → oneAt l j = 0) : histR l = (txnsTo l l.length, 0, 0) := by
  unfold histR; rw [if_neg h, firstN_none h1, firstN_none h2, firstN_none h3, firstN_none h4]
end Go.Inq

namespace Go.Inq
open Go Go.RowKit

/-- The last transaction of a session. -/
def lastIx : List Tx → Int → Option Nat
  | [], _ => none
  | t :: r, s => match lastIx r s with
    | some k => some (k + 1)
    | none => if t.sess = s then some 0 else none
theorem lastIx_lt {l : List Tx} {s : Int} {k : Nat} (h : lastIx l s = some k) : ∃ hk : k < l.length, l[k].sess = s := by
  induction l generalizing k with
  | nil => cases h
  | cons t r ih =>
    unfold lastIx at h
    cases hr : lastIx r s with
    | some j =>
      rw [hr] at h
      injection h with h
      subst h
      obtain ⟨hj, he⟩ := ih hr
      exact ⟨by simp; omega, by simpa using he⟩
    | none =>
      rw [hr] at h
      dsimp only at h
      split at h
      · injection h with h; subst h; exact ⟨by simp, by simpa using by assumption⟩
      · cases h
theorem lastIx_snoc (l : List Tx) (t : Tx) (s : Int) : lastIx (l ++ [t]) s = if t.sess = s then some l.length else lastIx l s := by
  induction l with
  | nil => simp [lastIx]
  | cons u r ih =>
    rw [List.cons_append, lastIx, ih]
    by_cases h : t.sess = s
    · rw [if_pos h, if_pos h]; simp
    · rw [if_neg h, if_neg h, lastIx]
theorem lastIx_set {l : List Tx} {k : Nat} {t : Tx} (h : ∀ u, l[k]? = some u → t.sess = u.sess) (s : Int) : lastIx (l.set k t) s = lastIx l s := by
  induction l generalizing k with
  | nil => rfl
  | cons u r ih =>
    cases k with
    | zero =>
      have := h u rfl
      rw [List.set_cons_zero, lastIx, lastIx, this]
    | succ k =>
      rw [List.set_cons_succ, lastIx, lastIx, ih (fun v hv => h v (by simpa using hv))]
/-- By steps from the end: the reference's search. -/
def lastTo (l : List Tx) (s : Int) (n : Nat) : Option Nat := lastIx (l.take n) s
theorem lastTo_step {l : List Tx} {s : Int} {n : Nat} (hn : n < l.length) : lastTo l s (n + 1) = if l[n].sess = s then some n else lastTo l s n := by
  unfold lastTo
  rw [List.take_succ_eq_append_getElem hn, lastIx_snoc, List.length_take, Nat.min_eq_left (by omega)]

structure Grp where
  out : List Tx
  opn : List Bool
/-- Whether a transaction of the session is open: which one. -/
def Grp.at_ (g : Grp) (s : Int) : Option Nat := match lastIx g.out s with
  | some k => if g.opn[k]? = some true then some k else none
  | none => none
/-- What is wrong with an event. -/
def Grp.bad (g : Grp) (e : Ev) : Int :=
  if e.right = false then 1
  else if e.kind = 0 then (if (g.at_ e.sess).isSome then 5 else if g.out.length = 32 then 4 else 0)
  else if (g.at_ e.sess).isSome then 0 else 6
def addOp (t : Tx) (e : Ev) : Tx := { t with ops := t.ops ++ [e] }
def shutT (t : Tx) (b : Bool) : Tx := { t with done := b }
def noTx : Tx := ⟨0, false, 0, []⟩
/-- One event more. -/
def Grp.next (g : Grp) (i : Nat) (e : Ev) : Grp :=
  if e.kind = 0 then ⟨g.out ++ [⟨e.sess, false, i, []⟩], g.opn ++ [true]⟩
  else match g.at_ e.sess with
    | none => g
    | some k => if e.kind = 1 ∨ e.kind = 2 then ⟨g.out.set k (addOp (g.out[k]?.getD noTx) e), g.opn⟩
      else ⟨g.out.set k (shutT (g.out[k]?.getD noTx) (decide (e.kind = 3))), g.opn.set k false⟩
def grpTo (l : List Ev) : Nat → Grp
  | 0 => ⟨[], []⟩
  | n + 1 => match l[n]? with
    | some e => (grpTo l n).next n e
    | none => grpTo l n
def grpBad (l : List Ev) (i : Nat) : Int := match l[i]? with | some e => (grpTo l i).bad e | none => 0
/-- Events' transactions; or which event is wrong, and how. -/
def groupR (l : List Ev) : List Tx × Int × Int := match firstN l.length (grpBad l) with
  | some i => ([], i, grpBad l i)
  | none => ((grpTo l l.length).out, 0, 0)
theorem grpTo_step {l : List Ev} {i : Nat} (hi : i < l.length) : grpTo l (i + 1) = (grpTo l i).next i l[i] := by
  rw [grpTo, List.getElem?_eq_getElem hi]
theorem grpBad_at {l : List Ev} {i : Nat} (hi : i < l.length) : grpBad l i = (grpTo l i).bad l[i] := by
  unfold grpBad; rw [List.getElem?_eq_getElem hi]
theorem groupR_bad {l : List Ev} {i : Nat} (hi : i < l.length) (hj : ∀ j, j < i → grpBad l j = 0) (hb : grpBad l i ≠ 0) : groupR l = ([], (i : Int), grpBad l i) := by
  unfold groupR; rw [firstN_some hi hj hb]
theorem groupR_good {l : List Ev} (hj : ∀ j, j < l.length → grpBad l j = 0) : groupR l = ((grpTo l l.length).out, 0, 0) := by
  unfold groupR; rw [firstN_none hj]

theorem Grp.next_len (g : Grp) (i : Nat) (e : Ev) (h : g.out.length = g.opn.length) : (g.next i e).out.length = (g.next i e).opn.length := by
  unfold Grp.next
  split
  · simp [h]
  · split
    · exact h
    · split
      · simp [h]
      · simp [h]
theorem grpTo_len (l : List Ev) : ∀ n, (grpTo l n).out.length = (grpTo l n).opn.length
  | 0 => rfl
  | n + 1 => by
    rw [grpTo]
    split
    · exact Grp.next_len _ _ _ (grpTo_len l n)
    · exact grpTo_len l n
theorem Grp.at_lt {g : Grp} {s : Int} {k : Nat} (h : g.at_ s = some k) : k < g.out.length ∧ k < g.opn.length ∧ g.opn[k]? = some true ∧ lastIx g.out s = some k := by
  unfold Grp.at_ at h
  cases hl : lastIx g.out s with
  | none => rw [hl] at h; cases h
  | some j =>
    rw [hl] at h
    dsimp only at h
    split at h
    · rename_i ho
      injection h with h
      subst h
      obtain ⟨hk, _⟩ := lastIx_lt hl
      refine ⟨hk, ?_, ho, rfl⟩
      rcases Nat.lt_or_ge j g.opn.length with g1 | g1
      · exact g1
      · rw [List.getElem?_eq_none g1] at ho; cases ho
    · cases h
theorem Grp.at_begin {g : Grp} {e : Ev} {i : Nat} (h : g.out.length = g.opn.length) (hk : e.kind = 0) (s : Int) : (g.next i e).at_ s = if s = e.sess then some g.out.length else g.at_ s := by
  unfold Grp.next
  rw [if_pos hk]
  unfold Grp.at_
  dsimp only
  rw [lastIx_snoc]
  dsimp only
  by_cases hs : s = e.sess
  · rw [if_pos hs.symm, if_pos hs]
    dsimp only
    rw [h, List.getElem?_append_right (Nat.le_refl _)]
    simp
  · rw [if_neg (fun x => hs x.symm), if_neg hs]
    cases hl : lastIx g.out s with
    | none => rfl
    | some k =>
      obtain ⟨hk2, _⟩ := lastIx_lt hl
      dsimp only
      rw [List.getElem?_append_left (by omega)]
theorem Grp.at_op {g : Grp} {e : Ev} {i k : Nat} (hk : e.kind = 1 ∨ e.kind = 2) (ha : g.at_ e.sess = some k) (s : Int) : (g.next i e).at_ s = g.at_ s := by
  unfold Grp.next
  rw [if_neg (by omega), ha]
  dsimp only
  rw [if_pos hk]
  unfold Grp.at_
  dsimp only
  rw [lastIx_set fun u hu => by rw [hu]; rfl]
theorem Grp.at_shut {g : Grp} {e : Ev} {i k : Nat} (h0 : e.kind ≠ 0) (h12 : ¬ (e.kind = 1 ∨ e.kind = 2)) (ha : g.at_ e.sess = some k) (s : Int) : (g.next i e).at_ s = if s = e.sess then none else g.at_ s := by
  obtain ⟨h1, h2, h3, h4⟩ := Grp.at_lt ha
  unfold Grp.next
  rw [if_neg h0, ha]
  dsimp only
  rw [if_neg h12]
  unfold Grp.at_
  dsimp only
  rw [lastIx_set fun u hu => by rw [hu]; rfl]
  by_cases hs : s = e.sess
  · subst hs
    rw [if_pos rfl, h4]
    dsimp only
    rw [List.getElem?_set_self (by omega), if_neg (by simp)]
  · rw [if_neg hs]
    cases hl : lastIx g.out s with
    | none => rfl
    | some j =>
      obtain ⟨hj, hjs⟩ := lastIx_lt hl
      obtain ⟨hk2, hks⟩ := lastIx_lt h4
      have : k ≠ j := by
        intro e2
        subst e2
        exact hs (hjs.symm.trans hks)
      dsimp only
      rw [List.getElem?_set_ne this]

def txEvents (t : Tx) : List Ev := ⟨0, t.sess, 0, 0⟩ :: t.ops ++ [⟨if t.done = true then 3 else 4, t.sess, 0, 0⟩]
/-- Transactions as events. -/
def eventsR (l : List Tx) : List Ev := (l.map txEvents).flatten
theorem eventsR_snoc (l : List Tx) (t : Tx) : eventsR (l ++ [t]) = eventsR l ++ txEvents t := by
  unfold eventsR; simp
end Go.Inq

namespace Go.Inq
open Go

/-- Bytes as a string. -/
def mk (l : List UInt8) : ByteArray := ⟨l.toArray⟩
theorem mk_bytes (l : List UInt8) : (mk l).data.toList = l := rfl
theorem mk_of (s : ByteArray) : mk s.data.toList = s := rfl
theorem bytes_inj {a b : ByteArray} (h : a.data.toList = b.data.toList) : a = b := by rw [← mk_of a, ← mk_of b, h]
theorem mk_size (l : List UInt8) : (mk l).size = l.length := Lib.size_eq (mk l)
theorem mk_extract (s : ByteArray) (a b : Nat) : s.extract a b = mk ((s.data.toList.drop a).take (b - a)) := bytes_inj (by rw [Lib.extract_data]; rfl)
theorem data_append' (a b : ByteArray) : (a ++ b).data.toList = a.data.toList ++ b.data.toList := by
  rw [ByteArray.data_append, Array.toList_append]
theorem mk_append (a b : List UInt8) : mk (a ++ b) = mk a ++ mk b := bytes_inj (by rw [data_append']; rfl)
theorem map_mk_bytes (l : List ByteArray) : (l.map (·.data.toList)).map mk = l := by
  rw [List.map_map]
  exact (List.map_congr_left (fun x _ => mk_of x)).trans (List.map_id l)

/-- One byte more: what is done, and what is under way. -/
def segStep (c : UInt8) (p : List (List UInt8) × List UInt8) (b : UInt8) : List (List UInt8) × List UInt8 := if b = c then (p.1 ++ [p.2], []) else (p.1, p.2 ++ [b])
theorem seg_hit (c : UInt8) (d : List (List UInt8)) (x : List UInt8) : segStep c (d, x) c = (d ++ [x], []) := by unfold segStep; rw [if_pos rfl]
theorem seg_miss {c b : UInt8} (h : b ≠ c) (d : List (List UInt8)) (x : List UInt8) : segStep c (d, x) b = (d, x ++ [b]) := by unfold segStep; rw [if_neg h]
/-- What ends with c, and what is left. -/
def segs (c : UInt8) (l : List UInt8) : List (List UInt8) × List UInt8 := l.foldl (segStep c) ([], [])
/-- What lies between the c's. -/
def cuts (c : UInt8) (l : List UInt8) : List (List UInt8) := (segs c l).1 ++ [(segs c l).2]

theorem segs_nil (c : UInt8) : segs c [] = ([], []) := rfl
theorem segs_snoc (c : UInt8) (l : List UInt8) (b : UInt8) : segs c (l ++ [b]) = segStep c (segs c l) b := by unfold segs; rw [List.foldl_append]; rfl
theorem segs_take {c : UInt8} {l : List UInt8} {i : Nat} (hi : i < l.length) : segs c (l.take (i + 1)) = segStep c (segs c (l.take i)) l[i] := by
  rw [List.take_succ_eq_append_getElem hi, segs_snoc]
theorem fold_from (c : UInt8) : ∀ (l : List UInt8) (d : List (List UInt8)) (x : List UInt8), l.foldl (segStep c) (d, x) = (d ++ (l.foldl (segStep c) ([], x)).1, (l.foldl (segStep c) ([], x)).2)
  | [], d, x => by simp
  | b :: r, d, x => by
    rw [List.foldl_cons, List.foldl_cons]
    by_cases h : b = c
    · subst h
      rw [seg_hit, seg_hit, fold_from b r (d ++ [x]) [], fold_from b r ([] ++ [x]) []]
      simp
    · rw [seg_miss h, seg_miss h, fold_from c r d (x ++ [b])]
theorem fold_len (c : UInt8) : ∀ (l : List UInt8) (d : List (List UInt8)) (x : List UInt8), (l.foldl (segStep c) (d, x)).1.length ≤ d.length + l.length
  | [], d, x => by simp
  | b :: r, d, x => by
    rw [List.foldl_cons]
    by_cases h : b = c
    · subst h
      rw [seg_hit]
      have := fold_len b r (d ++ [x]) []
      simp at this ⊢
      omega
    · rw [seg_miss h]
      have := fold_len c r d (x ++ [b])
      simp
      omega
theorem segs_len (c : UInt8) (l : List UInt8) : (segs c l).1.length ≤ l.length := by
  have := fold_len c l [] []
  unfold segs
  simpa using this
theorem drop_take_succ {l : List UInt8} {f i : Nat} (hf : f ≤ i) (hi : i < l.length) : (l.drop f).take (i + 1 - f) = (l.drop f).take (i - f) ++ [l[i]] := by
  rw [show i + 1 - f = (i - f) + 1 by omega, List.take_succ_eq_append_getElem (by simp; omega)]
  congr 2
  rw [List.getElem_drop]
  congr 1
  omega
theorem fold_miss (c : UInt8) : ∀ (l : List UInt8) (x : List UInt8), (∀ b ∈ l, b ≠ c) → l.foldl (segStep c) ([], x) = ([], x ++ l)
  | [], x, _ => by simp
  | b :: r, x, h => by
    rw [List.foldl_cons, seg_miss (h b (by simp)), fold_miss c r (x ++ [b]) (fun y hy => h y (by simp [hy]))]
    simp
theorem segs_miss {c : UInt8} {l : List UInt8} (h : ∀ b ∈ l, b ≠ c) : segs c l = ([], l) := by
  unfold segs
  rw [fold_miss c l [] h]
  simp
theorem segs_append (c : UInt8) (a b : List UInt8) : segs c (a ++ b) = ((segs c a).1 ++ (b.foldl (segStep c) ([], (segs c a).2)).1, (b.foldl (segStep c) ([], (segs c a).2)).2) := by
  have h := fold_from c b (segs c a).1 (segs c a).2
  have e : segs c (a ++ b) = b.foldl (segStep c) (segs c a) := by unfold segs; rw [List.foldl_append]
  rw [e]
  exact h
theorem segs_hit {c : UInt8} {a r : List UInt8} (h : ∀ b ∈ a, b ≠ c) : segs c (a ++ c :: r) = (a :: (segs c r).1, (segs c r).2) := by
  rw [segs_append, segs_miss h]
  dsimp only
  rw [List.nil_append, List.foldl_cons]
  have e : segStep c ([], a) c = ([a], []) := by unfold segStep; rw [if_pos rfl]; rfl
  rw [e, fold_from]
  rfl
theorem segs_closed {c : UInt8} {a b : List UInt8} (h : (segs c a).2 = []) : segs c (a ++ b) = ((segs c a).1 ++ (segs c b).1, (segs c b).2) := by
  rw [segs_append, h]
  rfl
theorem segs_end (c : UInt8) (l : List UInt8) : (segs c (l ++ [c])).2 = [] := by rw [segs_snoc]; unfold segStep; rw [if_pos rfl]
theorem segs_last {c : UInt8} {l : List UInt8} (h : l.getLast? = some c) : (segs c l).2 = [] := by
  rw [List.getLast?_eq_some_iff] at h
  obtain ⟨r, rfl⟩ := h
  exact segs_end c r
/-- What is cut is whole. -/
theorem segs_whole (c : UInt8) (l : List UInt8) : ((segs c l).1.map (· ++ [c])).flatten ++ (segs c l).2 = l := by
  have key : ∀ (n : Nat), n ≤ l.length → ((segs c (l.take n)).1.map (· ++ [c])).flatten ++ (segs c (l.take n)).2 = l.take n := by
    intro n
    induction n with
    | zero => intro _; rfl
    | succ n ih =>
      intro hn
      rw [segs_take (by omega), List.take_succ_eq_append_getElem (by omega)]
      rw [show l.take n ++ [l[n]] = ((segs c (l.take n)).1.map (· ++ [c])).flatten ++ (segs c (l.take n)).2 ++ [l[n]] by rw [ih (by omega)]]
      unfold segStep
      split
      · rename_i h
        simp [h]
      · simp
  have := key l.length (Nat.le_refl _)
  rwa [List.take_length] at this
theorem mem_flatten_len {α : Type} {w : List α} : ∀ {l : List (List α)}, w ∈ l → w.length ≤ l.flatten.length
  | x :: r, h => by
    rw [List.flatten_cons, List.length_append]
    rcases List.mem_cons.1 h with h | h
    · subst h; omega
    · have := mem_flatten_len h; omega
theorem cuts_len {c : UInt8} {l w : List UInt8} (h : w ∈ cuts c l) : w.length ≤ l.length := by
  have e := congrArg List.length (segs_whole c l)
  rw [List.length_append] at e
  unfold cuts at h
  rcases List.mem_append.1 h with h | h
  · have := mem_flatten_len (List.mem_map.2 ⟨w, h, rfl⟩ : w ++ [c] ∈ (segs c l).1.map (· ++ [c]))
    rw [List.length_append] at this
    omega
  · rw [List.mem_singleton] at h; subst h; omega
theorem segs_free (c : UInt8) (l : List UInt8) : (∀ w ∈ (segs c l).1, ∀ b ∈ w, b ≠ c) ∧ ∀ b ∈ (segs c l).2, b ≠ c := by
  have key : ∀ (n : Nat), n ≤ l.length → (∀ w ∈ (segs c (l.take n)).1, ∀ b ∈ w, b ≠ c) ∧ ∀ b ∈ (segs c (l.take n)).2, b ≠ c := by
    intro n
    induction n with
    | zero => intro _; exact ⟨fun w h => by simp [segs_nil] at h, fun b h => by simp [segs_nil] at h⟩
    | succ n ih =>
      intro hn
      obtain ⟨h1, h2⟩ := ih (by omega)
      rw [segs_take (by omega)]
      unfold segStep
      split
      · refine ⟨fun w hw => ?_, fun b hb => by simp at hb⟩
        rcases List.mem_append.1 hw with h | h
        · exact h1 w h
        · rw [List.mem_singleton] at h; subst h; exact h2
      · rename_i hne
        refine ⟨h1, fun b hb => ?_⟩
        rcases List.mem_append.1 hb with h | h
        · exact h2 b h
        · rw [List.mem_singleton] at h; subst h; exact hne
  have := key l.length (Nat.le_refl _)
  rwa [List.take_length] at this
/-- What is joined is cut as it was. -/
theorem segs_join {c : UInt8} : ∀ {ls : List (List UInt8)}, (∀ w ∈ ls, ∀ b ∈ w, b ≠ c) → segs c ((ls.map (· ++ [c])).flatten) = (ls, [])
  | [], _ => rfl
  | w :: r, h => by
    rw [List.map_cons, List.flatten_cons, List.append_assoc, List.singleton_append, segs_hit (h w (by simp)), segs_join (ls := r) (fun x hx => h x (by simp [hx]))]

/-- The library's cut at one byte. -/
theorem index_miss {c : UInt8} : ∀ {l : List UInt8}, Lib.index l [c] = -1 → ∀ b ∈ l, b ≠ c := by
  intro l h b hb e
  subst e
  rw [Lib.index_one] at h
  induction l with
  | nil => simp at hb
  | cons x r ih =>
    unfold Lib.indexByte at h
    split at h
    · cases h
    · rename_i hx
      have hr : Lib.indexByte r b = -1 := by
        split at h
        · rename_i h2; exact beq_iff_eq.1 h2
        · have := Lib.indexByte_ge r b; omega
      rcases List.mem_cons.1 hb with h1 | h1
      · subst h1; simp at hx
      · exact ih h1 hr
theorem index_at {c : UInt8} : ∀ {l : List UInt8} {i : Nat}, Lib.index l [c] = i → ∃ r, l = l.take i ++ c :: r ∧ r = l.drop (i + 1) ∧ ∀ b ∈ l.take i, b ≠ c := by
  intro l i h
  rw [Lib.index_one] at h
  induction l generalizing i with
  | nil => simp [Lib.indexByte] at h
  | cons x r ih =>
    unfold Lib.indexByte at h
    split at h
    · rename_i hx
      have hi : i = 0 := by omega
      subst hi
      refine ⟨r, by rw [beq_iff_eq.1 hx]; rfl, rfl, fun b hb => by simp at hb⟩
    · rename_i hx
      split at h
      · omega
      · have hi : ∃ j, i = j + 1 := ⟨i - 1, by have := Lib.indexByte_ge r c; rename_i h2; have h3 : ¬ Lib.indexByte r c = -1 := fun e => h2 (beq_iff_eq.2 e); omega⟩
        obtain ⟨j, rfl⟩ := hi
        obtain ⟨t, h1, h2, h3⟩ := ih (i := j) (by omega)
        refine ⟨t, by rw [List.take_succ_cons, List.cons_append, ← h1], by rw [List.drop_succ_cons]; exact h2, fun b hb => ?_⟩
        rw [List.take_succ_cons] at hb
        rcases List.mem_cons.1 hb with h4 | h4
        · subst h4; exact fun e => hx (beq_iff_eq.2 e)
        · exact h3 b h4
theorem split_one (c : UInt8) : ∀ (n : Nat) (l : List UInt8), l.length ≤ n → Lib.split l [c] = cuts c l
  | n, l, hn => by
    unfold Lib.split cuts
    rcases Lib.index_spec l [c] with ⟨h, _⟩ | ⟨i, h, hil, _⟩
    · rw [Lib.count_miss h, segs_miss (index_miss h)]
      rfl
    · obtain ⟨r, h1, h2, h3⟩ := index_at h
      rw [Lib.count_hit (by simp) h, Nat.add_comm 1, Lib.splitK, if_neg (by rw [h]; simp), h]
      have hlen : l.length = (l.take i).length + (r.length + 1) := by
        have := congrArg List.length h1
        simpa using this
      simp only [Int.toNat_natCast, Nat.add_zero, List.length_cons, List.length_nil, Nat.zero_add]
      rw [← h2]
      cases n with
      | zero => omega
      | succ n =>
        have ih := split_one c n r (by omega)
        unfold Lib.split cuts at ih
        rw [ih]
        conv => rhs; rw [h1]
        rw [segs_hit h3]
        rfl

theorem count_one (c : UInt8) : ∀ (n : Nat) (l : List UInt8), l.length ≤ n → Lib.count l [c] = (segs c l).1.length
  | n, l, hn => by
    rcases Lib.index_spec l [c] with ⟨h, _⟩ | ⟨i, h, hil, _⟩
    · rw [Lib.count_miss h, segs_miss (index_miss h)]
      rfl
    · obtain ⟨r, h1, h2, h3⟩ := index_at h
      have hlen : l.length = (l.take i).length + (r.length + 1) := by
        have := congrArg List.length h1
        simpa using this
      rw [Lib.count_hit (by simp) h]
      simp only [List.length_cons, List.length_nil, Nat.zero_add]
      rw [← h2]
      cases n with
      | zero => omega
      | succ n =>
        have ih := count_one c n r (by omega)
        rw [ih]
        conv => rhs; rw [h1]
        rw [segs_hit h3]
        simp
        omega
/-- The library's cut of a string at one byte: what it makes, and how many. -/
theorem splitB_one (c : UInt8) (s : ByteArray) : Lib.countB s ⟨#[c]⟩ = (segs c s.data.toList).1.length ∧ Lib.splitB ⟨#[c]⟩ 0 (Lib.countB s ⟨#[c]⟩) s = (cuts c s.data.toList).map mk := by
  refine ⟨count_one c _ _ (Nat.le_refl _), ?_⟩
  rw [← map_mk_bytes (Lib.splitB ⟨#[c]⟩ 0 (Lib.countB s ⟨#[c]⟩) s), Lib.splitB_data]
  have := split_one c _ s.data.toList (Nat.le_refl _)
  unfold Lib.split at this
  exact congrArg (List.map mk) this

theorem has_one (c : UInt8) (l : List UInt8) : Lib.contains l [c] = decide (c ∈ l) := by
  unfold Lib.contains
  rcases Lib.index_spec l [c] with ⟨h, _⟩ | ⟨i, h, hil, _⟩
  · have : ¬ c ∈ l := fun e => index_miss h c e rfl
    rw [h]
    simp [this]
  · obtain ⟨r, h1, _⟩ := index_at h
    have : c ∈ l := by rw [h1]; simp
    rw [h]
    simp [this]
theorem ends_one (c : UInt8) (l : List UInt8) : Lib.hasSuffix l [c] = decide (l.getLast? = some c) := by
  unfold Lib.hasSuffix
  rw [Bool.eq_iff_iff, decide_eq_true_iff, List.isSuffixOf_iff_suffix, List.getLast?_eq_some_iff]
  constructor
  · rintro ⟨t, h⟩; exact ⟨t, h.symm⟩
  · rintro ⟨t, h⟩; exact ⟨t, h.symm⟩

/-- A text's lines, or what is wrong. -/
def splitR (l : List UInt8) : List (List UInt8) × Int :=
  if l ≠ [] ∧ l.getLast? ≠ some 10 then ([], 2) else if 400 < (segs 10 l).1.length then ([], 4) else ((segs 10 l).1, 0)
/-- A text of lines, or what is wrong. -/
def joinR (ls : List (List UInt8)) : List UInt8 × Int :=
  if 400 < ls.length then ([], 4) else if ∃ w ∈ ls, 10 ∈ w then ([], 1) else ((ls.map (· ++ [10])).flatten, 0)
def signB (b : UInt8) : Bool := 33 ≤ b && b ≤ 126
def wordB (w : List UInt8) : Bool := !w.isEmpty && w.all signB
/-- A line's words, or what is wrong. -/
def wordsR (l : List UInt8) : List (List UInt8) × Int :=
  if (cuts 32 l).length ≤ 8 ∧ (cuts 32 l).all wordB = true then (cuts 32 l, 0) else ([], 2)

theorem splitR_len (l : List UInt8) : (splitR l).1.length ≤ 400 := by
  unfold splitR
  split
  · simp
  · split
    · simp
    · rename_i h; simpa using h
theorem wordsR_len (l : List UInt8) : (wordsR l).1.length ≤ 8 := by
  unfold wordsR
  split
  · rename_i h; exact h.1
  · simp
theorem split_join {ls : List (List UInt8)} (h : (joinR ls).2 = 0) : splitR (joinR ls).1 = (ls, 0) := by
  unfold joinR at h ⊢
  by_cases h1 : 400 < ls.length
  · rw [if_pos h1] at h; cases h
  · rw [if_neg h1] at h ⊢
    by_cases h2 : ∃ w ∈ ls, 10 ∈ w
    · rw [if_pos h2] at h; cases h
    · rw [if_neg h2]
      have hs := segs_join (c := 10) (ls := ls) (fun w hw b hb e => h2 ⟨w, hw, e ▸ hb⟩)
      have hl : ¬ ((ls.map (· ++ [(10 : UInt8)])).flatten ≠ [] ∧ (ls.map (· ++ [(10 : UInt8)])).flatten.getLast? ≠ some 10) := by
        rintro ⟨g1, g2⟩
        rcases List.eq_nil_or_concat ls with h3 | ⟨r, w, h3⟩
        · subst h3; exact g1 rfl
        · subst h3
          apply g2
          rw [List.concat_eq_append, List.map_append, List.flatten_append, List.getLast?_eq_some_iff]
          exact ⟨(r.map (· ++ [(10 : UInt8)])).flatten ++ w, by simp⟩
      dsimp only
      unfold splitR
      rw [if_neg hl, hs, if_neg h1]
theorem join_split {l : List UInt8} (h : (splitR l).2 = 0) : joinR (splitR l).1 = (l, 0) := by
  unfold splitR at h ⊢
  by_cases h1 : l ≠ [] ∧ l.getLast? ≠ some 10
  · rw [if_pos h1] at h; cases h
  · rw [if_neg h1] at h ⊢
    by_cases h2 : 400 < (segs 10 l).1.length
    · rw [if_pos h2] at h; cases h
    · rw [if_neg h2]
      have hw := segs_whole 10 l
      have hf := (segs_free 10 l).1
      have hn : (segs 10 l).2 = [] := by
        by_cases h3 : l = []
        · subst h3; rfl
        · exact segs_last (by
            rcases Decidable.em (l.getLast? = some 10) with h4 | h4
            · exact h4
            · exact absurd ⟨h3, h4⟩ h1)
      rw [hn, List.append_nil] at hw
      dsimp only
      unfold joinR
      rw [if_neg h2, if_neg (by rintro ⟨w, h4, h5⟩; exact hf w h4 10 h5 rfl), hw]
/-- Two texts of lines, one behind the other. -/
theorem split_both {a b : List UInt8} (ha : (splitR a).2 = 0) (hb : (splitR b).2 = 0) :
    splitR (a ++ b) = if 400 < (splitR a).1.length + (splitR b).1.length then ([], 4) else ((splitR a).1 ++ (splitR b).1, 0) := by
  have key : ∀ l : List UInt8, (splitR l).2 = 0 → ¬ (l ≠ [] ∧ l.getLast? ≠ some 10) ∧ (segs 10 l).2 = [] ∧ (splitR l).1 = (segs 10 l).1 := by
    intro l h
    unfold splitR at h ⊢
    by_cases h1 : l ≠ [] ∧ l.getLast? ≠ some 10
    · rw [if_pos h1] at h; cases h
    · rw [if_neg h1] at h ⊢
      by_cases h2 : 400 < (segs 10 l).1.length
      · rw [if_pos h2] at h; cases h
      · rw [if_neg h2]
        refine ⟨h1, ?_, rfl⟩
        by_cases h3 : l = []
        · subst h3; rfl
        · exact segs_last (by
            rcases Decidable.em (l.getLast? = some 10) with h4 | h4
            · exact h4
            · exact absurd ⟨h3, h4⟩ h1)
  obtain ⟨a1, a2, a3⟩ := key a ha
  obtain ⟨b1, b2, b3⟩ := key b hb
  have hab : ¬ (a ++ b ≠ [] ∧ (a ++ b).getLast? ≠ some 10) := by
    rintro ⟨g1, g2⟩
    by_cases h3 : b = []
    · subst h3
      rw [List.append_nil] at g1 g2
      exact a1 ⟨g1, g2⟩
    · rw [List.getLast?_append] at g2
      cases hb : b.getLast? with
      | none => exact h3 (by simpa using hb)
      | some x => rw [hb] at g2; exact b1 ⟨h3, by rw [hb]; exact g2⟩
  unfold splitR at a3 b3 ⊢
  rw [a3, b3, if_neg hab, segs_closed a2, List.length_append]

theorem cuts_whole (c : UInt8) (l : List UInt8) : ((segs c l).1.map (· ++ [c])).flatten ++ (segs c l).2 = l := segs_whole c l

section
variable {l : List UInt8}
theorem words_bad {w : List UInt8} (h : w ∈ cuts 32 l) (hb : wordB w = false) : wordsR l = ([], 2) := by
  unfold wordsR
  rw [if_neg]
  rintro ⟨_, h2⟩
  rw [List.all_eq_true] at h2
  rw [h2 w h] at hb
  cases hb
/-- What is done stays; what is under way begins a word. -/
theorem fold_grow (c : UInt8) : ∀ (r : List UInt8) (x : List UInt8), ∃ t rest, (r.foldl (segStep c) ([], x)).1 ++ [(r.foldl (segStep c) ([], x)).2] = (x ++ t) :: rest
  | [], x => ⟨[], [], by simp⟩
  | b :: r, x => by
    rw [List.foldl_cons]
    by_cases h : b = c
    · subst h
      rw [seg_hit, List.nil_append, fold_from b r [x] []]
      exact ⟨[], _, by rw [List.append_nil]; rfl⟩
    · rw [seg_miss h]
      obtain ⟨t, rest, h2⟩ := fold_grow c r (x ++ [b])
      exact ⟨b :: t, rest, by rw [h2]; simp⟩
theorem cuts_from {i : Nat} (hi : i ≤ l.length) : ∃ t rest, cuts 32 l = (segs 32 (l.take i)).1 ++ ((segs 32 (l.take i)).2 ++ t) :: rest := by
  have e : l = l.take i ++ l.drop i := (List.take_append_drop i l).symm
  obtain ⟨t, rest, h⟩ := fold_grow 32 (l.drop i) (segs 32 (l.take i)).2
  refine ⟨t, rest, ?_⟩
  unfold cuts
  rw [← h]
  conv => lhs; rw [e]
  rw [segs_append]
  simp
theorem bad_done {i : Nat} (hi : i ≤ l.length) {w : List UInt8} (h : w ∈ (segs 32 (l.take i)).1) (hb : wordB w = false) : wordsR l = ([], 2) := by
  obtain ⟨t, rest, e⟩ := cuts_from (l := l) hi
  exact words_bad (w := w) (by rw [e]; exact List.mem_append.2 (.inl h)) hb
theorem bad_now {i : Nat} (hi : i ≤ l.length) {b : UInt8} (h : b ∈ (segs 32 (l.take i)).2) (hb : signB b = false) : wordsR l = ([], 2) := by
  obtain ⟨t, rest, e⟩ := cuts_from (l := l) hi
  refine words_bad (w := (segs 32 (l.take i)).2 ++ t) (by rw [e]; simp) ?_
  unfold wordB
  have : ((segs 32 (l.take i)).2 ++ t).all signB = false := by
    rw [List.all_eq_false]
    exact ⟨b, by simp [h], by simp [hb]⟩
  rw [this, Bool.and_false]

theorem segs_to {D : List (List UInt8)} {a t : Nat} (h : segs 32 (l.take a) = (D, [])) (ha : a ≤ t) (ht : t ≤ l.length) (hs : ∀ k (hk : k < l.length), a ≤ k → k < t → l[k] ≠ 32) : segs 32 (l.take t) = (D, (l.drop a).take (t - a)) := by
  have e : l.take t = l.take a ++ (l.drop a).take (t - a) := by
    conv => lhs; rw [show t = a + (t - a) by omega, List.take_add]
  rw [e, segs_closed (by rw [h]), h, segs_miss]
  · simp
  · intro b hb
    obtain ⟨k, hk, rfl⟩ := List.getElem_of_mem hb
    rw [List.getElem_take, List.getElem_drop]
    rw [List.length_take, List.length_drop] at hk
    exact hs _ (by omega) (by omega) (by omega)
theorem sign_ne {b : UInt8} (h : signB b = true) : b ≠ 32 := by
  intro e; subst e; revert h; decide
/-- A word of signs. -/
theorem word_of {a t : Nat} (ha : a < t) (ht : t ≤ l.length) (hs : ∀ k (hk : k < l.length), a ≤ k → k < t → signB l[k] = true) : wordB ((l.drop a).take (t - a)) = true := by
  unfold wordB
  rw [Bool.and_eq_true]
  constructor
  · cases hq : (l.drop a).take (t - a) with
    | nil => have := congrArg List.length hq; simp at this; omega
    | cons => rfl
  · rw [List.all_eq_true]
    intro b hb
    obtain ⟨k, hk, rfl⟩ := List.getElem_of_mem hb
    rw [List.getElem_take, List.getElem_drop]
    rw [List.length_take, List.length_drop] at hk
    exact hs _ (by omega) (by omega) (by omega)
/-- The ways of a walk over words. -/
theorem words_here {D : List (List UInt8)} {a : Nat} (h : segs 32 (l.take a) = (D, [])) (ha : a ≤ l.length) (hb : a = l.length ∨ ∃ hk : a < l.length, signB l[a] = false) : wordsR l = ([], 2) := by
  rcases hb with rfl | ⟨hk, hb⟩
  · rw [List.take_length] at h
    refine words_bad (w := []) ?_ rfl
    unfold cuts
    rw [h]
    simp
  · have e := segs_take (c := 32) hk
    rw [h] at e
    by_cases h32 : l[a] = 32
    · rw [h32, seg_hit] at e
      exact bad_done (i := a + 1) (by omega) (w := []) (by rw [e]; simp) rfl
    · rw [seg_miss h32] at e
      exact bad_now (i := a + 1) (by omega) (b := l[a]) (by rw [e]; simp) hb
theorem words_not {D : List (List UInt8)} {a t : Nat} (h : segs 32 (l.take a) = (D, [])) (ha : a ≤ t) (hs : ∀ k (hk : k < l.length), a ≤ k → k < t → signB l[k] = true) (hk : t < l.length) (hb : signB l[t] = false) (h32 : l[t] ≠ 32) : wordsR l = ([], 2) := by
  have e := segs_to h ha (by omega) (fun k hk h1 h2 => sign_ne (hs k hk h1 h2))
  have e2 := segs_take (c := 32) hk
  rw [e, seg_miss h32] at e2
  exact bad_now (i := t + 1) (by omega) (b := l[t]) (by rw [e2]; simp) hb
theorem words_next {D : List (List UInt8)} {a t : Nat} (h : segs 32 (l.take a) = (D, [])) (ha : a ≤ t) (hs : ∀ k (hk : k < l.length), a ≤ k → k < t → signB l[k] = true) (hk : t < l.length) (h32 : l[t] = 32) : segs 32 (l.take (t + 1)) = (D ++ [(l.drop a).take (t - a)], []) := by
  have e := segs_to h ha (by omega) (fun k hk h1 h2 => sign_ne (hs k hk h1 h2))
  rw [segs_take hk, e, h32, seg_hit]
theorem words_end {D : List (List UInt8)} {a : Nat} (h : segs 32 (l.take a) = (D, [])) (ha : a < l.length) (hs : ∀ k (hk : k < l.length), a ≤ k → signB l[k] = true) (hD : ∀ w ∈ D, wordB w = true) :
    wordsR l = if 8 < D.length + 1 then ([], 2) else (D ++ [(l.drop a).take (l.length - a)], 0) := by
  have e := segs_to h (Nat.le_of_lt ha) (Nat.le_refl _) (fun k hk h1 _ => sign_ne (hs k hk h1))
  rw [List.take_length] at e
  have hc : cuts 32 l = D ++ [(l.drop a).take (l.length - a)] := by unfold cuts; rw [e]
  have hg : (cuts 32 l).all wordB = true := by
    rw [hc, List.all_eq_true]
    intro w hw
    rcases List.mem_append.1 hw with h1 | h1
    · exact hD w h1
    · rw [List.mem_singleton] at h1; subst h1
      exact word_of ha (Nat.le_refl _) (fun k hk h1 _ => hs k hk h1)
  unfold wordsR
  rw [hc] at hg ⊢
  rw [List.length_append, List.length_singleton]
  split
  · rename_i h8; rw [if_neg (by omega)]
  · rename_i h8; rw [if_pos]
    have : ¬ D.length + 1 ≤ 8 := fun h => h8 ⟨h, hg⟩
    omega
end
end Go.Inq

namespace Go.Inq
open Go

def digitB (b : UInt8) : Bool := 48 ≤ b && b ≤ 57
theorem digit_iff (b : UInt8) : digitB b = true ↔ 48 ≤ b.toNat ∧ b.toNat ≤ 57 := by
  unfold digitB
  simp [UInt8.le_iff_toNat_le]
/-- A digit's byte. -/
def dig (d : Nat) : UInt8 := UInt8.ofNat (48 + d)
theorem dig_toNat {d : Nat} (h : d < 10) : (dig d).toNat = 48 + d := by
  unfold dig
  rw [UInt8.toNat_ofNat']
  omega
theorem dig_digit {d : Nat} (h : d < 10) : digitB (dig d) = true := by
  rw [digit_iff, dig_toNat h]; omega
theorem dig_of {b : UInt8} (h : digitB b = true) : dig (b.toNat - 48) = b := by
  rw [digit_iff] at h
  apply UInt8.toNat_inj.1
  rw [dig_toNat (by omega)]
  omega
def valN (ds : List UInt8) : Nat := ds.foldl (fun n b => 10 * n + (b.toNat - 48)) 0
theorem valN_snoc (ds : List UInt8) (b : UInt8) : valN (ds ++ [b]) = 10 * valN ds + (b.toNat - 48) := by
  unfold valN; rw [List.foldl_append]; rfl
theorem valN_take {ds : List UInt8} {i : Nat} (hi : i < ds.length) : valN (ds.take (i + 1)) = 10 * valN (ds.take i) + (ds[i].toNat - 48) := by
  rw [List.take_succ_eq_append_getElem hi, valN_snoc]
theorem valN_grow (ds : List UInt8) : ∀ (k i : Nat), i + k ≤ ds.length → valN (ds.take i) ≤ valN (ds.take (i + k))
  | 0, i, _ => Nat.le_refl _
  | k + 1, i, h => by
    have h1 := valN_grow ds k i (by omega)
    rw [← Nat.add_assoc, valN_take (by omega)]
    omega
theorem valN_le {ds : List UInt8} {i j : Nat} (h : i ≤ j) (hj : j ≤ ds.length) : valN (ds.take i) ≤ valN (ds.take j) := by
  have := valN_grow ds (j - i) i (by omega)
  rwa [show i + (j - i) = j by omega] at this

/-- A number in digits ('f': at least one more than the number). -/
def digF : Nat → Nat → List UInt8
  | 0, _ => []
  | f + 1, n => if n < 10 then [dig n] else digF f (n / 10) ++ [dig (n % 10)]
def numR (n : Nat) : List UInt8 := digF (n + 1) n
theorem digF_any : ∀ (f f' n : Nat), n < f → n < f' → digF f n = digF f' n
  | f + 1, f' + 1, n, h, h' => by
    unfold digF
    split
    · rfl
    · rw [digF_any f f' (n / 10) (by omega) (by omega)]
  | 0, _, _, h, _ => absurd h (by omega)
  | _ + 1, 0, _, _, h => absurd h (by omega)
theorem numR_low {n : Nat} (h : n < 10) : numR n = [dig n] := by
  unfold numR digF; rw [if_pos h]
theorem numR_high {n : Nat} (h : ¬ n < 10) : numR n = numR (n / 10) ++ [dig (n % 10)] := by
  unfold numR
  rw [digF, if_neg h, digF_any n (n / 10 + 1) (n / 10) (by omega) (by omega)]
theorem numR_ind {P : Nat → Prop} (h1 : ∀ n, n < 10 → P n) (h2 : ∀ n, ¬ n < 10 → P (n / 10) → P n) (n : Nat) : P n := by
  induction n using Nat.strongRecOn with
  | _ n ih =>
    by_cases h : n < 10
    · exact h1 n h
    · exact h2 n h (ih _ (by omega))
theorem numR_val (n : Nat) : valN (numR n) = n := by
  refine numR_ind (P := fun n => valN (numR n) = n) (fun n h => ?_) (fun n h ih => ?_) n
  · rw [numR_low h]; unfold valN; simp [dig_toNat h]
  · rw [numR_high h, valN_snoc, ih, dig_toNat (by omega)]; omega
theorem numR_digits (n : Nat) : ∀ b ∈ numR n, digitB b = true := by
  refine numR_ind (P := fun n => ∀ b ∈ numR n, digitB b = true) (fun n h b hb => ?_) (fun n h ih b hb => ?_) n
  · rw [numR_low h, List.mem_singleton] at hb; subst hb; exact dig_digit h
  · rw [numR_high h] at hb
    rcases List.mem_append.1 hb with h1 | h1
    · exact ih b h1
    · rw [List.mem_singleton] at h1; subst h1; exact dig_digit (by omega)
theorem numR_len : ∀ (k n : Nat), n < 10 ^ (k + 1) → (numR n).length ≤ k + 1
  | 0, n, h => by
    rw [numR_low (by omega)]
    exact Nat.le_refl _
  | k + 1, n, h => by
    by_cases h10 : n < 10
    · rw [numR_low h10]; simp
    · rw [numR_high h10, List.length_append, List.length_singleton]
      have := numR_len k (n / 10) (by rw [Nat.pow_succ] at h; omega)
      omega
theorem numR_ten {n : Nat} (h : n ≤ 2147483647) : (numR n).length ≤ 10 := numR_len 9 n (by omega)
theorem numR_ne (n : Nat) : numR n ≠ [] := by
  by_cases h : n < 10
  · rw [numR_low h]; simp
  · rw [numR_high h]; simp
/-- No digits ahead but where it is 0 alone. -/
def plainD (ds : List UInt8) : Bool := !ds.isEmpty && (decide (ds.length ≤ 1) || decide (ds.head? ≠ some 48))
theorem numR_head (n : Nat) : 0 < n → (numR n).head? ≠ some 48 := by
  refine numR_ind (P := fun n => 0 < n → (numR n).head? ≠ some 48) (fun n h hn => ?_) (fun n h ih hn => ?_) n
  · rw [numR_low h]
    intro e
    injection e with e
    have := congrArg UInt8.toNat e
    rw [dig_toNat h] at this
    have h48 : (48 : UInt8).toNat = 48 := rfl
    omega
  · rw [numR_high h, List.head?_append]
    have h1 := ih (by omega)
    cases hh : (numR (n / 10)).head? with
    | none => exact absurd (List.head?_eq_none_iff.1 hh) (numR_ne _)
    | some x => rw [hh] at h1; exact h1
theorem numR_plain (n : Nat) : plainD (numR n) = true := by
  unfold plainD
  rw [Bool.and_eq_true]
  refine ⟨by simpa using numR_ne n, ?_⟩
  rw [Bool.or_eq_true, decide_eq_true_iff, decide_eq_true_iff]
  by_cases h : n < 10
  · left; rw [numR_low h]; simp
  · right; exact numR_head n (by omega)
theorem numR_of : ∀ (k : Nat) (ds : List UInt8), ds.length = k → (∀ b ∈ ds, digitB b = true) → plainD ds = true → numR (valN ds) = ds
  | 0, ds, hk, _, hp => by
    rw [List.eq_nil_of_length_eq_zero hk] at hp
    cases hp
  | k + 1, ds, hk, hd, hp => by
    rcases List.eq_nil_or_concat ds with h | ⟨r, b, h⟩
    · rw [h] at hk; cases hk
    · rw [List.concat_eq_append] at h
      subst h
      have hr : ∀ x ∈ r, digitB x = true := fun x hx => hd x (by simp [hx])
      have hb : digitB b = true := hd b (by simp)
      have hb2 := (digit_iff b).1 hb
      rw [valN_snoc]
      by_cases h0 : r = []
      · subst h0
        have e : 10 * valN [] + (b.toNat - 48) = b.toNat - 48 := by unfold valN; simp
        rw [e, numR_low (show b.toNat - 48 < 10 by omega), dig_of hb]
        rfl
      · have hrl : 0 < r.length := List.length_pos_iff.2 h0
        have hh : (r ++ [b]).head? = r.head? := by
          cases r with
          | nil => exact absurd rfl h0
          | cons => rfl
        have hh48 : r.head? ≠ some 48 := by
          unfold plainD at hp
          rw [Bool.and_eq_true, Bool.or_eq_true, decide_eq_true_iff, decide_eq_true_iff, hh] at hp
          rcases hp.2 with h1 | h1
          · exact absurd h1 (by rw [List.length_append, List.length_singleton]; omega)
          · exact h1
        have hrp : plainD r = true := by
          unfold plainD
          rw [Bool.and_eq_true, Bool.or_eq_true, decide_eq_true_iff, decide_eq_true_iff]
          exact ⟨by simpa using h0, .inr hh48⟩
        have ih := numR_of k r (by simpa using hk) hr hrp
        have hv : 1 ≤ valN r := by
          rcases Nat.eq_zero_or_pos (valN r) with h1 | h1
          · rw [h1] at ih
            rw [← ih, numR_low (show 0 < 10 by decide)] at hh48
            exact absurd rfl hh48
          · exact h1
        rw [numR_high (show ¬ 10 * valN r + (b.toNat - 48) < 10 by omega), show (10 * valN r + (b.toNat - 48)) / 10 = valN r by omega, ih, show (10 * valN r + (b.toNat - 48)) % 10 = b.toNat - 48 by omega, dig_of hb]

/-- The number at a place of a text: the number, the place behind it, what is wrong. -/
def takeD (ds : List UInt8) (at_ : Nat) : Int × Int × Int :=
  if plainD ds = false then (0, 0, 2) else if 2147483647 < valN ds then (0, 0, 3) else (valN ds, at_ + ds.length, 0)
def takeR (l : List UInt8) (at_ : Nat) : Int × Int × Int := takeD ((l.drop at_).takeWhile digitB) at_
/-- A number in digits, or what is wrong. -/
def showN (n : Int) : List UInt8 × Int := if 0 ≤ n ∧ n ≤ 2147483647 then (numR n.toNat, 0) else ([], 1)
/-- The number that a whole text is. -/
def wholeR (l : List UInt8) : Int × Int :=
  if (takeR l 0).2.2 ≠ 0 then (0, (takeR l 0).2.2) else if (takeR l 0).2.1 < l.length then (0, 2) else ((takeR l 0).1, 0)

theorem takeWhile_all {p : UInt8 → Bool} : ∀ {l : List UInt8}, (∀ b ∈ l, p b = true) → l.takeWhile p = l
  | [], _ => rfl
  | x :: r, h => by rw [List.takeWhile_cons, if_pos (h x (by simp)), takeWhile_all (fun b hb => h b (by simp [hb]))]
theorem takeWhile_len (l : List UInt8) (p : UInt8 → Bool) : (l.takeWhile p).length ≤ l.length := by
  induction l with
  | nil => simp
  | cons x r ih =>
    rw [List.takeWhile_cons]
    split <;> simp <;> omega
theorem takeWhile_get {p : UInt8 → Bool} : ∀ (l : List UInt8) (i : Nat) (h : i < (l.takeWhile p).length), ∃ h2 : i < l.length, (l.takeWhile p)[i] = l[i] ∧ p l[i] = true
  | [], i, h => by simp at h
  | x :: r, i, h => by
    by_cases hx : p x = true
    · have e : (x :: r).takeWhile p = x :: r.takeWhile p := by rw [List.takeWhile_cons, if_pos hx]
      cases i with
      | zero => exact ⟨by simp, by simp only [e, List.getElem_cons_zero], hx⟩
      | succ i =>
        have h3 : i < (r.takeWhile p).length := by rw [e, List.length_cons] at h; omega
        obtain ⟨h4, h5, h6⟩ := takeWhile_get r i h3
        exact ⟨by rw [List.length_cons]; omega, by simp only [e, List.getElem_cons_succ]; exact h5, by simpa using h6⟩
    · rw [List.takeWhile_cons, if_neg hx] at h
      simp at h
theorem takeWhile_stop {p : UInt8 → Bool} : ∀ (l : List UInt8) (h : (l.takeWhile p).length < l.length), p l[(l.takeWhile p).length] = false
  | [], h => by simp at h
  | x :: r, h => by
    by_cases hx : p x = true
    · have e : (x :: r).takeWhile p = x :: r.takeWhile p := by rw [List.takeWhile_cons, if_pos hx]
      have h3 : (r.takeWhile p).length < r.length := by rw [e, List.length_cons, List.length_cons] at h; omega
      have := takeWhile_stop r h3
      simp only [e, List.length_cons, List.getElem_cons_succ]
      exact this
    · have e : (x :: r).takeWhile p = [] := by rw [List.takeWhile_cons, if_neg hx]
      simp only [e, List.length_nil, List.getElem_cons_zero]
      simpa using hx
/-- The digits at a place, and the numbers on the way. -/
def digsAt (s : ByteArray) (a : Nat) : List UInt8 := (s.data.toList.drop a).takeWhile digitB
def manyAt (s : ByteArray) (a : Nat) : Nat := (digsAt s a).length
def valAtN (s : ByteArray) (a k : Nat) : Nat := valN ((digsAt s a).take k)
theorem many_le {s : ByteArray} {a : Nat} (ha : a ≤ s.size) : a + manyAt s a ≤ s.size := by
  have h1 := takeWhile_len (s.data.toList.drop a) digitB
  rw [List.length_drop, ← Lib.size_eq] at h1
  unfold manyAt digsAt
  omega
theorem digs_get {s : ByteArray} {a i : Nat} (ha : a ≤ s.size) (h : i < manyAt s a) (h2 : a + i < s.size) : digitB s[a + i] = true ∧ (digsAt s a)[i]'h = s[a + i] := by
  obtain ⟨h3, h4, h5⟩ := takeWhile_get (s.data.toList.drop a) i h
  have e : (s.data.toList.drop a)[i] = s[a + i] := by
    rw [List.getElem_drop]
    rfl
  rw [e] at h4 h5
  exact ⟨h5, h4⟩
theorem digs_stop {s : ByteArray} {a : Nat} (h : a + manyAt s a < s.size) : digitB s[a + manyAt s a] = false := by
  have h1 : ((s.data.toList.drop a).takeWhile digitB).length < (s.data.toList.drop a).length := by
    rw [List.length_drop, ← Lib.size_eq]
    unfold manyAt digsAt at h
    omega
  have := takeWhile_stop (p := digitB) (s.data.toList.drop a) h1
  rw [List.getElem_drop] at this
  exact this
theorem valAt_step {s : ByteArray} {a i : Nat} (ha : a ≤ s.size) (h : i < manyAt s a) (h2 : a + i < s.size) : valAtN s a (i + 1) = 10 * valAtN s a i + (s[a + i].toNat - 48) ∧ 48 ≤ s[a + i].toNat ∧ s[a + i].toNat ≤ 57 := by
  obtain ⟨h3, h4⟩ := digs_get ha h h2
  refine ⟨?_, (digit_iff _).1 h3⟩
  unfold valAtN
  rw [valN_take h, h4]
theorem valAt_le {s : ByteArray} {a i : Nat} (h : i ≤ manyAt s a) : valAtN s a i ≤ valAtN s a (manyAt s a) := valN_le h (Nat.le_refl _)
theorem valAt_zero (s : ByteArray) (a : Nat) : valAtN s a 0 = 0 := rfl
theorem take_none {s : ByteArray} {a : Nat} (h : manyAt s a = 0) : takeR s.data.toList a = (0, 0, 2) := by
  show takeD (digsAt s a) a = _
  rw [List.eq_nil_of_length_eq_zero h]
  rfl
theorem take_head {s : ByteArray} {a : Nat} (ha : a ≤ s.size) (h : 1 < manyAt s a) (h2 : a < s.size) (h3 : s[a] = 48) : takeR s.data.toList a = (0, 0, 2) := by
  show takeD (digsAt s a) a = _
  have h4 := (digs_get (i := 0) ha (by omega) (by omega)).2
  simp only [Nat.add_zero, h3] at h4
  unfold takeD
  rw [if_pos]
  unfold plainD
  have h5 : (digsAt s a).head? = some 48 := by
    rw [List.head?_eq_getElem?, List.getElem?_eq_getElem (show 0 < (digsAt s a).length by unfold manyAt at h; omega)]
    exact congrArg some h4
  unfold manyAt at h
  rw [h5]
  simp
  intro
  omega
theorem take_else {s : ByteArray} {a : Nat} (ha : a ≤ s.size) (h : manyAt s a ≠ 0) (h2 : 1 < manyAt s a → ∀ h : a < s.size, s[a] ≠ 48) :
    takeR s.data.toList a = if 2147483647 < valAtN s a (manyAt s a) then (0, 0, 3) else ((valAtN s a (manyAt s a) : Int), ((a + manyAt s a : Nat) : Int), 0) := by
  have h3 := many_le ha
  have h4 := (digs_get (i := 0) ha (by omega) (by omega)).2
  simp only [Nat.add_zero] at h4
  have h5 : (digsAt s a).head? = some (s[a]'(by omega)) := by
    rw [List.head?_eq_getElem?, List.getElem?_eq_getElem (show 0 < (digsAt s a).length by unfold manyAt at h; omega)]
    exact congrArg some h4
  have h6 : plainD (digsAt s a) = true := by
    unfold plainD
    rw [Bool.and_eq_true, Bool.or_eq_true, decide_eq_true_iff, decide_eq_true_iff, h5]
    refine ⟨?_, ?_⟩
    · cases hd : digsAt s a with
      | nil => unfold manyAt at h; rw [hd] at h; exact absurd rfl h
      | cons => rfl
    · by_cases h7 : 1 < manyAt s a
      · exact .inr (fun e => h2 h7 (by omega) (Option.some.inj e))
      · left; unfold manyAt at h7; omega
  have h8 : valAtN s a (manyAt s a) = valN (digsAt s a) := by unfold valAtN manyAt; rw [List.take_length]
  show takeD (digsAt s a) a = _
  unfold takeD
  rw [h6, if_neg (by simp), h8]
  rw [show ((a + manyAt s a : Nat) : Int) = (a : Int) + ((digsAt s a).length : Int) by unfold manyAt; omega]
theorem take_facts {s : ByteArray} {a : Nat} (ha : a ≤ s.size) : ∃ (m : Nat) (V : Nat → Nat), a + m ≤ s.size ∧
    (∀ i (h : a + i < s.size), i < m → digitB s[a + i] = true ∧ V (i + 1) = 10 * V i + (s[a + i].toNat - 48) ∧ 48 ≤ s[a + i].toNat ∧ s[a + i].toNat ≤ 57) ∧
    (∀ h : a + m < s.size, digitB s[a + m] = false) ∧ V 0 = 0 ∧ (∀ i, i ≤ m → V i ≤ V m) ∧ (m = 0 → takeR s.data.toList a = (0, 0, 2)) ∧
    (1 < m → ∀ h : a < s.size, s[a] = 48 → takeR s.data.toList a = (0, 0, 2)) ∧
    (m ≠ 0 → (1 < m → ∀ h : a < s.size, s[a] ≠ 48) → takeR s.data.toList a = if 2147483647 < V m then (0, 0, 3) else ((V m : Int), ((a + m : Nat) : Int), 0)) :=
  ⟨manyAt s a, valAtN s a, many_le ha, fun i h hi => ⟨(digs_get ha hi h).1, valAt_step ha hi h⟩, fun h => digs_stop h, rfl, fun _ h => valAt_le h, take_none, take_head ha, take_else ha⟩
theorem takeWhile_digits (l : List UInt8) : ∀ b ∈ l.takeWhile digitB, digitB b = true := by
  intro b hb
  induction l with
  | nil => simp at hb
  | cons x r ih =>
    rw [List.takeWhile_cons] at hb
    split at hb
    · rename_i h
      rcases List.mem_cons.1 hb with h1 | h1
      · subst h1; exact h
      · exact ih h1
    · simp at hb
theorem whole_num {n : Nat} (h : n ≤ 2147483647) : wholeR (numR n) = ((n : Int), (0 : Int)) := by
  have e : takeR (numR n) 0 = ((n : Int), ((numR n).length : Int), (0 : Int)) := by
    unfold takeR
    rw [List.drop_zero, takeWhile_all (numR_digits n)]
    unfold takeD
    rw [numR_plain, numR_val, if_neg (by simp), if_neg (by omega)]
    simp
  unfold wholeR
  rw [e]
  simp
theorem takeWhile_full {l : List UInt8} {p : UInt8 → Bool} (h : l.length ≤ (l.takeWhile p).length) : l.takeWhile p = l := by
  induction l with
  | nil => rfl
  | cons x r ih =>
    rw [List.takeWhile_cons] at h ⊢
    split
    · rename_i hx
      rw [if_pos hx] at h
      rw [ih (by simpa using h)]
    · rename_i hx
      rw [if_neg hx] at h
      simp at h
/-- What is a number is its digits. -/
theorem whole_of {l : List UInt8} (h : (wholeR l).2 = 0) : ∃ n : Nat, n ≤ 2147483647 ∧ (wholeR l).1 = n ∧ l = numR n := by
  unfold wholeR at h ⊢
  by_cases h1 : (takeR l 0).2.2 ≠ 0
  · rw [if_pos h1] at h; exact absurd h h1
  · rw [if_neg h1] at h ⊢
    by_cases h2 : (takeR l 0).2.1 < (l.length : Int)
    · rw [if_pos h2] at h; cases h
    · rw [if_neg h2]
      unfold takeR at h1 h2 ⊢
      rw [List.drop_zero] at h1 h2 ⊢
      unfold takeD at h1 h2 ⊢
      by_cases hp : plainD (l.takeWhile digitB) = false
      · rw [if_pos hp] at h1; exact absurd (by decide) h1
      · rw [if_neg hp] at h1 h2 ⊢
        by_cases hv : 2147483647 < valN (l.takeWhile digitB)
        · rw [if_pos hv] at h1; exact absurd (by decide) h1
        · rw [if_neg hv] at h2 ⊢
          dsimp only at h2 ⊢
          have hf : l.takeWhile digitB = l := takeWhile_full (by omega)
          refine ⟨valN (l.takeWhile digitB), by omega, rfl, ?_⟩
          have hd := takeWhile_digits l
          rw [hf] at hp hd ⊢
          exact (numR_of _ l rfl hd (by simpa using hp)).symm
theorem whole_cases (l : List UInt8) : ∃ n t f : Int, takeR l 0 = (n, t, f) ∧ (f ≠ 0 → wholeR l = (0, f)) ∧ (f = 0 → t < l.length → wholeR l = (0, 2)) ∧ (f = 0 → ¬ t < l.length → wholeR l = (n, 0)) ∧ (f ≠ 0 → n = 0) := by
  refine ⟨(takeR l 0).1, (takeR l 0).2.1, (takeR l 0).2.2, rfl, fun h => ?_, fun h h2 => ?_, fun h h2 => ?_, fun h => ?_⟩
  · unfold wholeR; rw [if_pos h]
  · unfold wholeR; rw [if_neg (by omega), if_pos h2]
  · unfold wholeR; rw [if_neg (by omega), if_neg h2]
  · unfold takeR takeD at h ⊢
    split
    · rfl
    · rename_i h1
      rw [if_neg h1] at h
      split
      · rfl
      · rename_i h2; rw [if_neg h2] at h; exact absurd rfl h
theorem whole_err {l : List UInt8} (h : (wholeR l).2 ≠ 0) : (wholeR l).1 = 0 := by
  unfold wholeR at h ⊢
  split
  · rfl
  · rename_i h1
    rw [if_neg h1] at h
    split
    · rfl
    · rename_i h2; rw [if_neg h2] at h; exact absurd rfl h
end Go.Inq

namespace Go.Inq
open Go

/-- A kind's word. -/
def wordK : Nat → List UInt8
  | 0 => [98, 101, 103, 105, 110]
  | 1 => [114, 101, 97, 100]
  | 2 => [119, 114, 105, 116, 101]
  | 3 => [99, 111, 109, 109, 105, 116]
  | _ => [97, 98, 111, 114, 116]
/-- The last of the first k kinds with this word. -/
def kindTo (w : List UInt8) : Nat → Int
  | 0 => -1
  | k + 1 => if wordK k = w then k else kindTo w k
def kindOf (w : List UInt8) : Int := kindTo w 5
theorem kindTo_lt (w : List UInt8) : ∀ k : Nat, -1 ≤ kindTo w k ∧ kindTo w k < k
  | 0 => by simp [kindTo]
  | k + 1 => by
    have := kindTo_lt w k
    unfold kindTo
    split <;> omega
theorem kindTo_word (w : List UInt8) : ∀ k : Nat, 0 ≤ kindTo w k → wordK (kindTo w k).toNat = w
  | 0, h => by simp [kindTo] at h
  | k + 1, h => by
    unfold kindTo at h ⊢
    split
    · rename_i e; exact e
    · rename_i e; rw [if_neg e] at h; exact kindTo_word w k h
theorem kind_word {k : Nat} (h : k < 5) : kindOf (wordK k) = k := by
  match k, h with
  | 0, _ => rfl
  | 1, _ => rfl
  | 2, _ => rfl
  | 3, _ => rfl
  | 4, _ => rfl
theorem kind_lt (w : List UInt8) : -1 ≤ kindOf w ∧ kindOf w < 5 := kindTo_lt w 5

/-- Numbers in digits, one behind the other, or what is wrong with the first that is none. -/
def numsR : List (List UInt8) → List Int × Int
  | [] => ([], 0)
  | w :: r => if (wholeR w).2 ≠ 0 then ([], (wholeR w).2) else if (numsR r).2 ≠ 0 then ([], (numsR r).2) else ((wholeR w).1 :: (numsR r).1, 0)
theorem numsR_cons (w : List UInt8) (r : List (List UInt8)) : numsR (w :: r) = if (wholeR w).2 ≠ 0 then ([], (wholeR w).2) else if (numsR r).2 ≠ 0 then ([], (numsR r).2) else ((wholeR w).1 :: (numsR r).1, 0) := by rw [numsR]
def Ev.zero : Ev := ⟨0, 0, 0, 0⟩
/-- How many numbers a kind has. -/
def manyK (k : Int) : Nat := if itemB k then 3 else 1
/-- The event of words. -/
def evR (ws : List (List UInt8)) : Ev × Int :=
  let k := kindOf (ws[0]?.getD [])
  if k < 0 ∨ ws.length ≠ manyK k + 1 then (Ev.zero, 2)
  else if (numsR (ws.drop 1)).2 ≠ 0 then (Ev.zero, (numsR (ws.drop 1)).2)
  else
    let ns := (numsR (ws.drop 1)).1
    if (7 : Int) < ns[0]?.getD 0 ∨ (15 : Int) < ns[1]?.getD 0 then (Ev.zero, 4) else (⟨k, ns[0]?.getD 0, ns[1]?.getD 0, ns[2]?.getD 0⟩, 0)
/-- A line's event, or what is wrong. -/
def parseR (l : List UInt8) : Ev × Int := if (wordsR l).2 ≠ 0 then (Ev.zero, (wordsR l).2) else evR (wordsR l).1
/-- An event's line, or what is wrong. -/
def showR (e : Ev) : List UInt8 × Int :=
  if e.right = false then ([], 1)
  else (wordK e.kind.toNat ++ 32 :: numR e.sess.toNat ++ (if itemB e.kind then 32 :: numR e.key.toNat ++ 32 :: numR e.val.toNat else []), 0)

theorem word_sign (k : Nat) : wordB (wordK k) = true := by
  unfold wordK
  split <;> rfl
theorem digit_sign {b : UInt8} (h : digitB b = true) : signB b = true := by
  have h2 := (digit_iff b).1 h
  unfold signB
  simp [UInt8.le_iff_toNat_le]
  omega
theorem num_word (n : Nat) : wordB (numR n) = true := by
  unfold wordB
  rw [Bool.and_eq_true]
  exact ⟨by simpa using numR_ne n, List.all_eq_true.2 fun b hb => digit_sign (numR_digits n b hb)⟩
theorem word_free {w : List UInt8} (h : wordB w = true) : ∀ b ∈ w, b ≠ 32 := by
  unfold wordB at h
  rw [Bool.and_eq_true, List.all_eq_true] at h
  exact fun b hb => sign_ne (h.2 b hb)
theorem cuts_one {w : List UInt8} (h : wordB w = true) : cuts 32 w = [w] := by
  unfold cuts; rw [segs_miss (word_free h)]; rfl
theorem cuts_cons {w r : List UInt8} (h : wordB w = true) : cuts 32 (w ++ 32 :: r) = w :: cuts 32 r := by
  unfold cuts; rw [segs_hit (word_free h)]; rfl
theorem words_of {l : List UInt8} {ws : List (List UInt8)} (h : cuts 32 l = ws) (h8 : ws.length ≤ 8) (hg : ∀ w ∈ ws, wordB w = true) : wordsR l = (ws, 0) := by
  unfold wordsR
  rw [h, if_pos ⟨h8, List.all_eq_true.2 hg⟩]
theorem words_2 {a b : List UInt8} (ha : wordB a = true) (hb : wordB b = true) : wordsR (a ++ 32 :: b) = ([a, b], 0) :=
  words_of (by rw [cuts_cons ha, cuts_one hb]) (by simp) (by simp [ha, hb])
theorem words_4 {a b c d : List UInt8} (ha : wordB a = true) (hb : wordB b = true) (hc : wordB c = true) (hd : wordB d = true) : wordsR (a ++ 32 :: (b ++ 32 :: (c ++ 32 :: d))) = ([a, b, c, d], 0) :=
  words_of (by rw [cuts_cons ha, cuts_cons hb, cuts_cons hc, cuts_one hd]) (by simp) (by simp [ha, hb, hc, hd])

theorem right_facts {e : Ev} (h : e.right = true) : (∃ k : Nat, k < 5 ∧ e.kind = k) ∧ (∃ s : Nat, s < 8 ∧ e.sess = s) ∧
    ((itemB e.kind = true ∧ (∃ y : Nat, y < 16 ∧ e.key = y) ∧ ∃ v : Nat, v ≤ 2147483647 ∧ e.val = v) ∨ (itemB e.kind = false ∧ e.key = 0 ∧ e.val = 0)) := by
  unfold Ev.right belowB at h
  rw [Bool.and_eq_true, Bool.and_eq_true, Bool.and_eq_true, Bool.and_eq_true] at h
  simp only [decide_eq_true_eq] at h
  obtain ⟨⟨h1, h2⟩, h3⟩ := h
  refine ⟨⟨e.kind.toNat, by omega, by omega⟩, ⟨e.sess.toNat, by omega, by omega⟩, ?_⟩
  cases hi : itemB e.kind with
  | true =>
    rw [hi] at h3
    simp at h3
    exact .inl ⟨rfl, ⟨e.key.toNat, by omega, by omega⟩, ⟨e.val.toNat, by omega, by omega⟩⟩
  | false =>
    rw [hi] at h3
    simp at h3
    exact .inr ⟨rfl, h3.1, h3.2⟩

/-- What is shown is parsed as it was. -/
theorem parse_show {e : Ev} (h : e.right = true) : parseR (showR e).1 = (e, 0) := by
  obtain ⟨⟨k, hk, ek⟩, ⟨s, hs, es⟩, hc⟩ := right_facts h
  unfold showR
  rw [if_neg (by rw [h]; simp)]
  dsimp only
  rcases hc with ⟨hi, ⟨y, hy, ey⟩, v, hv, ev⟩ | ⟨hi, ey, ev⟩
  · rw [hi, if_pos rfl, ek, es, ey, ev]
    simp only [Int.toNat_natCast, List.append_assoc, List.cons_append]
    unfold parseR
    rw [words_4 (word_sign k) (num_word s) (num_word y) (num_word v), if_neg (by simp)]
    have hn : numsR [numR s, numR y, numR v] = ([(s : Int), (y : Int), (v : Int)], 0) := by
      simp [numsR, whole_num (show s ≤ 2147483647 by omega), whole_num (show y ≤ 2147483647 by omega), whole_num hv]
    unfold evR
    simp only [List.getElem?_cons_zero, Option.getD_some, kind_word hk, List.drop_succ_cons, List.drop_zero, hn, List.length_cons, List.length_nil, List.getElem?_cons_succ]
    rw [ek] at hi
    rw [if_neg (show ¬ ((k : Int) < 0 ∨ _) by unfold manyK; rw [hi]; simp), if_neg (by simp), if_neg (by omega)]
    cases e
    simp at ek es ey ev
    rw [ek, es, ey, ev]
  · rw [hi, if_neg (by simp), ek, es, List.append_nil]
    simp only [Int.toNat_natCast]
    unfold parseR
    rw [words_2 (word_sign k) (num_word s), if_neg (by simp)]
    have hn : numsR [numR s] = ([(s : Int)], 0) := by
      simp [numsR, whole_num (show s ≤ 2147483647 by omega)]
    unfold evR
    simp only [List.getElem?_cons_zero, Option.getD_some, kind_word hk, List.drop_succ_cons, List.drop_zero, hn, List.length_cons, List.length_nil, List.getElem?_cons_succ, List.getElem?_nil, Option.getD_none]
    rw [ek] at hi
    rw [if_neg (show ¬ ((k : Int) < 0 ∨ _) by unfold manyK; rw [hi]; simp), if_neg (by simp), if_neg (by omega)]
    cases e
    simp at ek es ey ev
    rw [ek, es, ey, ev]

theorem join_2 {l a b : List UInt8} (h : cuts 32 l = [a, b]) : l = a ++ 32 :: b := by
  have hw := segs_whole 32 l
  unfold cuts at h
  have hl : (segs 32 l).1.length = 1 := by have := congrArg List.length h; simpa using this
  match hs : (segs 32 l).1, hl with
  | [x], _ =>
    rw [hs] at h hw
    injection h with h1 h2
    injection h2 with h2
    rw [h1, h2] at hw
    rw [← hw]
    simp
theorem join_4 {l a b c d : List UInt8} (h : cuts 32 l = [a, b, c, d]) : l = a ++ 32 :: (b ++ 32 :: (c ++ 32 :: d)) := by
  have hw := segs_whole 32 l
  unfold cuts at h
  have hl : (segs 32 l).1.length = 3 := by have := congrArg List.length h; simpa using this
  match hs : (segs 32 l).1, hl with
  | [x, y, z], _ =>
    rw [hs] at h hw
    injection h with h1 h2
    injection h2 with h2 h3
    injection h3 with h3 h4
    injection h4 with h4
    rw [h1, h2, h3, h4] at hw
    rw [← hw]
    simp
theorem words_ok {l : List UInt8} (h : (wordsR l).2 = 0) : (wordsR l).1 = cuts 32 l := by
  unfold wordsR at h ⊢
  split
  · rfl
  · rename_i h1; rw [if_neg h1] at h; cases h
theorem words_len1 {l : List UInt8} (h : (wordsR l).2 = 0) : 1 ≤ (wordsR l).1.length := by
  rw [words_ok h]; unfold cuts; simp

/-- What is parsed may be, and is shown as it was. -/
theorem show_parse {l : List UInt8} (h : (parseR l).2 = 0) : (parseR l).1.right = true ∧ showR (parseR l).1 = (l, 0) := by
  unfold parseR at h ⊢
  by_cases h1 : (wordsR l).2 ≠ 0
  · rw [if_pos h1] at h; exact absurd h h1
  rw [if_neg h1] at h ⊢
  have hc := words_ok (by omega : (wordsR l).2 = 0)
  generalize (wordsR l).1 = ws at *
  unfold evR at h ⊢
  dsimp only at h ⊢
  by_cases h2 : kindOf (ws[0]?.getD []) < 0 ∨ ws.length ≠ manyK (kindOf (ws[0]?.getD [])) + 1
  · rw [if_pos h2] at h; cases h
  rw [if_neg h2] at h ⊢
  by_cases h3 : (numsR (ws.drop 1)).2 ≠ 0
  · rw [if_pos h3] at h; exact absurd h h3
  rw [if_neg h3] at h ⊢
  by_cases h4 : (7 : Int) < (numsR (ws.drop 1)).1[0]?.getD 0 ∨ (15 : Int) < (numsR (ws.drop 1)).1[1]?.getD 0
  · rw [if_pos h4] at h; cases h
  rw [if_neg h4]
  have hk0 : 0 ≤ kindOf (ws[0]?.getD []) := by omega
  have hk5 := (kind_lt (ws[0]?.getD [])).2
  have hkw := kindTo_word (ws[0]?.getD []) 5 hk0
  have hlen : ws.length = manyK (kindOf (ws[0]?.getD [])) + 1 := by omega
  change wordK (kindOf (ws[0]?.getD [])).toNat = _ at hkw
  have step : ∀ (w : List UInt8) (r : List (List UInt8)), (numsR (w :: r)).2 = 0 → (wholeR w).2 = 0 ∧ (numsR r).2 = 0 ∧ (numsR (w :: r)).1 = (wholeR w).1 :: (numsR r).1 := by
    intro w r hh
    rw [numsR_cons] at hh ⊢
    by_cases g1 : (wholeR w).2 ≠ 0
    · rw [if_pos g1] at hh; exact absurd hh g1
    · rw [if_neg g1] at hh ⊢
      by_cases g2 : (numsR r).2 ≠ 0
      · rw [if_pos g2] at hh; exact absurd hh g2
      · rw [if_neg g2]; exact ⟨by omega, by omega, rfl⟩
  cases hi : itemB (kindOf (ws[0]?.getD [])) with
  | true =>
    unfold manyK at hlen
    rw [hi] at hlen
    match ws, hlen with
    | [a, b, c, d], _ =>
      simp only [List.getElem?_cons_zero, Option.getD_some, List.drop_succ_cons, List.drop_zero] at *
      obtain ⟨g1, g2, g3⟩ := step b [c, d] (by omega)
      obtain ⟨g4, g5, g6⟩ := step c [d] g2
      obtain ⟨g7, g8, g9⟩ := step d [] g5
      rw [g3, g6, g9] at h4 ⊢
      obtain ⟨n1, m1, e1, w1⟩ := whole_of g1
      obtain ⟨n2, m2, e2, w2⟩ := whole_of g4
      obtain ⟨n3, m3, e3, w3⟩ := whole_of g7
      simp only [List.getElem?_cons_zero, Option.getD_some, List.getElem?_cons_succ] at h4 ⊢
      rw [e1, e2] at h4
      rw [e1, e2, e3]
      have hr : (Ev.mk (kindOf a) n1 n2 n3).right = true := by
        unfold Ev.right
        dsimp only
        rw [hi]
        simp [belowB]
        omega
      refine ⟨hr, ?_⟩
      unfold showR
      rw [if_neg (by rw [hr]; simp)]
      dsimp only
      rw [hi, if_pos rfl, hkw, Int.toNat_natCast, Int.toNat_natCast, Int.toNat_natCast, ← w1, ← w2, ← w3, join_4 hc.symm]
      simp
  | false =>
    unfold manyK at hlen
    rw [hi] at hlen
    match ws, hlen with
    | [a, b], _ =>
      simp only [List.getElem?_cons_zero, Option.getD_some, List.drop_succ_cons, List.drop_zero] at *
      obtain ⟨g1, g2, g3⟩ := step b [] (by omega)
      have g4 : (numsR []).1 = [] := rfl
      rw [g3, g4] at h4 ⊢
      obtain ⟨n1, m1, e1, w1⟩ := whole_of g1
      simp only [List.getElem?_cons_zero, Option.getD_some, List.getElem?_cons_succ, List.getElem?_nil, Option.getD_none] at h4 ⊢
      rw [e1] at h4
      rw [e1]
      have hr : (Ev.mk (kindOf a) n1 0 0).right = true := by
        unfold Ev.right
        dsimp only
        rw [hi]
        simp [belowB]
        omega
      refine ⟨hr, ?_⟩
      unfold showR
      rw [if_neg (by rw [hr]; simp)]
      dsimp only
      rw [hi, if_neg (by simp), hkw, Int.toNat_natCast, ← w1, List.append_nil, join_2 hc.symm]
theorem words_len {l w : List UInt8} (h0 : (wordsR l).2 = 0) (h : w ∈ (wordsR l).1) : w.length ≤ l.length := by
  rw [words_ok h0] at h
  exact cuts_len h
/-- The number at a word. -/
def errW (ws : List (List UInt8)) (j : Nat) : Int := (wholeR (ws[j]?.getD [])).2
def numW (ws : List (List UInt8)) (j : Nat) : Int := if j < ws.length then (wholeR (ws[j]?.getD [])).1 else 0
theorem numsR_ok : ∀ {l : List (List UInt8)}, (∀ w ∈ l, (wholeR w).2 = 0) → numsR l = (l.map fun w => (wholeR w).1, 0)
  | [], _ => rfl
  | w :: r, h => by
    rw [numsR_cons, numsR_ok (fun x hx => h x (by simp [hx])), if_neg (by rw [h w (by simp)]; simp), if_neg (by simp)]
    rfl
theorem numsR_bad : ∀ {l : List (List UInt8)} {i : Nat} (hi : i < l.length), (∀ j (h : j < i), (wholeR l[j]).2 = 0) → (wholeR l[i]).2 ≠ 0 → (numsR l).2 = (wholeR l[i]).2
  | [], i, hi, _, _ => by simp at hi
  | w :: r, 0, _, _, hb => by
    rw [numsR_cons, if_pos (show (wholeR w).2 ≠ 0 from hb)]
    rfl
  | w :: r, i + 1, hi, hj, hb => by
    have h0 := hj 0 (by omega)
    have ih := numsR_bad (l := r) (i := i) (by simpa using hi) (fun j h => by simpa using hj (j + 1) (by omega)) (by simpa using hb)
    rw [numsR_cons, if_neg (by simpa using h0), if_pos (by rw [ih]; simpa using hb)]
    simpa using ih
theorem evR_form {ws : List (List UInt8)} (h : kindOf (ws[0]?.getD []) < 0 ∨ ws.length ≠ manyK (kindOf (ws[0]?.getD [])) + 1) : evR ws = (Ev.zero, 2) := by
  unfold evR
  dsimp only
  rw [if_pos h]
theorem evR_bad {ws : List (List UInt8)} (h : ¬ (kindOf (ws[0]?.getD []) < 0 ∨ ws.length ≠ manyK (kindOf (ws[0]?.getD [])) + 1)) {i : Nat} (hi : i + 1 < ws.length)
    (hj : ∀ j, j < i → errW ws (j + 1) = 0) (hb : errW ws (i + 1) ≠ 0) : evR ws = (Ev.zero, errW ws (i + 1)) := by
  have hl : (ws.drop 1).length = ws.length - 1 := List.length_drop ..
  have hg : ∀ j (hj : j < (ws.drop 1).length), (wholeR (ws.drop 1)[j]).2 = errW ws (j + 1) := fun j hj => by
    unfold errW
    rw [List.getElem_drop, List.getElem?_eq_getElem (show j + 1 < ws.length by omega), Option.getD_some]
    congr 3
    omega
  have hn := numsR_bad (l := ws.drop 1) (i := i) (by omega) (fun j h => by rw [hg j (by omega)]; exact hj j h) (by rw [hg i (by omega)]; exact hb)
  rw [hg i (by omega)] at hn
  unfold evR
  dsimp only
  rw [if_neg h, hn, if_pos hb]
theorem evR_good {ws : List (List UInt8)} (h : ¬ (kindOf (ws[0]?.getD []) < 0 ∨ ws.length ≠ manyK (kindOf (ws[0]?.getD [])) + 1)) (hj : ∀ j, j + 1 < ws.length → errW ws (j + 1) = 0) :
    evR ws = if 7 < numW ws 1 ∨ 15 < numW ws 2 then (Ev.zero, 4) else (⟨kindOf (ws[0]?.getD []), numW ws 1, numW ws 2, numW ws 3⟩, 0) := by
  have hl : (ws.drop 1).length = ws.length - 1 := List.length_drop ..
  have hn := numsR_ok (l := ws.drop 1) (fun w hw => by
    obtain ⟨j, hj2, e⟩ := List.getElem_of_mem hw
    have := hj j (by omega)
    unfold errW at this
    rw [List.getElem?_eq_getElem (show j + 1 < ws.length by omega), Option.getD_some] at this
    rw [← e, List.getElem_drop]
    have e2 : ws[1 + j]'(by omega) = ws[j + 1]'(by omega) := by congr 1; omega
    rw [e2]
    exact this)
  have hv : ∀ j, ((ws.drop 1).map fun w => (wholeR w).1)[j]?.getD 0 = numW ws (j + 1) := fun j => by
    rw [List.getElem?_map, List.getElem?_drop]
    unfold numW
    by_cases hlt : j + 1 < ws.length
    · rw [if_pos hlt, Nat.add_comm 1 j, List.getElem?_eq_getElem hlt]
      rfl
    · rw [if_neg hlt, List.getElem?_eq_none (by omega)]
      rfl
  unfold evR
  dsimp only
  rw [if_neg h, hn, if_neg (by simp)]
  dsimp only
  rw [hv 0, hv 1, hv 2]
/-- The first m numbers behind a line's first word, in three cells. -/
def nval (ws : List (List UInt8)) (m j : Nat) : Int := if j ≤ m then (wholeR (ws[j]?.getD [])).1 else 0
def nrow (ws : List (List UInt8)) (m : Nat) : Array Value := #[.int .i64 (nval ws m 1), .int .i64 (nval ws m 2), .int .i64 (nval ws m 3)]
theorem nrow_zero (ws : List (List UInt8)) : nrow ws 0 = #[.int .i64 0, .int .i64 0, .int .i64 0] := rfl
theorem nrow_step (ws : List (List UInt8)) {m : Nat} (h : m < 3) : (nrow ws m).setIfInBounds m (.int .i64 (wholeR (ws[m + 1]?.getD [])).1) = nrow ws (m + 1) := by
  match m, h with
  | 0, _ => simp [nrow, nval]
  | 1, _ => simp [nrow, nval]
  | 2, _ => simp [nrow, nval]
theorem nval_end {ws : List (List UInt8)} {m : Nat} (h : m + 1 = ws.length) (j : Nat) : nval ws m j = numW ws j := by
  unfold nval numW
  by_cases h1 : j ≤ m
  · rw [if_pos h1, if_pos (by omega)]
  · rw [if_neg h1, if_neg (by omega)]
theorem parseR_words {l : List UInt8} (h : (wordsR l).2 = 0) : parseR l = evR (wordsR l).1 := by unfold parseR; rw [if_neg (by omega)]
theorem parseR_bad {l : List UInt8} (h : (wordsR l).2 ≠ 0) : parseR l = (Ev.zero, (wordsR l).2) := by unfold parseR; rw [if_pos h]
theorem kindTo_hit {w : List UInt8} {k : Nat} (h : wordK k = w) : kindTo w (k + 1) = k := by unfold kindTo; rw [if_pos h]
theorem kindTo_miss {w : List UInt8} {k : Nat} (h : wordK k ≠ w) : kindTo w (k + 1) = kindTo w k := by rw [kindTo, if_neg h]
end Go.Inq

namespace Go.Inq
open Go

theorem nought_plain (n : Nat) : plainD (48 :: numR n) = false := by
  unfold plainD
  have := numR_ne n
  cases h : numR n with
  | nil => exact absurd h this
  | cons a r => simp
theorem nought_word (n : Nat) : wordB (48 :: numR n) = true := by
  have h := num_word n
  unfold wordB at h ⊢
  rw [Bool.and_eq_true] at h ⊢
  refine ⟨rfl, ?_⟩
  rw [List.all_cons, h.2]
  rfl
theorem nought_whole (n : Nat) : wholeR (48 :: numR n) = (0, 2) := by
  have hd : ∀ b ∈ (48 :: numR n : List UInt8), digitB b = true := by
    intro b hb
    rcases List.mem_cons.1 hb with rfl | h
    · rfl
    · exact numR_digits n b h
  have e : (takeR (48 :: numR n) 0).2.2 = 2 := by
    unfold takeR
    rw [List.drop_zero, takeWhile_all hd]
    unfold takeD
    rw [nought_plain, if_pos rfl]
  unfold wholeR
  rw [if_pos (by rw [e]; simp), e]
/-- A write's line. -/
def writeL (a b c : List UInt8) : List UInt8 := [119, 114, 105, 116, 101, 32] ++ a ++ [32] ++ b ++ [32] ++ c
theorem writeL_words (a b c : List UInt8) : writeL a b c = wordK 2 ++ 32 :: (a ++ 32 :: (b ++ 32 :: c)) := by
  unfold writeL
  simp [wordK]
theorem write_parse {s k v : Nat} (hs : s ≤ 2147483647) (hk : k ≤ 2147483647) (hv : v ≤ 2147483647) :
    parseR (writeL (numR s) (numR k) (numR v)) = if (7 : Int) < s ∨ (15 : Int) < k then (Ev.zero, 4) else (⟨2, s, k, v⟩, 0) := by
  rw [writeL_words]
  unfold parseR
  rw [words_4 (word_sign 2) (num_word s) (num_word k) (num_word v), if_neg (by simp)]
  have hn : numsR [numR s, numR k, numR v] = ([(s : Int), (k : Int), (v : Int)], 0) := by
    simp [numsR, whole_num hs, whole_num hk, whole_num hv]
  unfold evR
  simp only [List.getElem?_cons_zero, Option.getD_some, kind_word (show 2 < 5 by decide), List.drop_succ_cons, List.drop_zero, hn, List.length_cons, List.length_nil, List.getElem?_cons_succ]
  rw [if_neg (show ¬ (((2 : Nat) : Int) < 0 ∨ _) by unfold manyK itemB; simp), if_neg (by simp)]
  rfl
theorem write_nought {s k v : Nat} (hs : s ≤ 2147483647) : (parseR (writeL (numR s) (48 :: numR k) (numR v))).2 = 2 := by
  rw [writeL_words]
  unfold parseR
  rw [words_4 (word_sign 2) (num_word s) (nought_word k) (num_word v), if_neg (by simp)]
  have hn : (numsR [numR s, 48 :: numR k, numR v]).2 = 2 := by
    simp [numsR, whole_num hs, nought_whole]
  unfold evR
  simp only [List.getElem?_cons_zero, Option.getD_some, kind_word (show 2 < 5 by decide), List.drop_succ_cons, List.drop_zero, hn, List.length_cons, List.length_nil, List.getElem?_cons_succ]
  rw [if_neg (show ¬ (((2 : Nat) : Int) < 0 ∨ _) by unfold manyK itemB; simp), if_pos (by simp)]
theorem writeL_len {s k v : Nat} (hs : s ≤ 2147483647) (hk : k ≤ 2147483647) (hv : v ≤ 2147483647) : (writeL (numR s) (numR k) (numR v)).length ≤ 100 ∧ (writeL (numR s) (48 :: numR k) (numR v)).length ≤ 100 := by
  have l1 := numR_ten hs
  have l2 := numR_ten hk
  have l3 := numR_ten hv
  unfold writeL
  constructor <;> (simp only [List.length_append, List.length_cons, List.length_nil]; omega)
/-- A number that may be shown is shown in digits. -/
theorem showN_ok {n : Int} (h : (showN n).2 = 0) : ∃ m : Nat, m ≤ 2147483647 ∧ n = m ∧ showN n = (numR m, 0) := by
  unfold showN at h ⊢
  split
  · rename_i h1
    exact ⟨n.toNat, by omega, by omega, rfl⟩
  · rename_i h1; rw [if_neg h1] at h; exact absurd h (by decide)
theorem right_write {s k v : Int} (h : (showN s).2 ≠ 0 ∨ (showN k).2 ≠ 0 ∨ (showN v).2 ≠ 0) : (Ev.mk 2 s k v).right = false := by
  cases hr : (Ev.mk 2 s k v).right with
  | false => rfl
  | true =>
    obtain ⟨-, ⟨x, hx, ex⟩, hc⟩ := right_facts hr
    simp only at ex hc
    have hi : itemB 2 = true := rfl
    rcases hc with ⟨-, ⟨y, hy, ey⟩, z, hz, ez⟩ | ⟨h1, -⟩
    · subst ex ey ez
      unfold showN at h
      rw [if_pos (by omega), if_pos (by omega), if_pos (by omega)] at h
      simp at h
    · rw [hi] at h1; cases h1
theorem showR_bad {e : Ev} (h : e.right = false) : showR e = ([], 1) := by unfold showR; rw [if_pos h]
theorem showR_err {e : Ev} (h : e.right = true) : (showR e).2 = 0 := by unfold showR; rw [if_neg (by rw [h]; simp)]
theorem wordK_len (k : Nat) : (wordK k).length ≤ 10 := by
  unfold wordK
  split <;> decide
theorem showR_len (e : Ev) : (showR e).1.length ≤ 100 := by
  cases h : e.right with
  | false => rw [showR_bad h]; simp
  | true =>
    obtain ⟨⟨k, hk, ek⟩, ⟨s, hs, es⟩, hc⟩ := right_facts h
    have l0 := wordK_len e.kind.toNat
    have l1 := numR_ten (n := e.sess.toNat) (by omega)
    unfold showR
    rw [if_neg (by rw [h]; simp)]
    dsimp only
    have l2 := numR_ten (n := e.key.toNat) (by rcases hc with ⟨-, ⟨y, hy, ey⟩, -⟩ | ⟨-, ey, -⟩ <;> omega)
    have l3 := numR_ten (n := e.val.toNat) (by rcases hc with ⟨-, -, ⟨y, hy, ey⟩⟩ | ⟨-, -, ey⟩ <;> omega)
    split <;> (simp only [List.length_append, List.length_cons, List.length_nil]; omega)
theorem parseR_err {l : List UInt8} (h : (parseR l).2 ≠ 0) : (parseR l).1 = Ev.zero := by
  unfold parseR at h ⊢
  by_cases h1 : (wordsR l).2 ≠ 0
  · rw [if_pos h1]
  rw [if_neg h1] at h ⊢
  unfold evR at h ⊢
  dsimp only at h ⊢
  split
  · rfl
  · rename_i h2
    rw [if_neg h2] at h
    split
    · rfl
    · rename_i h3
      rw [if_neg h3] at h
      split
      · rfl
      · rename_i h4; rw [if_neg h4] at h; exact absurd rfl h
end Go.Inq
