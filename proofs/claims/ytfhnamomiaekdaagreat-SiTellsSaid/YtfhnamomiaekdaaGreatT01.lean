/-
  Words for memory that all texts of this family share: slices that read as lists, over a set of blocks; no program in sight.
-/
import Derived.WalkKit
import Derived.WalkSpells
import Derived.WalkLawsBesides
import Derived.Handy
import Derived.Deep.QuietTactic
import Derived.BigQuiet
import Derived.Deep.RegionHeld3
import Derived.Deep.DrawnRows
import Derived.Below
import Derived.Laws.OwnMore
import Derived.Deep.AppendLies
import Derived.Deep.Draws
import Derived.Laws.Rows
import Derived.Maps.AppendAt
import Derived.RegionTactic
import Derived.OwnWalk
import Derived.Deep.Light
import Derived.Deep.LoopGhost
import Derived.Deep.DeepCutAuto
import Derived.BigGuardPart
import Derived.StillTailTactics
import Derived.Deep.AppendSrc
import Derived.Test.YtfhnamomiaekdaaGreatProg
import Derived.Test.YtfhnamomiaekdaaGreatRows
import Derived.ProofKit
import Derived.Deep.Slices
import Derived.Deep.Fields
import Derived.ChangeSame
import Derived.Lib.SmallJoins
import Derived.Carry
import Derived.Laws.LoneSync
import Derived.OpenShut
import Derived.Deep.Strs
set_option linter.unusedVariables false
set_option linter.unusedSimpArgs false
namespace Go.Inq
open Go Go.RowKit

theorem hide {p : Prop} (h : p) : Hid p := h
theorem ret_bool {a b : Bool} (h : a = b) : Ending.returned (.bool a) = .returned (.bool b) := by rw [h]
theorem ret_int {k : IntKind} {a b : Int} (h : a = b) : Ending.returned (.int k a) = .returned (.int k b) := by rw [h]

/-- The worlds w and w' hold the same in the blocks of K. -/
def Agree (K : Nat → Prop) (w w' : World) : Prop := ∀ b, K b → w'.heap[b]? = w.heap[b]?

section
variable {K K' : Nat → Prop} {w w' w'' : World}
theorem Agree.refl (K : Nat → Prop) (w : World) : Agree K w w := fun _ _ => rfl
theorem Agree.trans (h : Agree K w w') (h' : Agree K w' w'') : Agree K w w'' := fun b hb => (h' b hb).trans (h b hb)
theorem Agree.mono (h : Agree K w w') (hk : ∀ b, K' b → K b) : Agree K' w w' := fun b hb => h b (hk b hb)
theorem Agree.cell (h : Agree K w w') {p : Addr} (hp : K p.block) : w'.cell? p = w.cell? p := World.cell?_of_block (h _ hp)
theorem Agree.frozen (h : Agree K w w') {p : Addr} (hp : K p.block) : w'.frozen? p = w.frozen? p := World.frozen?_of_block (h _ hp)
theorem Agree.drew (K : Nat → Prop) (w : World) : Agree K w w.drew := fun _ _ => rfl
theorem Agree.drewN (K : Nat → Prop) (w : World) (n : Nat) : Agree K w (w.drewN n) := fun _ _ => rfl
theorem Agree.alloc (hk : ∀ b, K b → b < w.heap.size) (o : Obj) : Agree K w (w.alloc o) := fun b hb => Below.heap_alloc w o b (hk b hb)
theorem Agree.setCell (p : Addr) (hk : ¬ K p.block) (u : Value) : Agree K w (w.setCell p u) :=
  fun b hb => Below.heap_setCell w p u b (fun e => hk (e ▸ hb))
theorem Agree.below {B : Nat} (h : Below B w w') (hk : ∀ b, K b → b < B) : Agree K w w' := fun b hb => h.block b (hk b hb)
theorem Agree.grown {row : Option Nat} (h : w.grownBy w' row) (hk : ∀ b, K b → b < w.heap.size ∧ some b ≠ row) : Agree K w w' := fun b hb => h.block b (hk b hb).1 (hk b hb).2
end

/-- The slice v reads as the list l; each element lies in 'size' cells that R tells of; all lies in blocks of K. -/
def SlR {α : Type} (size : Nat) (R : World → (Nat → Prop) → List Value → α → Prop) (w : World) (K : Nat → Prop) (v : Value) (l : List α) : Prop :=
  ∃ (A : Option Addr) (c : Nat) (xs : List (List Value)), v = .slice A l.length c ∧ l.length ≤ c ∧ xs.length = l.length ∧
    (∀ (i : Nat) cs x, xs[i]? = some cs → l[i]? = some x → cs.length = size ∧ R w K cs x) ∧
    (0 < l.length → ∃ b off, A = some ⟨b, off, none⟩ ∧ K b ∧ ∀ (i j : Nat) cs u, xs[i]? = some cs → cs[j]? = some u → w.cell? ⟨b, off + i * size + j, none⟩ = some u)

/-- R's word stands in each later world that holds the same in K, and over each greater set. -/
def Stab {α : Type} (R : World → (Nat → Prop) → List Value → α → Prop) : Prop :=
  ∀ w w' K K' cs x, R w K cs x → Agree K w w' → (∀ b, K b → K' b) → R w' K' cs x

theorem SlR.keep {α : Type} {size : Nat} {R : World → (Nat → Prop) → List Value → α → Prop} (hR : Stab R) {w w' : World} {K K' : Nat → Prop} {v : Value} {l : List α}
    (h : SlR size R w K v l) (ha : Agree K w w') (hk : ∀ b, K b → K' b) : SlR size R w' K' v l := by
  obtain ⟨A, c, xs, hv, hc, hl, he, hm⟩ := h
  refine ⟨A, c, xs, hv, hc, hl, fun i cs x h1 h2 => ⟨(he i cs x h1 h2).1, hR _ _ _ _ _ _ (he i cs x h1 h2).2 ha hk⟩, fun h0 => ?_⟩
  obtain ⟨b, off, hA, hb, hcell⟩ := hm h0
  exact ⟨b, off, hA, hk b hb, fun i j cs u h1 h2 => (ha.cell (p := ⟨b, off + i * size + j, none⟩) hb).trans (hcell i j cs u h1 h2)⟩

/-- All blocks that are there. -/
def Old (w : World) : Nat → Prop := fun b => b < w.heap.size

theorem SlR.below {α : Type} {size : Nat} {R : World → (Nat → Prop) → List Value → α → Prop} (hR : Stab R) {w w' : World} {v : Value} {l : List α}
    (h : SlR size R w (Old w) v l) (hb : Below w.heap.size w w') : SlR size R w' (Old w') v l :=
  h.keep hR (Agree.below hb fun _ h => h) fun _ h => Nat.lt_of_lt_of_le h hb.size
theorem SlR.fit {α : Type} {size : Nat} {R : World → (Nat → Prop) → List Value → α → Prop} (hR : Stab R) {w : World} {K K' : Nat → Prop} {v : Value} {l : List α}
    (h : SlR size R w K v l) (hk : ∀ b, K b → K' b) : SlR size R w K' v l := h.keep hR (Agree.refl _ _) hk

/-- Elements that are told by their cells alone. -/
def Flat {α : Type} (enc : α → List Value) : World → (Nat → Prop) → List Value → α → Prop := fun _ _ cs x => cs = enc x
theorem Flat.stab {α : Type} (enc : α → List Value) : Stab (Flat enc) := fun _ _ _ _ _ _ h _ _ => h

theorem SlR.len {α : Type} {size : Nat} {R : World → (Nat → Prop) → List Value → α → Prop} {w : World} {K : Nat → Prop} {v : Value} {l : List α} (h : SlR size R w K v l) :
    ∃ A c, v = .slice A l.length c ∧ l.length ≤ c := by
  obtain ⟨A, c, xs, hv, hc, _⟩ := h
  exact ⟨A, c, hv, hc⟩

theorem SlR.nil {α : Type} (size : Nat) (R : World → (Nat → Prop) → List Value → α → Prop) (w : World) (K : Nat → Prop) (c : Nat) (A : Option Addr) : SlR size R w K (.slice A 0 c) ([] : List α) :=
  ⟨A, c, [], rfl, Nat.zero_le _, rfl, fun i cs x h => by simp at h, fun h => by simp at h⟩

/-- One element's cells. -/
theorem SlR.at_ {α : Type} {size : Nat} {R : World → (Nat → Prop) → List Value → α → Prop} {w : World} {K : Nat → Prop} {A : Option Addr} {n c : Nat} {l : List α} (h : SlR size R w K (.slice A n c) l) {i : Nat} (hi : i < l.length) :
    ∃ b off cs, A = some ⟨b, off, none⟩ ∧ K b ∧ cs.length = size ∧ R w K cs l[i] ∧ ∀ (j : Nat) u, cs[j]? = some u → w.cell? ⟨b, off + i * size + j, none⟩ = some u := by
  obtain ⟨A', c', xs, hv, hc, hl, he, hm⟩ := h
  obtain ⟨b, off, hA, hb, hcell⟩ := hm (by omega)
  injection hv with h1 h2 h3
  have hx : xs[i]? = some (xs[i]'(by omega)) := List.getElem?_eq_getElem (by omega)
  have := he i _ l[i] hx (List.getElem?_eq_getElem hi)
  exact ⟨b, off, xs[i]'(by omega), by rw [h1, hA], hb, this.1, this.2, fun j u hj => hcell i j _ u hx hj⟩

theorem SlR.cells {α : Type} {size : Nat} {R : World → (Nat → Prop) → List Value → α → Prop} {w : World} {K : Nat → Prop} {b off n c : Nat} {l : List α} (h : SlR size R w K (.slice (some ⟨b, off, none⟩) n c) l) {i : Nat} (hi : i < l.length) :
    ∃ cs, K b ∧ cs.length = size ∧ R w K cs l[i] ∧ ∀ (j : Nat) u, cs[j]? = some u → w.cell? ⟨b, off + i * size + j, none⟩ = some u := by
  obtain ⟨b', off', cs, hA, h1, h2, h3, h4⟩ := h.at_ hi
  injection hA with hA
  injection hA with hb ho
  subst hb ho
  exact ⟨cs, h1, h2, h3, h4⟩

/-- The first k elements. -/
theorem SlR.take {α : Type} {size : Nat} {R : World → (Nat → Prop) → List Value → α → Prop} {w : World} {K : Nat → Prop} {A : Option Addr} {n c : Nat} {l : List α} (h : SlR size R w K (.slice A n c) l) {k : Nat} (hk : k ≤ l.length) :
    SlR size R w K (.slice A k c) (l.take k) := by
  obtain ⟨A', c', xs, hv, hc, hl, he, hm⟩ := h
  injection hv with h1 h2 h3
  subst h1 h3
  have hlk : (l.take k).length = k := by rw [List.length_take]; omega
  refine ⟨A, c, xs.take k, by rw [hlk], by omega, by rw [List.length_take, List.length_take]; omega, fun i cs x h1 h2 => ?_, fun h0 => ?_⟩
  · rw [List.getElem?_take] at h1 h2
    split at h1
    · rename_i hik; rw [if_pos hik] at h2; exact he i cs x h1 h2
    · cases h1
  · obtain ⟨b, off, hA, hb, hcell⟩ := hm (by omega)
    refine ⟨b, off, hA, hb, fun i j cs u h1 h2 => ?_⟩
    rw [List.getElem?_take] at h1
    split at h1
    · exact hcell i j cs u h1 h2
    · cases h1

/-- What is left behind the first k elements: 's[k:]', with the model's own 'if'. -/
theorem SlR.drop {α : Type} {size : Nat} {R : World → (Nat → Prop) → List Value → α → Prop} {w : World} {K : Nat → Prop} {A : Option Addr} {n c : Nat} {l : List α} (h : SlR size R w K (.slice A n c) l) {k : Nat} (hk : k ≤ l.length) :
    SlR size R w K (.slice (if c = k then A else A.map (·.add (k * size))) (n - k) (c - k)) (l.drop k) := by
  obtain ⟨A', c', xs, hv, hc, hl, he, hm⟩ := h
  injection hv with h1 h2 h3
  subst h1 h3
  have hlk : (l.drop k).length = l.length - k := List.length_drop
  refine ⟨_, _, xs.drop k, by rw [hlk, h2], by rw [hlk]; omega, by rw [List.length_drop, List.length_drop, hl], fun i cs x h1 h2 => ?_, fun h0 => ?_⟩
  · rw [List.getElem?_drop] at h1 h2
    exact he _ cs x h1 h2
  · rw [hlk] at h0
    obtain ⟨b, off, hA, hb, hcell⟩ := hm (by omega)
    rw [if_neg (by omega), hA]
    refine ⟨b, off + k * size, ?_, hb, fun i j cs u h1 h2 => ?_⟩
    · simp only [Option.map_some, Addr.add]
      split
      · rename_i h0; rw [h0]; rfl
      · rfl
    · rw [List.getElem?_drop] at h1
      have := hcell (k + i) j cs u h1 h2
      rw [Nat.add_mul, ← Nat.add_assoc] at this
      exact this

/-- An owned row reads as a list, over whatever set holds its block. -/
theorem SlR.of_own {α : Type} {size : Nat} {R : World → (Nat → Prop) → List Value → α → Prop} {w : World} {K : Nat → Prop} {base : Nat} {e : TypeId} {v : Value} {n : Nat} {xs : List Value} {l : List α} {ys : List (List Value)}
    (h : w.ownsRow base e size v n xs) (hn : n = l.length) (hx : xs = ys.flatten) (hy : ys.length = l.length) (he : ∀ (i : Nat) cs x, ys[i]? = some cs → l[i]? = some x → cs.length = size ∧ R w K cs x)
    (hK : ∀ g, v.ownBlock = some g → K g) : SlR size R w K v l := by
  have hcell : ∀ g, v.ownBlock = some g → ∀ j u, xs[j]? = some u → w.cell? ⟨g, j, none⟩ = some u := by
    intro g hg j u hu
    have := h.cells hg j u hu
    rwa [show (⟨g, 0, none⟩ : Addr).add j = ⟨g, j, none⟩ by unfold Addr.add; split <;> simp_all] at this
  have hflat : ∀ (ys : List (List Value)) (i j : Nat) cs u, (∀ (i : Nat) cs, ys[i]? = some cs → cs.length = size) → ys[i]? = some cs → cs[j]? = some u → ys.flatten[i * size + j]? = some u := by
    intro ys
    induction ys with
    | nil => intro i j cs u _ h; simp at h
    | cons y ys ih =>
      intro i j cs u hs h1 h2
      have hy := hs 0 y rfl
      cases i with
      | zero =>
        simp at h1; subst h1
        have hj : j < y.length := by
          rcases Nat.lt_or_ge j y.length with h | h
          · exact h
          · rw [List.getElem?_eq_none h] at h2; cases h2
        rw [List.flatten_cons, List.getElem?_append_left (by omega)]
        simpa using h2
      | succ i =>
        simp at h1
        rw [List.flatten_cons, List.getElem?_append_right (by rw [hy, Nat.add_mul]; omega), hy, show (i + 1) * size + j - size = i * size + j by rw [Nat.add_mul]; omega]
        exact ih i j cs u (fun i cs h => hs (i + 1) cs (by simpa using h)) h1 h2
  have hsz : ∀ (i : Nat) cs, ys[i]? = some cs → cs.length = size := by
    intro i cs h1
    have hi : i < l.length := by
      rw [← hy]
      rcases Nat.lt_or_ge i ys.length with h | h
      · exact h
      · rw [List.getElem?_eq_none h] at h1; cases h1
    exact (he i cs l[i] h1 (List.getElem?_eq_getElem hi)).1
  rcases h.2 with ⟨hv, h0⟩ | ⟨g, cap, cur, hv, hg, hh, hn', hcap, hcs, htake⟩
  · subst hv
    have : l = [] := List.eq_nil_of_length_eq_zero (by omega)
    subst this
    exact SlR.nil _ _ _ _ _ _
  · refine ⟨some ⟨g, 0, none⟩, cap, ys, by rw [hv, hn], by omega, hy, he, fun _ => ⟨g, 0, rfl, hK g (by rw [hv]; rfl), fun i j cs u h1 h2 => ?_⟩⟩
    rw [Nat.zero_add]
    exact hcell g (by rw [hv]; rfl) _ u (by rw [hx]; exact hflat ys i j cs u hsz h1 h2)

theorem SlR.of_flat {α : Type} {size : Nat} {enc : α → List Value} {w : World} {K : Nat → Prop} {base : Nat} {e : TypeId} {v : Value} {n : Nat} {l : List α}
    (h : w.ownsRow base e size v n (l.map enc).flatten) (hn : n = l.length) (hs : ∀ x, (enc x).length = size) (hK : ∀ g, base ≤ g → g < w.heap.size → K g) : SlR size (Flat enc) w K v l := by
  refine SlR.of_own (ys := l.map enc) h hn rfl (by simp) (fun i cs x h1 h2 => ?_) (fun g hg => hK g (h.lt g hg).1 (h.lt g hg).2)
  rw [List.getElem?_map, h2] at h1
  injection h1 with h1
  exact ⟨by rw [← h1]; exact hs x, h1.symm⟩

/-- Block g is just the cells cs of element type t, none frozen. -/
def Blk (w : World) (g : Nat) (t : TypeId) (cs : Array Value) : Prop := w.heap[g]? = some (.cells cs t (0, 0))
section
variable {w w' : World} {g : Nat} {t : TypeId} {cs : Array Value}
theorem Blk.lt (h : Blk w g t cs) : g < w.heap.size := by
  rcases Nat.lt_or_ge g w.heap.size with hlt | hge
  · exact hlt
  · unfold Blk at h; rw [Array.getElem?_eq_none hge] at h; cases h
theorem Blk.cell (h : Blk w g t cs) (i : Nat) : w.cell? ⟨g, i, none⟩ = cs[i]? := cell_of_row w g i cs t (0, 0) h
theorem Blk.frozen (h : Blk w g t cs) (i : Nat) : w.frozen? ⟨g, i, none⟩ = false := by
  unfold Blk at h
  simp [World.frozen?, h]
theorem Blk.new (w : World) (t : TypeId) (cs : Array Value) : Blk (w.alloc (.cells cs t)) w.heap.size t cs := heap_alloc_new w _
theorem Blk.drew (h : Blk w g t cs) : Blk w.drew g t cs := h
theorem Blk.drewN (h : Blk w g t cs) (n : Nat) : Blk (w.drewN n) g t cs := h
theorem Blk.alloc (h : Blk w g t cs) (o : Obj) : Blk (w.alloc o) g t cs := (Below.heap_alloc w o g h.lt).trans h
theorem Blk.set_ (h : Blk w g t cs) (i : Nat) (u : Value) : Blk (w.setCell ⟨g, i, none⟩ u) g t (cs.setIfInBounds i u) := by
  unfold Blk at h ⊢
  simp [World.setCell, Array.getElem?_modify, h]
theorem Blk.far (h : Blk w g t cs) {p : Addr} (hp : g ≠ p.block) (u : Value) : Blk (w.setCell p u) g t cs := (Below.heap_setCell w p u g hp).trans h
theorem Blk.below {B : Nat} (h : Blk w g t cs) (hb : Below B w w') (hg : g < B) : Blk w' g t cs := (hb.block g hg).trans h
theorem Blk.grown {row : Option Nat} (h : Blk w g t cs) (hb : w.grownBy w' row) (hg : some g ≠ row) : Blk w' g t cs := (hb.block g h.lt hg).trans h
theorem Blk.agree {K : Nat → Prop} (h : Blk w g t cs) (ha : Agree K w w') (hg : K g) : Blk w' g t cs := (ha g hg).trans h
theorem own_below {base B : Nat} {e : TypeId} {size n : Nat} {v : Value} {xs : List Value} (h : w.ownsRow base e size v n xs) (hb : Below B w w') (hB : w.heap.size ≤ B) : w'.ownsRow base e size v n xs :=
  h.kept (row := none) ⟨hb.os, hb.tape, hb.output, hb.size, fun k hk _ => hb.block k (by omega)⟩ (by cases v.ownBlock <;> simp)
theorem own_setCell {base : Nat} {e : TypeId} {size n : Nat} {v : Value} {xs : List Value} (h : w.ownsRow base e size v n xs) {p : Addr} (hp : v.ownBlock ≠ some p.block) (u : Value) : (w.setCell p u).ownsRow base e size v n xs := by
  refine ⟨h.1, ?_⟩
  rcases h.2 with h2 | ⟨g, cap, cur, hv, hg, hh, r⟩
  · exact .inl h2
  · refine .inr ⟨g, cap, cur, hv, hg, ?_, r⟩
    rw [Below.heap_setCell _ _ _ _ (fun e => hp (by rw [hv]; simp [Value.ownBlock, e]))]
    exact hh
theorem own_slice {base : Nat} {e : TypeId} {size n : Nat} {v : Value} {xs : List Value} (h : w.ownsRow base e size v n xs) : ∃ A c, v = .slice A n c := by
  rcases h.2 with ⟨h1, h2⟩ | ⟨g, cap, cur, hv, _⟩
  · subst h2; exact ⟨none, 0, h1⟩
  · exact ⟨_, _, hv⟩
theorem own_drewN {base : Nat} {e : TypeId} {size n : Nat} {v : Value} {xs : List Value} (h : w.ownsRow base e size v n xs) (k : Nat) : (w.drewN k).ownsRow base e size v n xs := h
end

theorem flat_snoc {α : Type} (enc : α → List Value) (l : List α) (x : α) : ((l ++ [x]).map enc).flatten = (l.map enc).flatten ++ enc x := by simp
theorem take_snoc' {α : Type} {l : List α} {k : Nat} (h : k < l.length) : l.take (k + 1) = l.take k ++ [l[k]] := by rw [List.take_succ_eq_append_getElem h]

end Go.Inq

namespace Go.Inq
open Go Go.RowKit

structure Ev where
  kind : Int
  sess : Int
  key : Int
  val : Int
deriving DecidableEq

def Ev.enc (e : Ev) : List Value := [.int .i64 e.kind, .int .i64 e.sess, .int .i64 e.key, .int .i64 e.val]

def belowB (n m : Int) : Bool := decide (0 ≤ n) && decide (n < m)
def itemB (k : Int) : Bool := k == 1 || k == 2

/-- An event may be. -/
def Ev.right (e : Ev) : Bool := belowB e.kind 5 && belowB e.sess 8 && (if itemB e.kind then belowB e.key 16 && belowB e.val 2147483648 else e.key == 0 && e.val == 0)

/-- A slice of events. -/
def EvS (w : World) (K : Nat → Prop) (v : Value) (l : List Ev) : Prop := SlR 4 (Flat Ev.enc) w K v l

theorem EvS.keep {w w' : World} {K K' : Nat → Prop} {v : Value} {l : List Ev} (h : EvS w K v l) (ha : Agree K w w') (hk : ∀ b, K b → K' b) : EvS w' K' v l :=
  SlR.keep (Flat.stab _) h ha hk

theorem EvS.at_ {w : World} {K : Nat → Prop} {A : Option Addr} {n c : Nat} {l : List Ev} (h : EvS w K (.slice A n c) l) {i : Nat} (hi : i < l.length) :
    ∃ b off, A = some ⟨b, off, none⟩ ∧ K b ∧ w.cell? ⟨b, off + i * 4, none⟩ = some (.int .i64 l[i].kind) ∧ w.cell? ⟨b, off + i * 4 + 1, none⟩ = some (.int .i64 l[i].sess) ∧
      w.cell? ⟨b, off + i * 4 + 2, none⟩ = some (.int .i64 l[i].key) ∧ w.cell? ⟨b, off + i * 4 + 3, none⟩ = some (.int .i64 l[i].val) := by
  obtain ⟨b, off, cs, hA, hK, _, hR, hc⟩ := SlR.at_ h hi
  unfold Flat at hR
  subst hR
  exact ⟨b, off, hA, hK, hc 0 _ rfl, hc 1 _ rfl, hc 2 _ rfl, hc 3 _ rfl⟩

theorem EvS.below {w w' : World} {v : Value} {l : List Ev} (h : EvS w (Old w) v l) (hb : Below w.heap.size w w') : EvS w' (Old w') v l := SlR.below (Flat.stab _) h hb
theorem EvS.fit {w : World} {K K' : Nat → Prop} {v : Value} {l : List Ev} (h : EvS w K v l) (hk : ∀ b, K b → K' b) : EvS w K' v l := SlR.fit (Flat.stab _) h hk
theorem EvS.cells {w : World} {K : Nat → Prop} {b off n c : Nat} {l : List Ev} (h : EvS w K (.slice (some ⟨b, off, none⟩) n c) l) {i : Nat} (hi : i < l.length) :
    K b ∧ w.cell? ⟨b, off + i * 4, none⟩ = some (.int .i64 l[i].kind) ∧ w.cell? ⟨b, off + i * 4 + 1, none⟩ = some (.int .i64 l[i].sess) ∧
      w.cell? ⟨b, off + i * 4 + 2, none⟩ = some (.int .i64 l[i].key) ∧ w.cell? ⟨b, off + i * 4 + 3, none⟩ = some (.int .i64 l[i].val) := by
  obtain ⟨cs, hK, _, hR, hc⟩ := SlR.cells h hi
  unfold Flat at hR
  subst hR
  exact ⟨hK, hc 0 _ rfl, hc 1 _ rfl, hc 2 _ rfl, hc 3 _ rfl⟩

/-- A pair of numbers: a key, and a value (a take: a key, and from whom). -/
structure It where
  a : Int
  b : Int
deriving DecidableEq
def It.enc (e : It) : List Value := [.int .i64 e.a, .int .i64 e.b]

def ItS (w : World) (K : Nat → Prop) (v : Value) (l : List It) : Prop := SlR 2 (Flat It.enc) w K v l

theorem ItS.keep {w w' : World} {K K' : Nat → Prop} {v : Value} {l : List It} (h : ItS w K v l) (ha : Agree K w w') (hk : ∀ b, K b → K' b) : ItS w' K' v l :=
  SlR.keep (Flat.stab _) h ha hk

theorem ItS.below {w w' : World} {v : Value} {l : List It} (h : ItS w (Old w) v l) (hb : Below w.heap.size w w') : ItS w' (Old w') v l := SlR.below (Flat.stab _) h hb
theorem ItS.fit {w : World} {K K' : Nat → Prop} {v : Value} {l : List It} (h : ItS w K v l) (hk : ∀ b, K b → K' b) : ItS w K' v l := SlR.fit (Flat.stab _) h hk
theorem ItS.cells {w : World} {K : Nat → Prop} {b off n c : Nat} {l : List It} (h : ItS w K (.slice (some ⟨b, off, none⟩) n c) l) {i : Nat} (hi : i < l.length) :
    K b ∧ w.cell? ⟨b, off + i * 2, none⟩ = some (.int .i64 l[i].a) ∧ w.cell? ⟨b, off + i * 2 + 1, none⟩ = some (.int .i64 l[i].b) := by
  obtain ⟨cs, hK, _, hR, hc⟩ := SlR.cells h hi
  unfold Flat at hR
  subst hR
  exact ⟨hK, hc 0 _ rfl, hc 1 _ rfl⟩

theorem ItS.at_ {w : World} {K : Nat → Prop} {A : Option Addr} {n c : Nat} {l : List It} (h : ItS w K (.slice A n c) l) {i : Nat} (hi : i < l.length) :
    ∃ b off, A = some ⟨b, off, none⟩ ∧ K b ∧ w.cell? ⟨b, off + i * 2, none⟩ = some (.int .i64 l[i].a) ∧ w.cell? ⟨b, off + i * 2 + 1, none⟩ = some (.int .i64 l[i].b) := by
  obtain ⟨b, off, cs, hA, hK, _, hR, hc⟩ := SlR.at_ h hi
  unfold Flat at hR
  subst hR
  exact ⟨b, off, hA, hK, hc 0 _ rfl, hc 1 _ rfl⟩

/-- The last op of a kind and a key among the first k. -/
def aheadN (l : List Ev) (kind key : Int) : Nat → Int
  | 0 => -1
  | k + 1 => match l[k]? with
    | some e => if e.kind = kind ∧ e.key = key then k else aheadN l kind key k
    | none => aheadN l kind key k

theorem aheadN_hit {l : List Ev} {kind key : Int} {m : Nat} {x : Ev} (h : l[m]? = some x) (h1 : x.kind = kind) (h2 : x.key = key) : aheadN l kind key (m + 1) = m := by
  simp [aheadN, h, h1, h2]
theorem aheadN_miss {l : List Ev} {kind key : Int} {m : Nat} {x : Ev} (h : l[m]? = some x) (h1 : ¬ (x.kind = kind ∧ x.key = key)) : aheadN l kind key (m + 1) = aheadN l kind key m := by
  simp [aheadN, h, h1]
theorem aheadN_lt (l : List Ev) (kind key : Int) : ∀ k : Nat, -1 ≤ aheadN l kind key k ∧ aheadN l kind key k < k
  | 0 => by simp [aheadN]
  | k + 1 => by
    have := aheadN_lt l kind key k
    unfold aheadN
    split
    · split <;> omega
    · omega

/-- Does some write behind place i have this key and value? -/
def future (l : List Ev) (i : Nat) (key val : Int) : Bool := (l.drop (i + 1)).any fun x => x.kind == 2 && x.key == key && x.val == val
def valAt (l : List Ev) (k : Int) : Int := ((l[k.toNat]?).map (·.val)).getD 0

/-- What is wrong with the op e at place i, those ahead being right. -/
def wrongE (l : List Ev) (i : Nat) (e : Ev) : Int :=
  if e.right = false ∨ (e.kind ≠ 1 ∧ e.kind ≠ 2) then 1
  else if e.kind = 2 then 0
  else if 0 ≤ aheadN l 2 e.key i then (if valAt l (aheadN l 2 e.key i) = e.val then 0 else 10)
  else if 0 ≤ aheadN l 1 e.key i then (if valAt l (aheadN l 1 e.key i) = e.val then 0 else 11)
  else if future l i e.key e.val = true then 9 else 0
def wrongAt (l : List Ev) (i : Nat) : Int := match l[i]? with | some e => wrongE l i e | none => 0

/-- What a look at ops gives: what is read, what is written, the place, the error. -/
structure LookOut where
  reads : List It
  writes : List It
  at_ : Int
  err : Int

/-- The first place from k on with a key. -/
def firstI (key : Int) : List Ev → Nat → Int
  | [], _ => -1
  | x :: r, k => if x.key = key then k else firstI key r (k + 1)
def firstD (l : List Ev) (key : Int) (k : Nat) : Int := firstI key (l.drop k) k
theorem firstD_step {l : List Ev} {key : Int} {k : Nat} {x : Ev} (hx : l[k]? = some x) : firstD l key k = if x.key = key then (k : Int) else firstD l key (k + 1) := by
  have hk : k < l.length := by
    rcases Nat.lt_or_ge k l.length with h | h
    · exact h
    · rw [List.getElem?_eq_none h] at hx; cases hx
  rw [List.getElem?_eq_getElem hk] at hx
  injection hx with hx
  unfold firstD
  rw [List.drop_eq_getElem_cons hk, firstI, hx]
theorem firstD_end (l : List Ev) (key : Int) : firstD l key l.length = -1 := by simp [firstD, firstI]
theorem firstI_lt (key : Int) : ∀ (l : List Ev) (k : Nat), firstI key l k = -1 ∨ ((k : Int) ≤ firstI key l k ∧ firstI key l k < (k : Int) + l.length)
  | [], _ => .inl rfl
  | x :: r, k => by
    unfold firstI
    split
    · right; simp; omega
    · rcases firstI_lt key r (k + 1) with h | h
      · exact .inl h
      · right; simp; omega
theorem firstD_lt (l : List Ev) (key : Int) : -1 ≤ firstD l key 0 ∧ firstD l key 0 < l.length := by
  have := firstI_lt key (l.drop 0) 0
  unfold firstD
  simp only [List.drop_zero] at *
  omega

def kindAt (l : List Ev) (k : Int) : Int := ((l[k.toNat]?).map (·.kind)).getD 0
def readOf (l : List Ev) (key : Int) : Option It := if 0 ≤ firstD l key 0 ∧ kindAt l (firstD l key 0) = 1 then some ⟨key, valAt l (firstD l key 0)⟩ else none
def writeOf (l : List Ev) (key : Int) : Option It := if 0 ≤ aheadN l 2 key l.length then some ⟨key, valAt l (aheadN l 2 key l.length)⟩ else none
def readsTo (l : List Ev) (n : Nat) : List It := (List.range n).filterMap fun (k : Nat) => readOf l (k : Int)
def writesTo (l : List Ev) (n : Nat) : List It := (List.range n).filterMap fun (k : Nat) => writeOf l (k : Int)
theorem readsTo_succ (l : List Ev) (n : Nat) : readsTo l (n + 1) = readsTo l n ++ (readOf l n).toList := by
  unfold readsTo
  rw [List.range_succ, List.filterMap_append]
  congr 1
theorem writesTo_succ (l : List Ev) (n : Nat) : writesTo l (n + 1) = writesTo l n ++ (writeOf l n).toList := by
  unfold writesTo
  rw [List.range_succ, List.filterMap_append]
  congr 1
theorem readsTo_len (l : List Ev) (n : Nat) : (readsTo l n).length ≤ n := by
  unfold readsTo
  exact Nat.le_trans (List.length_filterMap_le _ _) (by simp)
theorem writesTo_len (l : List Ev) (n : Nat) : (writesTo l n).length ≤ n := by
  unfold writesTo
  exact Nat.le_trans (List.length_filterMap_le _ _) (by simp)

def firstBad (l : List Ev) : Option Nat := (List.range l.length).find? fun i => wrongAt l i != 0
theorem firstBad_some {l : List Ev} {k : Nat} (hk : k < l.length) (h : ∀ j, j < k → wrongAt l j = 0) (hb : wrongAt l k ≠ 0) : firstBad l = some k := by
  unfold firstBad
  rw [List.find?_range_eq_some]
  exact ⟨by simpa using hb, by simpa using hk, fun j hj => by simpa using h j hj⟩
theorem firstBad_none {l : List Ev} (h : ∀ j, j < l.length → wrongAt l j = 0) : firstBad l = none := by
  unfold firstBad
  rw [List.find?_eq_none]
  intro x hx
  simpa using h x (by simpa using hx)

/-- The reference's look: by definition. -/
def lookR (l : List Ev) : LookOut := match firstBad l with
  | some i => ⟨[], [], i, wrongAt l i⟩
  | none => ⟨readsTo l 16, writesTo l 16, 0, 0⟩

theorem future_step {l : List Ev} {i k : Nat} {key val : Int} {x : Ev} (hik : i < k) (hx : l[k]? = some x) :
    (l.drop k).any (fun x => x.kind == 2 && x.key == key && x.val == val) = ((x.kind == 2 && x.key == key && x.val == val) || (l.drop (k + 1)).any fun x => x.kind == 2 && x.key == key && x.val == val) := by
  have hk : k < l.length := by
    rcases Nat.lt_or_ge k l.length with h | h
    · exact h
    · rw [List.getElem?_eq_none h] at hx; cases hx
  rw [List.drop_eq_getElem_cons hk, List.any_cons]
  rw [List.getElem?_eq_getElem hk] at hx
  injection hx with hx
  rw [hx]

end Go.Inq

namespace Go.Proofs.YtfhnamomiaekdaaGreat
open Go.RowKit Go.Inq
set_option maxHeartbeats 400000

theorem is_any (n : Int) (w : World) :
    Calls Tryz.prog 114 #[.int .i64 n] w fun e w' => e = .returned (.bool (belowB n 2147483648)) ∧ w = w' := by
  by_cases h0 : 0 ≤ n
  · go_enter Tryz.func114, Tryz.ntmps114
    go_wp2
    go_ret
    exact ⟨by simp [belowB, h0]; omega, rfl⟩
  · go_enter Tryz.func114, Tryz.ntmps114
    go_wp2
    go_ret
    exact ⟨by simp [belowB]; omega, rfl⟩

end Go.Proofs.YtfhnamomiaekdaaGreat

namespace Go.Inq
open Go Go.RowKit

/-- The first number below n at which f is not 0. -/
def firstN (n : Nat) (f : Nat → Int) : Option Nat := (List.range n).find? fun i => f i != 0
theorem firstN_some {n k : Nat} {f : Nat → Int} (hk : k < n) (h : ∀ j, j < k → f j = 0) (hb : f k ≠ 0) : firstN n f = some k := by
  unfold firstN
  rw [List.find?_range_eq_some]
  exact ⟨by simpa using hb, by simpa using hk, fun j hj => by simpa using h j hj⟩
theorem firstN_none {n : Nat} {f : Nat → Int} (h : ∀ j, j < n → f j = 0) : firstN n f = none := by
  unfold firstN
  rw [List.find?_eq_none]
  intro x hx
  simpa using h x (by simpa using hx)
theorem firstN_ways (n : Nat) (f : Nat → Int) : (∃ k, k < n ∧ (∀ j, j < k → f j = 0) ∧ f k ≠ 0 ∧ firstN n f = some k) ∨ ((∀ j, j < n → f j = 0) ∧ firstN n f = none) := by
  cases h : firstN n f with
  | none =>
    refine .inr ⟨fun j hj => ?_, rfl⟩
    unfold firstN at h
    rw [List.find?_eq_none] at h
    simpa using h j (by simpa using hj)
  | some k =>
    unfold firstN at h
    rw [List.find?_range_eq_some] at h
    obtain ⟨h1, h2, h3⟩ := h
    exact .inl ⟨k, by simpa using h2, fun j hj => by simpa using h3 j hj, by simpa using h1, rfl⟩

structure Tx where
  sess : Int
  done : Bool
  first : Int
  ops : List Ev
structure Txn where
  sess : Int
  writes : List Int
  reads : List It
deriving DecidableEq

def mayE (e : Ev) : Bool := e.right && itemB e.kind
/-- A transaction may be looked at. -/
def mayT (t : Tx) : Bool := t.ops.all mayE && belowB t.sess 8
def isW (x : It) (e : Ev) : Bool := e.kind == 2 && e.key == x.a && e.val == x.b
/-- How often this is written among the first ops. -/
def wr (ops : List Ev) (many : Nat) (x : It) : Nat := ((ops.take many).filter (isW x)).length
theorem wr_zero (ops : List Ev) (x : It) : wr ops 0 x = 0 := rfl
theorem wr_step {ops : List Ev} {i : Nat} (hi : i < ops.length) (x : It) : wr ops (i + 1) x = wr ops i x + if isW x ops[i] = true then 1 else 0 := by
  unfold wr
  rw [List.take_succ_eq_append_getElem hi, List.filter_append, List.length_append]
  congr 1
  by_cases h : isW x ops[i] = true <;> simp [h]
theorem wr_le (ops : List Ev) (i : Nat) (x : It) : wr ops i x ≤ i := by
  unfold wr
  exact Nat.le_trans (List.length_filter_le _ _) (by rw [List.length_take]; omega)
def wrT (t : Tx) (x : It) : Nat := wr t.ops t.ops.length x
/-- How often the first transactions write it. -/
def sumW (l : List Tx) (n : Nat) (x : It) : Nat := ((l.take n).map fun t => wrT t x).sum
theorem sumW_step {l : List Tx} {i : Nat} (hi : i < l.length) (x : It) : sumW l (i + 1) x = sumW l i x + wrT l[i] x := by
  unfold sumW
  rw [List.take_succ_eq_append_getElem hi, List.map_append, List.sum_append]
  simp
/-- What is wrong with a write. -/
def opE (l : List Tx) (i : Nat) (ops : List Ev) (j : Nat) : Int := match ops[j]? with
  | none => 0
  | some e => if e.kind ≠ 2 then 0 else if e.val = 0 then 7 else if 0 < wr ops j ⟨e.key, e.val⟩ + sumW l i ⟨e.key, e.val⟩ then 8 else 0
/-- What is wrong with a transaction's writes. -/
def unlikeR (l : List Tx) (i : Nat) : Int := match l[i]? with
  | none => 0
  | some t => match firstN t.ops.length (opE l i t.ops) with
    | some j => opE l i t.ops j
    | none => 0
/-- A transaction's number among the committed ones. -/
def numR7 (l : List Tx) (i : Nat) : Nat := ((l.take i).filter (·.done)).length
theorem num7_step {l : List Tx} {i : Nat} (hi : i < l.length) : numR7 l (i + 1) = numR7 l i + if l[i].done = true then 1 else 0 := by
  unfold numR7
  rw [List.take_succ_eq_append_getElem hi, List.filter_append, List.length_append]
  congr 1
  by_cases h : l[i].done = true <;> simp [h]
theorem num7_le (l : List Tx) (i : Nat) : numR7 l i ≤ i := by
  unfold numR7
  exact Nat.le_trans (List.length_filter_le _ _) (by rw [List.length_take]; omega)
/-- The first transaction that writes it. -/
def whoR (l : List Tx) (x : It) : Option Nat := l.findIdx? fun t => decide (0 < wrT t x)
def middleB (ws : List It) (x : It) : Bool := ws.any fun y => y.a == x.a && y.b != x.b
/-- Whose a value of a key is. -/
def fromR (l : List Tx) (x : It) : Int × Int :=
  if x.b = 0 then (-1, 0) else match whoR l x with
    | none => (0, 12)
    | some k => match l[k]? with
      | none => (0, 12)
      | some t => if t.done = false then (0, 13) else if middleB (lookR t.ops).writes x = true then (0, 14) else ((numR7 l k : Int), 0)
/-- What is wrong with a read. -/
def readE (l : List Tx) (rs : List It) (i : Nat) : Int := match rs[i]? with | some r => (fromR l r).2 | none => 0
theorem readE_at {l : List Tx} {rs : List It} {i : Nat} (h : i < rs.length) : readE l rs i = (fromR l rs[i]).2 := by
  unfold readE; rw [List.getElem?_eq_getElem h]
/-- A committed transaction, as a history has it; or what is wrong with its reads. -/
def oneR (l : List Tx) (t : Tx) : Txn × Int :=
  let f := lookR t.ops
  match firstN f.reads.length (readE l f.reads) with
  | some i => (⟨0, [], []⟩, readE l f.reads i)
  | none => (⟨t.sess, f.writes.map (·.a), f.reads.map fun r => ⟨r.a, (fromR l r).1⟩⟩, 0)
def mayAt (l : List Tx) (i : Nat) : Int := match l[i]? with | some t => if mayT t = true then 0 else 1 | none => 0
def lookAt (l : List Tx) (i : Nat) : Int := match l[i]? with | some t => if t.done = true then (lookR t.ops).err else 0 | none => 0
def oneAt (l : List Tx) (i : Nat) : Int := match l[i]? with | some t => if t.done = true then (oneR l t).2 else 0 | none => 0
/-- The committed ones among the first. -/
def txnsTo (l : List Tx) (n : Nat) : List Txn := ((l.take n).filter (·.done)).map fun t => (oneR l t).1
theorem txnsTo_step {l : List Tx} {i : Nat} (hi : i < l.length) : txnsTo l (i + 1) = txnsTo l i ++ if l[i].done = true then [(oneR l l[i]).1] else [] := by
  unfold txnsTo
  rw [List.take_succ_eq_append_getElem hi, List.filter_append, List.map_append]
  congr 1
  by_cases h : l[i].done = true <;> simp [h]
/-- The history of transactions; or which one is wrong, and how. -/
def histR (l : List Tx) : List Txn × Int × Int :=
  if 32 < l.length then ([], 0, 4)
  else match firstN l.length (mayAt l) with
    | some i => ([], i, mayAt l i)
    | none => match firstN l.length (unlikeR l) with
      | some i => ([], i, unlikeR l i)
      | none => match firstN l.length (lookAt l) with
        | some i => ([], i, lookAt l i)
        | none => match firstN l.length (oneAt l) with
          | some i => ([], i, oneAt l i)
          | none => (txnsTo l l.length, 0, 0)
theorem histR_many {l : List Tx} (h : 32 < l.length) : histR l = ([], 0, 4) := by unfold histR; rw [if_pos h]
theorem histR_may {l : List Tx} (h : ¬ 32 < l.length) {i : Nat} (hi : i < l.length) (hj : ∀ j, j < i → mayAt l j = 0) (hb : mayAt l i ≠ 0) : histR l = ([], (i : Int), mayAt l i) := by
  unfold histR; rw [if_neg h, firstN_some hi hj hb]
theorem histR_unlike {l : List Tx} (h : ¬ 32 < l.length) (h1 : ∀ j, j < l.length → mayAt l j = 0) {i : Nat} (hi : i < l.length) (hj : ∀ j, j < i → unlikeR l j = 0) (hb : unlikeR l i ≠ 0) : histR l = ([], (i : Int), unlikeR l i) := by
  unfold histR; rw [if_neg h, firstN_none h1, firstN_some hi hj hb]
theorem histR_look {l : List Tx} (h : ¬ 32 < l.length) (h1 : ∀ j, j < l.length → mayAt l j = 0) (h2 : ∀ j, j < l.length → unlikeR l j = 0) {i : Nat} (hi : i < l.length) (hj : ∀ j, j < i → lookAt l j = 0) (hb : lookAt l i ≠ 0) : histR l = ([], (i : Int), lookAt l i) := by
  unfold histR; rw [if_neg h, firstN_none h1, firstN_none h2, firstN_some hi hj hb]
theorem histR_one {l : List Tx} (h : ¬ 32 < l.length) (h1 : ∀ j, j < l.length → mayAt l j = 0) (h2 : ∀ j, j < l.length → unlikeR l j = 0) (h3 : ∀ j, j < l.length → lookAt l j = 0) {i : Nat} (hi : i < l.length) (hj : ∀ j, j < i → oneAt l j = 0) (hb : oneAt l i ≠ 0) : histR l = ([], (i : Int), oneAt l i) := by
  unfold histR; rw [if_neg h, firstN_none h1, firstN_none h2, firstN_none h3, firstN_some hi hj hb]
theorem histR_good {l : List Tx} (h : ¬ 32 < l.length) (h1 : ∀ j, j < l.length → mayAt l j = 0) (h2 : ∀ j, j < l.length → unlikeR l j = 0) (h3 : ∀ j, j < l.length → lookAt l j = 0) (h4 : ∀ j, j < l.length → oneAt l j = 0) : histR l = (txnsTo l l.length, 0, 0) := by
  unfold histR; rw [if_neg h, firstN_none h1, firstN_none h2, firstN_none h3, firstN_none h4]
end Go.Inq

namespace Go.Inq
open Go Go.RowKit

/-- The call's own slice v holds the list l, as elements that R tells of. -/
def OwnR {α : Type} (size : Nat) (R : World → (Nat → Prop) → List Value → α → Prop) (w : World) (K : Nat → Prop) (base : Nat) (e : TypeId) (v : Value) (l : List α) : Prop :=
  ∃ ys : List (List Value), w.ownsRow base e size v l.length ys.flatten ∧ ys.length = l.length ∧ ∀ (i : Nat) cs x, ys[i]? = some cs → l[i]? = some x → cs.length = size ∧ R w K cs x

section
variable {α : Type} {size : Nat} {R : World → (Nat → Prop) → List Value → α → Prop} {w w' : World} {K K' : Nat → Prop} {base : Nat} {e : TypeId} {v : Value} {l : List α}

theorem OwnR.nil (size : Nat) (R : World → (Nat → Prop) → List Value → α → Prop) (w : World) (K : Nat → Prop) (base : Nat) (e : TypeId) : OwnR size R w K base e (.slice none 0 0) ([] : List α) :=
  ⟨[], World.ownsRow_nil _ _ _ _, rfl, fun i cs x h => by simp at h⟩

theorem OwnR.lt (h : OwnR size R w K base e v l) : ∀ k, v.ownBlock = some k → base ≤ k ∧ k < w.heap.size := by
  obtain ⟨ys, h1, _⟩ := h
  exact h1.lt

theorem OwnR.form (h : OwnR size R w K base e v l) : ∃ A c, v = .slice A l.length c := by
  obtain ⟨ys, h1, _⟩ := h
  exact own_slice h1

theorem OwnR.sl (h : OwnR size R w K base e v l) (hK : ∀ g, v.ownBlock = some g → K g) : SlR size R w K v l := by
  obtain ⟨ys, h1, h2, h3⟩ := h
  exact SlR.of_own h1 rfl rfl h2 h3 hK

/-- What holds the same in K, and in the row, keeps it. -/
theorem OwnR.keep (hR : Stab R) (h : OwnR size R w K base e v l) (ha : Agree K w w') (hk : ∀ b, K b → K' b) (hr : ∀ g, v.ownBlock = some g → w'.heap[g]? = w.heap[g]?) : OwnR size R w' K' base e v l := by
  obtain ⟨ys, h1, h2, h3⟩ := h
  refine ⟨ys, ⟨h1.1, ?_⟩, h2, fun i cs x a b => ⟨(h3 i cs x a b).1, hR _ _ _ _ _ _ (h3 i cs x a b).2 ha hk⟩⟩
  rcases h1.2 with h4 | ⟨g, cap, cur, hv, hg, hh, r⟩
  · exact .inl h4
  · exact .inr ⟨g, cap, cur, hv, hg, by rw [hr g (by rw [hv]; rfl)]; exact hh, r⟩

theorem OwnR.flat {enc : α → List Value} (h : w.ownsRow base e size v l.length (l.map enc).flatten) (hs : ∀ x, (enc x).length = size) : OwnR size (Flat enc) w K base e v l :=
  ⟨l.map enc, h, by simp, fun i cs x h1 h2 => by
    rw [List.getElem?_map, h2] at h1
    injection h1 with h1
    exact ⟨by rw [← h1]; exact hs x, h1.symm⟩⟩
end

theorem run_append_own_nil {P : Program} (w : World) (base : Nat) (t ty e : TypeId) (i : TypeInfo) (size : Nat) (ht : P.underlying t = some (.slice e)) (hi : P.info? e = some i)
    (v : Value) (n : Nat) (xs : List Value) (hown : w.ownsRow base e size v n xs) (c : Nat) :
    (Builtin.append_ #[t, t] ty #[v, .slice none 0 c]).run P w = .ok v w := by
  rcases hown.2 with ⟨rfl, rfl⟩ | ⟨g, cap, cur, rfl, _, _, hnc, _⟩
  · simp [Builtin.append_, run_underlying ht, sizeOf, typeInfo, hi, Builtin.lenOf, Builtin.firstCells]
  · simp [Builtin.append_, run_underlying ht, sizeOf, typeInfo, hi, Builtin.lenOf, Builtin.firstCells, hnc, storeCells]

theorem flatten_at {size : Nat} : ∀ (ys : List (List Value)) (j : Nat) (u : Value), (∀ (i : Nat) cs, ys[i]? = some cs → cs.length = size) → ys.flatten[j]? = some u → ∃ i k cs, j = i * size + k ∧ ys[i]? = some cs ∧ cs[k]? = some u
  | [], j, u, _, h => by simp at h
  | y :: ys, j, u, hs, h => by
    have hy := hs 0 y rfl
    rw [List.flatten_cons] at h
    rcases Nat.lt_or_ge j y.length with hj | hj
    · rw [List.getElem?_append_left hj] at h
      exact ⟨0, j, y, by simp, rfl, h⟩
    · rw [List.getElem?_append_right hj] at h
      obtain ⟨i, k, cs, h1, h2, h3⟩ := flatten_at ys (j - y.length) u (fun i cs h => hs (i + 1) cs (by simpa using h)) h
      exact ⟨i + 1, k, cs, by rw [Nat.add_mul]; omega, by simpa using h2, h3⟩

/-- append(s, x...): s of the call's own, x whatever reads as a list. -/
theorem wpList_append_list {P : Program} {w : World} {ops : Array Oper} {rest : List Oper} {o : Oper} {a : Act} {Q : Exit → Act → World → Prop} {α : Type} {R : World → (Nat → Prop) → List Value → α → Prop}
    (hgd : o.guard = none) (s x : Operand) (t : TypeId) (ho : o.op = .call { callee := .builtin .append, args := #[s, x], argTypes := #[t, t] })
    (base : Nat) (e : TypeId) (i : TypeInfo) (z : Value) (size bytes : Nat) (ht : P.underlying t = some (.slice e)) (hi : P.info? e = some i) (hz : i.zero = some z)
    (hsize : i.size = size) (hby : i.bytes = bytes) (hzs : z.cells.size = size) (hsz : 0 < size)
    (v : Value) (K : Nat → Prop) (l : List α) (hs : a.eval s = v) (hown : OwnR size R w K base e v l)
    (vx : Value) (l2 : List α) (hx : a.eval x = vx) (hsrc : SlR size R w K vx l2)
    (h1 : ∀ cs x, R w K cs x → ∀ u ∈ cs, u.oneCell' = true) (h63 : l.length + l2.length ≤ maxLen) (hbytes : (l.length + l2.length) * bytes ≤ 140737488355328) (hbase : base ≤ w.heap.size)
    (hA : ∀ w', w.grownBy w' v.ownBlock → ∀ cs x, R w K cs x → R w' K cs x)
    (h : ∀ v' w', OwnR size R w' K base e v' (l ++ l2) → w.grownBy w' v.ownBlock → (v'.ownBlock = v.ownBlock ∨ v'.ownBlock = some w.heap.size) → wpList P ops Q rest (a.put o.dst v') w') :
    wpList P ops Q (o :: rest) a w := by
  obtain ⟨ys, hy, hyl, hyR⟩ := hown
  obtain ⟨A, c, xs, rfl, hc, hxl, hxR, hxc⟩ := hsrc
  have join : ∀ w', w.grownBy w' v.ownBlock → ∀ (i : Nat) cs x, (ys ++ xs)[i]? = some cs → (l ++ l2)[i]? = some x → cs.length = size ∧ R w' K cs x := fun w' ha i cs x g1 g2 => by
    by_cases hil : i < l.length
    · rw [List.getElem?_append_left (by omega)] at g1 g2
      exact ⟨(hyR i cs x g1 g2).1, hA w' ha _ _ (hyR i cs x g1 g2).2⟩
    · rw [List.getElem?_append_right (by omega)] at g1 g2
      rw [hyl] at g1
      exact ⟨(hxR _ cs x g1 g2).1, hA w' ha _ _ (hxR _ cs x g1 g2).2⟩
  have fin : ∀ v' w', w'.ownsRow base e size v' (l.length + l2.length) (ys.flatten ++ xs.flatten) → w.grownBy w' v.ownBlock → OwnR size R w' K base e v' (l ++ l2) := fun v' w' g1 g2 =>
    ⟨ys ++ xs, by rw [List.length_append, List.flatten_append]; exact g1, by simp [hyl, hxl], join w' g2⟩
  have hlen : ∀ (i : Nat) cs, xs[i]? = some cs → cs.length = size := fun i cs g => by
    have hil : i < l2.length := by
      rw [← hxl]
      rcases Nat.lt_or_ge i xs.length with h | h
      · exact h
      · rw [List.getElem?_eq_none h] at g; cases g
    exact (hxR i cs l2[i] g (List.getElem?_eq_getElem hil)).1
  have hnl : xs.flatten.length = l2.length * size := by
    rw [← hxl]
    clear join fin hxR hxc hxl hx
    induction xs with
    | nil => simp
    | cons y ys ih =>
      rw [List.flatten_cons, List.length_append, hlen 0 y rfl, ih (fun i cs h => hlen (i + 1) cs (by simpa using h)), List.length_cons, Nat.add_mul]
      omega
  have hone : ∀ u ∈ xs.flatten, u.oneCell' = true := fun u hu => by
    obtain ⟨cs, hcs, hu⟩ := List.mem_flatten.1 hu
    obtain ⟨i, hi⟩ := List.getElem?_of_mem hcs
    have hil : i < l2.length := by
      rw [← hxl]
      rcases Nat.lt_or_ge i xs.length with h | h
      · exact h
      · rw [List.getElem?_eq_none h] at hi; cases hi
    exact h1 cs l2[i] (hxR i cs l2[i] hi (List.getElem?_eq_getElem hil)).2 u hu
  cases A with
  | some ad =>
    refine wpList_append_own_at w hgd s x t ho base e i z size bytes ht hi hz hsize hby hzs hsz v l.length ys.flatten hs hy ad l2.length c xs.flatten hx hnl (fun j u hj => ?_) hone h63 hbytes hbase (fun v' w' g1 g2 _ g3 => h v' w' (fin v' w' g1 g2) g2 g3)
    have hpos : 0 < l2.length := by
      rcases Nat.lt_or_ge 0 l2.length with h | h
      · exact h
      · have : xs = [] := List.eq_nil_of_length_eq_zero (by omega)
        subst this; simp at hj
    obtain ⟨b, off, hA, hb, hcell⟩ := hxc hpos
    injection hA with hA
    subst hA
    obtain ⟨i, k, cs, hj2, hi2, hk2⟩ := flatten_at xs j u hlen hj
    rw [Addr.add_lit, hj2, ← Nat.add_assoc]
    exact hcell i k cs u hi2 hk2
  | none =>
    have hz2 : l2 = [] := by
      rcases Nat.lt_or_ge 0 l2.length with h | h
      · obtain ⟨b, off, hA, _⟩ := hxc h; cases hA
      · exact List.eq_nil_of_length_eq_zero (by omega)
    subst hz2
    have hr := run_append_own_nil (P := P) w base t o.type e i size ht hi v l.length ys.flatten hy c
    refine wpList_plain hgd fun K' hK' => ?_
    unfold Oper.wp execOp
    simp only [ho, resolve, invoke, builtin, Sem.run_bind, Sem.run_pure, Result.andThen_ok, List.map_toArray, List.map_cons, List.map_nil, hs, hx, List.length_nil, hr]
    refine hK' _ _ (h v w (by rw [List.append_nil]; exact ⟨ys, hy, hyl, hyR⟩) ⟨rfl, rfl, rfl, Nat.le_refl _, fun _ _ _ => rfl⟩ (.inl rfl))

theorem OwnR.raw {α : Type} {size : Nat} {enc : α → List Value} {w : World} {K : Nat → Prop} {base : Nat} {e : TypeId} {v : Value} {l : List α} (h : OwnR size (Flat enc) w K base e v l) : w.ownsRow base e size v l.length (l.map enc).flatten := by
  obtain ⟨ys, h1, h2, h3⟩ := h
  have : ys = l.map enc := by
    refine List.ext_getElem (by simp [h2]) fun i g1 g2 => ?_
    have := (h3 i _ _ (List.getElem?_eq_getElem g1) (List.getElem?_eq_getElem (by omega))).2
    rw [List.getElem_map]
    exact this
  rw [← this]
  exact h1

/-- The same, of elements that are told by their cells alone. -/
theorem wpList_append_flat {P : Program} {w : World} {ops : Array Oper} {rest : List Oper} {o : Oper} {a : Act} {Q : Exit → Act → World → Prop} {α : Type} {enc : α → List Value}
    (hgd : o.guard = none) (s x : Operand) (t : TypeId) (ho : o.op = .call { callee := .builtin .append, args := #[s, x], argTypes := #[t, t] })
    (base : Nat) (e : TypeId) (i : TypeInfo) (z : Value) (size bytes : Nat) (ht : P.underlying t = some (.slice e)) (hi : P.info? e = some i) (hz : i.zero = some z)
    (hsize : i.size = size) (hby : i.bytes = bytes) (hzs : z.cells.size = size) (hsz : 0 < size)
    (v : Value) (K : Nat → Prop) (l : List α) (hs : a.eval s = v) (hown : w.ownsRow base e size v l.length (l.map enc).flatten) (hen : ∀ x, (enc x).length = size)
    (vx : Value) (l2 : List α) (hx : a.eval x = vx) (hsrc : SlR size (Flat enc) w K vx l2)
    (h1 : ∀ x, ∀ u ∈ enc x, u.oneCell' = true) (h63 : l.length + l2.length ≤ maxLen) (hbytes : (l.length + l2.length) * bytes ≤ 140737488355328) (hbase : base ≤ w.heap.size)
    (h : ∀ v' w', w'.ownsRow base e size v' (l ++ l2).length ((l ++ l2).map enc).flatten → w.grownBy w' v.ownBlock → (v'.ownBlock = v.ownBlock ∨ v'.ownBlock = some w.heap.size) → wpList P ops Q rest (a.put o.dst v') w') :
    wpList P ops Q (o :: rest) a w :=
  wpList_append_list hgd s x t ho base e i z size bytes ht hi hz hsize hby hzs hsz v K l hs (OwnR.flat hown hen) vx l2 hx hsrc (fun cs x g u hu => h1 x u (by unfold Flat at g; rw [← g]; exact hu)) h63 hbytes hbase
    (fun _ _ _ _ g => g) fun v' w' g1 g2 g3 => h v' w' g1.raw g2 g3

/-- A block of one element, as a slice of one. -/
theorem SlR.one {α : Type} {size : Nat} {R : World → (Nat → Prop) → List Value → α → Prop} {w : World} {K : Nat → Prop} {g : Nat} {t : TypeId} {cs : Array Value} {x : α} (h : Blk w g t cs) (hl : cs.size = size) (hR : R w K cs.toList x) (hK : K g) :
    SlR size R w K (.slice (some ⟨g, 0, none⟩) 1 1) [x] := by
  refine ⟨some ⟨g, 0, none⟩, 1, [cs.toList], rfl, by simp, rfl, fun i ds y h1 h2 => ?_, fun _ => ⟨g, 0, rfl, hK, fun i j ds u h1 h2 => ?_⟩⟩
  · cases i with
    | zero => simp at h1 h2; subst h1 h2; exact ⟨by simpa using hl, hR⟩
    | succ i => simp at h1
  · cases i with
    | zero =>
      simp at h1; subst h1
      have := h.cell j
      simp only [Nat.zero_mul, Nat.zero_add]
      rw [this]
      simpa using h2
    | succ i => simp at h1
end Go.Inq

namespace Go.Inq
open Go Go.RowKit

def encI (n : Int) : List Value := [.int .i64 n]
/-- A slice of numbers. -/
def IntS (w : World) (K : Nat → Prop) (v : Value) (l : List Int) : Prop := SlR 1 (Flat Go.Inq.encI) w K v l

section
variable {w w' : World} {K K' : Nat → Prop} {v : Value} {l : List Int}
theorem IntS.keep (h : IntS w K v l) (ha : Agree K w w') (hk : ∀ b, K b → K' b) : IntS w' K' v l := SlR.keep (Flat.stab _) h ha hk
theorem IntS.below (h : IntS w (Old w) v l) (hb : Below w.heap.size w w') : IntS w' (Old w') v l := SlR.below (Flat.stab _) h hb
theorem IntS.fit (h : IntS w K v l) (hk : ∀ b, K b → K' b) : IntS w K' v l := SlR.fit (Flat.stab _) h hk
theorem IntS.form (h : IntS w K v l) : ∃ A c, v = .slice A l.length c := by
  obtain ⟨A, c, hv, _⟩ := SlR.len h
  exact ⟨A, c, hv⟩
theorem IntS.at_ {A : Option Addr} {n c : Nat} (h : IntS w K (.slice A n c) l) {i : Nat} (hi : i < l.length) : ∃ b off, A = some ⟨b, off, none⟩ ∧ K b ∧ w.cell? ⟨b, off + i, none⟩ = some (.int .i64 l[i]) := by
  obtain ⟨b, off, cs, hA, hK, _, hR, hc⟩ := SlR.at_ h hi
  unfold Flat at hR
  subst hR
  have := hc 0 _ rfl
  rw [Nat.mul_one, Nat.add_zero] at this
  exact ⟨b, off, hA, hK, this⟩
theorem IntS.cells {b off n c : Nat} (h : IntS w K (.slice (some ⟨b, off, none⟩) n c) l) {i : Nat} (hi : i < l.length) : K b ∧ w.cell? ⟨b, off + i, none⟩ = some (.int .i64 l[i]) := by
  obtain ⟨cs, hK, _, hR, hc⟩ := SlR.cells h hi
  unfold Flat at hR
  subst hR
  have := hc 0 _ rfl
  rw [Nat.mul_one, Nat.add_zero] at this
  exact ⟨hK, this⟩
theorem IntS.nil (w : World) (K : Nat → Prop) (A : Option Addr) (c : Nat) : IntS w K (.slice A 0 c) [] := SlR.nil _ _ _ _ _ _
/-- A block of numbers, whole. -/
theorem IntS.of_blk {g : Nat} {t : TypeId} (h : Blk w g t (l.map (Value.int .i64)).toArray) (hK : K g) : IntS w K (.slice (some ⟨g, 0, none⟩) l.length l.length) l := by
  refine ⟨some ⟨g, 0, none⟩, l.length, l.map Go.Inq.encI, rfl, Nat.le_refl _, by simp, fun i cs x h1 h2 => ?_, fun _ => ⟨g, 0, rfl, hK, fun i j cs u h1 h2 => ?_⟩⟩
  · rw [List.getElem?_map, h2] at h1
    injection h1 with h1
    exact ⟨by rw [← h1]; rfl, h1.symm⟩
  · rw [List.getElem?_map] at h1
    cases hl : l[i]? with
    | none => rw [hl] at h1; cases h1
    | some x =>
      rw [hl] at h1
      injection h1 with h1
      subst h1
      cases j with
      | zero =>
        injection h2 with h2
        rw [Nat.zero_add, Nat.mul_one, Nat.add_zero, h.cell, List.getElem?_toArray, List.getElem?_map, hl, ← h2]
        rfl
      | succ j => simp [Go.Inq.encI] at h2
end
theorem encI_one : ∀ (x : Int), ∀ u ∈ Go.Inq.encI x, u.oneCell' = true := by
  intro x u hu
  simp [Go.Inq.encI] at hu
  subst hu
  rfl
end Go.Inq

namespace Go.Inq
open Go Go.RowKit

theorem SlR.form {α : Type} {size : Nat} {R : World → (Nat → Prop) → List Value → α → Prop} {w : World} {K : Nat → Prop} {v : Value} {l : List α} (h : SlR size R w K v l) : ∃ A c, v = .slice A l.length c := by
  obtain ⟨A, c, hv, _⟩ := SlR.len h
  exact ⟨A, c, hv⟩
/-- A transaction's cells. -/
def TxR (w : World) (K : Nat → Prop) (cs : List Value) (t : Tx) : Prop := ∃ vo, cs = [.int .i64 t.sess, .bool t.done, .int .i64 t.first, vo] ∧ EvS w K vo t.ops
theorem TxR.stab : Stab TxR := fun _ _ _ _ _ _ h ha hk => by
  obtain ⟨vo, h1, h2⟩ := h
  exact ⟨vo, h1, EvS.keep h2 ha hk⟩
theorem TxR.one {w : World} {K : Nat → Prop} {cs : List Value} {t : Tx} (h : TxR w K cs t) : ∀ u ∈ cs, u.oneCell' = true := by
  obtain ⟨vo, rfl, h2⟩ := h
  obtain ⟨A, c, rfl⟩ := SlR.form h2
  intro u hu
  simp at hu
  rcases hu with rfl | rfl | rfl | rfl <;> rfl
/-- A slice of transactions. -/
def TxS (w : World) (K : Nat → Prop) (v : Value) (l : List Tx) : Prop := SlR 4 TxR w K v l
section
variable {w w' : World} {K K' : Nat → Prop} {v : Value} {l : List Tx}
theorem TxS.keep (h : TxS w K v l) (ha : Agree K w w') (hk : ∀ b, K b → K' b) : TxS w' K' v l := SlR.keep TxR.stab h ha hk
theorem TxS.below (h : TxS w (Old w) v l) (hb : Below w.heap.size w w') : TxS w' (Old w') v l := SlR.below TxR.stab h hb
theorem TxS.fit (h : TxS w K v l) (hk : ∀ b, K b → K' b) : TxS w K' v l := SlR.fit TxR.stab h hk
theorem TxS.at_ {A : Option Addr} {n c : Nat} (h : TxS w K (.slice A n c) l) {i : Nat} (hi : i < l.length) :
    ∃ b off A' c', A = some ⟨b, off, none⟩ ∧ K b ∧ w.cell? ⟨b, off + i * 4, none⟩ = some (.int .i64 l[i].sess) ∧ w.cell? ⟨b, off + i * 4 + 1, none⟩ = some (.bool l[i].done) ∧
      w.cell? ⟨b, off + i * 4 + 2, none⟩ = some (.int .i64 l[i].first) ∧ w.cell? ⟨b, off + i * 4 + 3, none⟩ = some (.slice A' l[i].ops.length c') ∧ EvS w K (.slice A' l[i].ops.length c') l[i].ops := by
  obtain ⟨b, off, cs, hA, hK, _, ⟨vo, hcs, hev⟩, hc⟩ := SlR.at_ h hi
  obtain ⟨A', c', rfl⟩ := SlR.form hev
  subst hcs
  exact ⟨b, off, A', c', hA, hK, hc 0 _ rfl, hc 1 _ rfl, hc 2 _ rfl, hc 3 _ rfl, hev⟩
end
/-- A history's transaction's cells. -/
def TxnR (w : World) (K : Nat → Prop) (cs : List Value) (t : Txn) : Prop := ∃ vw vr, cs = [.int .i64 t.sess, vw, vr] ∧ IntS w K vw t.writes ∧ ItS w K vr t.reads
theorem TxnR.stab : Stab TxnR := fun _ _ _ _ _ _ h ha hk => by
  obtain ⟨vw, vr, h1, h2, h3⟩ := h
  exact ⟨vw, vr, h1, IntS.keep h2 ha hk, ItS.keep h3 ha hk⟩
theorem TxnR.one {w : World} {K : Nat → Prop} {cs : List Value} {t : Txn} (h : TxnR w K cs t) : ∀ u ∈ cs, u.oneCell' = true := by
  obtain ⟨vw, vr, rfl, h2, h3⟩ := h
  obtain ⟨A, c, rfl⟩ := SlR.form h2
  obtain ⟨A', c', rfl⟩ := SlR.form h3
  intro u hu
  simp at hu
  rcases hu with rfl | rfl | rfl <;> rfl
/-- A slice of a history's transactions. -/
def TxnS (w : World) (K : Nat → Prop) (v : Value) (l : List Txn) : Prop := SlR 3 TxnR w K v l
section
variable {w w' : World} {K K' : Nat → Prop} {v : Value} {l : List Txn}
theorem TxnS.keep (h : TxnS w K v l) (ha : Agree K w w') (hk : ∀ b, K b → K' b) : TxnS w' K' v l := SlR.keep TxnR.stab h ha hk
theorem TxnS.below (h : TxnS w (Old w) v l) (hb : Below w.heap.size w w') : TxnS w' (Old w') v l := SlR.below TxnR.stab h hb
theorem TxnS.fit (h : TxnS w K v l) (hk : ∀ b, K b → K' b) : TxnS w K' v l := SlR.fit TxnR.stab h hk
theorem TxnS.nil (w : World) (K : Nat → Prop) (A : Option Addr) (c : Nat) : TxnS w K (.slice A 0 c) [] := SlR.nil _ _ _ _ _ _
theorem TxnS.at_ {A : Option Addr} {n c : Nat} (h : TxnS w K (.slice A n c) l) {i : Nat} (hi : i < l.length) :
    ∃ b off Aw cw Ar cr, A = some ⟨b, off, none⟩ ∧ K b ∧ w.cell? ⟨b, off + i * 3, none⟩ = some (.int .i64 l[i].sess) ∧ w.cell? ⟨b, off + i * 3 + 1, none⟩ = some (.slice Aw l[i].writes.length cw) ∧
      w.cell? ⟨b, off + i * 3 + 2, none⟩ = some (.slice Ar l[i].reads.length cr) ∧ IntS w K (.slice Aw l[i].writes.length cw) l[i].writes ∧ ItS w K (.slice Ar l[i].reads.length cr) l[i].reads := by
  obtain ⟨b, off, cs, hA, hK, _, ⟨vw, vr, hcs, h1, h2⟩, hc⟩ := SlR.at_ h hi
  obtain ⟨Aw, cw, rfl⟩ := SlR.form h1
  obtain ⟨Ar, cr, rfl⟩ := SlR.form h2
  subst hcs
  exact ⟨b, off, Aw, cw, Ar, cr, hA, hK, hc 0 _ rfl, hc 1 _ rfl, hc 2 _ rfl, h1, h2⟩
end
end Go.Inq

namespace Go.Proofs.YtfhnamomiaekdaaGreat
open Go.RowKit Go.Inq
set_option maxHeartbeats 1000000
attribute [local go_sem ↓] Go.wp_at_zero Go.wp_at_succ

theorem ints_any (A A' : Option Addr) (c c' : Nat) (l l' : List Int) (w : World) (h : IntS w (Old w) (.slice A l.length c) l) (h' : IntS w (Old w) (.slice A' l'.length c') l') (hn : l.length ≤ 1000000) (hn' : l'.length ≤ 1000000) :
    Calls Tryz.prog 81 #[.slice A l.length c, .slice A' l'.length c'] w fun e w' => e = .returned (.bool (decide (l = l'))) ∧ Below w.heap.size w w' := by
  rcases Nat.decEq l.length l'.length with hlen | hlen
  rotate_left
  · rw [← hlen] at h' ⊢
    have hlen2 := hide hlen
    clear hn' hlen
    go_enter Tryz.func81, Tryz.ntmps81
    go_wp2
    go_loopw [5] (fun s5 wr => ∃ i : Nat, i ≤ l.length ∧ s5 = .int .i64 i ∧ Hid (∀ j (hj : j < l.length) (hj' : j < l'.length), j < i → l[j] = l'[j]) ∧ Below w.heap.size w wr) (fun s5 _ => l.length - (intOf s5).toNat)
    case atStart => exact ⟨0, Nat.zero_le _, by go_num, fun j _ _ h => absurd h (by omega), Below.refl _ _⟩
    case round =>
      obtain ⟨i, hi, rfl, hall, hb⟩ := hrel
      by_cases hlt : i < l.length
      · have hlt' : i < l'.length := by have := hlen2.out; omega
        have hw := IntS.below h hb
        have hw' := IntS.below h' hb
        obtain ⟨b, off, rfl, hbK, c0⟩ := IntS.at_ hw hlt
        obtain ⟨b', off', rfl, hbK', d0⟩ := IntS.at_ hw' hlt'
        have hi1 : (0 : Int) ≤ (i : Int) := Int.natCast_nonneg _
        have hi2 : (i : Int) < (l.length : Int) := by omega
        by_cases he : l[i] = l'[i]
        · have hstep : Hid (∀ j (hj : j < l.length) (hj' : j < l'.length), j < i + 1 → l[j] = l'[j]) := fun j hj hj' hji => by
            by_cases hje : j = i
            · subst hje; exact he
            · exact hall.out j hj hj' (by omega)
          rw [← he] at d0
          clear he
          generalize l[i] = x at *
          go_wp2
          go_quiet (fail)
          go_wp2
          go_roundw
          case rel => exact ⟨i + 1, by omega, by go_num, hstep, ⟨hb.os, hb.tape, hb.output, hb.size, hb.block⟩⟩
          case measure => simp [intOf]; omega
        · have hf : l ≠ l' := fun e => he (by subst e; rfl)
          replace hf := hide hf
          have hne : (l[i] != l'[i]) = true := by simpa using he
          clear he
          generalize l[i] = x at *
          generalize l'[i] = x' at *
          go_wp2
          go_quiet (fail)
          go_wp2
          go_ret
          exact ⟨by simp [hf.out], ⟨hb.os, hb.tape, hb.output, hb.size, hb.block⟩⟩
      · have he : l = l' := List.ext_getElem hlen2.out (fun j h1 h2 => hall.out j h1 h2 (by omega))
        have : i = l.length := by omega
        subst this
        go_wp2
        go_ret
        exact ⟨by simp [he], hb⟩
  · have hf : l ≠ l' := fun e => hlen (by rw [e])
    go_enter Tryz.func81, Tryz.ntmps81
    go_wp2
    go_ret
    exact ⟨by simp [hf], Below.refl _ _⟩

theorem takes_any (A A' : Option Addr) (c c' : Nat) (l l' : List It) (w : World) (h : ItS w (Old w) (.slice A l.length c) l) (h' : ItS w (Old w) (.slice A' l'.length c') l') (hn : l.length ≤ 1000000) (hn' : l'.length ≤ 1000000) :
    Calls Tryz.prog 137 #[.slice A l.length c, .slice A' l'.length c'] w fun e w' => e = .returned (.bool (decide (l = l'))) ∧ Below w.heap.size w w' := by
  rcases Nat.decEq l.length l'.length with hlen | hlen
  rotate_left
  · rw [← hlen] at h' ⊢
    have hlen2 := hide hlen
    clear hn' hlen
    go_enter Tryz.func137, Tryz.ntmps137
    go_wp2
    go_loopw [5] (fun s5 wr => ∃ i : Nat, i ≤ l.length ∧ s5 = .int .i64 i ∧ Hid (∀ j (hj : j < l.length) (hj' : j < l'.length), j < i → l[j] = l'[j]) ∧ Below w.heap.size w wr) (fun s5 _ => l.length - (intOf s5).toNat)
    case atStart => exact ⟨0, Nat.zero_le _, by go_num, fun j _ _ h => absurd h (by omega), Below.refl _ _⟩
    case round =>
      obtain ⟨i, hi, rfl, hall, hb⟩ := hrel
      by_cases hlt : i < l.length
      · have hlt' : i < l'.length := by have := hlen2.out; omega
        have hw := ItS.below h hb
        have hw' := ItS.below h' hb
        obtain ⟨b, off, rfl, hbK, c0, c1⟩ := ItS.at_ hw hlt
        obtain ⟨b', off', rfl, hbK', d0, d1⟩ := ItS.at_ hw' hlt'
        have hi1 : (0 : Int) ≤ (i : Int) := Int.natCast_nonneg _
        have hi2 : (i : Int) < (l.length : Int) := by omega
        by_cases he : l[i] = l'[i]
        · have hstep : Hid (∀ j (hj : j < l.length) (hj' : j < l'.length), j < i + 1 → l[j] = l'[j]) := fun j hj hj' hji => by
            by_cases hje : j = i
            · subst hje; exact he
            · exact hall.out j hj hj' (by omega)
          rw [← he] at d0 d1
          clear he
          generalize l[i] = x at *
          go_wp2
          go_quiet (fail)
          go_wp2
          go_roundw
          case rel => exact ⟨i + 1, by omega, by go_num, hstep, ⟨hb.os, hb.tape, hb.output, hb.size, hb.block⟩⟩
          case measure => simp [intOf]; omega
        · have hf : l ≠ l' := fun e => he (by subst e; rfl)
          replace hf := hide hf
          generalize l[i] = x at *
          generalize l'[i] = x' at *
          have hways : (x.a == x'.a) = false ∨ ((x.a == x'.a) = true ∧ (x.b == x'.b) = false) := by
            obtain ⟨a0, a1⟩ := x
            obtain ⟨b0, b1⟩ := x'
            simp only [It.mk.injEq] at he
            simp only [beq_iff_eq, beq_eq_false_iff_ne]
            omega
          clear he
          rcases hways with q1 | ⟨q1, q2⟩
          all_goals (
            go_wp2
            go_quiet (fail)
            go_wp2
            go_ret
            exact ⟨by simp [hf.out], ⟨hb.os, hb.tape, hb.output, hb.size, hb.block⟩⟩)
      · have he : l = l' := List.ext_getElem hlen2.out (fun j h1 h2 => hall.out j h1 h2 (by omega))
        have : i = l.length := by omega
        subst this
        go_wp2
        go_ret
        exact ⟨by simp [he], hb⟩
  · have hf : l ≠ l' := fun e => hlen (by rw [e])
    go_enter Tryz.func137, Tryz.ntmps137
    go_wp2
    go_ret
    exact ⟨by simp [hf], Below.refl _ _⟩

/-- A history's row, of few, and short. -/
def SmallH (l : List Txn) : Prop := l.length ≤ 1000000 ∧ ∀ t ∈ l, t.writes.length ≤ 1000000 ∧ t.reads.length ≤ 1000000
set_option maxHeartbeats 2000000 in
theorem same07_any (A A' : Option Addr) (c c' : Nat) (l l' : List Txn) (w : World) (h : TxnS w (Old w) (.slice A l.length c) l) (h' : TxnS w (Old w) (.slice A' l'.length c') l') (hn : SmallH l) (hn' : SmallH l') :
    Calls Tryz.prog 77 #[.agg #[.slice A l.length c], .agg #[.slice A' l'.length c']] w fun e w' => e = .returned (.bool (decide (l = l'))) ∧ Below w.heap.size w w' := by
  have hA : Below w.heap.size w ((w.alloc (.cells #[.slice A l.length c] 24)).alloc (.cells #[.slice A' l'.length c'] 24)) := ((Below.refl _ _).alloc (Nat.le_refl _) _).alloc (by simp) _
  have k0 : Blk ((w.alloc (.cells #[.slice A l.length c] 24)).alloc (.cells #[.slice A' l'.length c'] 24)) w.heap.size 24 #[.slice A l.length c] := (Blk.new _ _ _).alloc _
  have k1 : Blk ((w.alloc (.cells #[.slice A l.length c] 24)).alloc (.cells #[.slice A' l'.length c'] 24)) (w.heap.size + 1) 24 #[.slice A' l'.length c'] := by
    have := Blk.new (w.alloc (.cells #[.slice A l.length c] 24)) 24 #[.slice A' l'.length c']
    simpa using this
  rcases Nat.decEq l.length l'.length with hlen | hlen
  rotate_left
  · rw [← hlen] at h' k1 hA k0 ⊢
    have hlen2 := hide hlen
    have hn1 := hn.1
    replace hn := hide hn.2
    replace hn' := hide hn'.2
    clear hlen
    go_enter Tryz.func77, Tryz.ntmps77
    go_wp2_with fail
    generalize hW : (w.alloc (.cells #[.slice A l.length c] 24)).alloc (.cells #[.slice A' l.length c'] 24) = W at *
    clear hW
    go_loopw [5, 6, 7, 8, 9] (fun s5 _ _ _ _ wr => ∃ i : Nat, i ≤ l.length ∧ s5 = .int .i64 i ∧ Blk wr w.heap.size 24 #[.slice A l.length c] ∧ Blk wr (w.heap.size + 1) 24 #[.slice A' l.length c'] ∧ Hid (∀ j (hj : j < l.length) (hj' : j < l'.length), j < i → l[j] = l'[j]) ∧ Below w.heap.size w wr) (fun s5 _ _ _ _ _ => l.length - (intOf s5).toNat)
    case atStart => exact ⟨0, Nat.zero_le _, by go_num, k0, k1, fun j _ _ h => absurd h (by omega), hA⟩
    case round =>
      obtain ⟨i, hi, rfl, m0, m1, hall, hb⟩ := hrel
      clear k0 k1 hA
      have e0 := m0.cell 0
      have e1 := m1.cell 0
      simp only [List.getElem?_toArray, List.getElem?_cons_zero] at e0 e1
      by_cases hlt : i < l.length
      · have hlt' : i < l'.length := by have := hlen2.out; omega
        have hw := TxnS.below h hb
        have hw' := TxnS.below h' hb
        obtain ⟨b, off, Aw, cw, Ar, cr, rfl, hbK, c0, c1, c2, hw1, hr1⟩ := TxnS.at_ hw hlt
        obtain ⟨b', off', Aw', cw', Ar', cr', rfl, hbK', d0, d1, d2, hw2, hr2⟩ := TxnS.at_ hw' hlt'
        have hi1 : (0 : Int) ≤ (i : Int) := Int.natCast_nonneg _
        have hi2 : (i : Int) < (l.length : Int) := by omega
        have hsx := hide (hn.out _ (List.getElem_mem hlt))
        have hsy := hide (hn'.out _ (List.getElem_mem hlt'))
        have hstep : l[i] = l'[i] → ∀ j (hj : j < l.length) (hj' : j < l'.length), j < i + 1 → l[j] = l'[j] := fun he j hj hj' hji => by
          by_cases hje : j = i
          · subst hje; exact he
          · exact hall.out j hj hj' (by omega)
        have hff : l[i] ≠ l'[i] → l ≠ l' := fun he e => he (by subst e; rfl)
        replace hstep := hide hstep
        replace hff := hide hff
        generalize l[i] = x at *
        generalize l'[i] = y at *
        obtain ⟨xs, xw, xr⟩ := x
        obtain ⟨ys, yw, yr⟩ := y
        dsimp only at *
        have hA2 : Below wr.heap.size wr ((wr.alloc (.cells #[.int .i64 xs, .slice Aw xw.length cw, .slice Ar xr.length cr] 86)).alloc (.cells #[.int .i64 ys, .slice Aw' yw.length cw', .slice Ar' yr.length cr'] 86)) := ((Below.refl _ _).alloc (Nat.le_refl _) _).alloc (by simp) _
        have j0 : Blk ((wr.alloc (.cells #[.int .i64 xs, .slice Aw xw.length cw, .slice Ar xr.length cr] 86)).alloc (.cells #[.int .i64 ys, .slice Aw' yw.length cw', .slice Ar' yr.length cr'] 86)) wr.heap.size 86 #[.int .i64 xs, .slice Aw xw.length cw, .slice Ar xr.length cr] := (Blk.new _ _ _).alloc _
        have j1 : Blk ((wr.alloc (.cells #[.int .i64 xs, .slice Aw xw.length cw, .slice Ar xr.length cr] 86)).alloc (.cells #[.int .i64 ys, .slice Aw' yw.length cw', .slice Ar' yr.length cr'] 86)) (wr.heap.size + 1) 86 #[.int .i64 ys, .slice Aw' yw.length cw', .slice Ar' yr.length cr'] := by
          have := Blk.new (wr.alloc (.cells #[.int .i64 xs, .slice Aw xw.length cw, .slice Ar xr.length cr] 86)) 86 #[.int .i64 ys, .slice Aw' yw.length cw', .slice Ar' yr.length cr']
          simpa using this
        have n0 := (m0.below hA2 m0.lt)
        have n1 := (m1.below hA2 m1.lt)
        replace hw1 := IntS.below hw1 hA2
        replace hw2 := IntS.below hw2 hA2
        replace hr1 := ItS.below hr1 hA2
        replace hr2 := ItS.below hr2 hA2
        have hb2 := hb.trans (hA2.mono hb.size)
        have e1' := (m1.alloc (.cells #[.int .i64 xs, .slice Aw xw.length cw, .slice Ar xr.length cr] 86)).cell 0
        simp only [List.getElem?_toArray, List.getElem?_cons_zero] at e1'
        have hq : Below wr.heap.size wr (wr.alloc (.cells #[.int .i64 xs, .slice Aw xw.length cw, .slice Ar xr.length cr] 86)) := (Below.refl _ _).alloc (Nat.le_refl _) _
        have d0' := (hq.cell (p := ⟨b', off' + i * 3, none⟩) hbK').trans d0
        have d1' := (hq.cell (p := ⟨b', off' + i * 3 + 1, none⟩) hbK').trans d1
        have d2' := (hq.cell (p := ⟨b', off' + i * 3 + 2, none⟩) hbK').trans d2
        clear hq d0 d1 d2 hw hw' h h'
        go_wp2_with fail
        generalize hW1 : (wr.alloc (.cells #[.int .i64 xs, .slice Aw xw.length cw, .slice Ar xr.length cr] 86)).alloc (.cells #[.int .i64 ys, .slice Aw' yw.length cw', .slice Ar' yr.length cr'] 86) = W1 at *
        clear hW1 hA2 m0 m1 e0 e1 e1' c0 c1 c2 d0' d1' d2'
        have a0 := j0.cell 0
        have a1 := j0.cell 1
        have a2 := j0.cell 2
        have b0 := j1.cell 0
        have b1 := j1.cell 1
        have b2 := j1.cell 2
        simp only [List.getElem?_toArray, List.getElem?_cons_zero, List.getElem?_cons_succ] at a0 a1 a2 b0 b1 b2
        refine (ints_any Aw Aw' cw cw' xw yw W1 hw1 hw2 hsx.out.1 hsy.out.1).mono ?_
        rintro e w5 ⟨rfl, hb5⟩
        have p0 := n0.below hb5 n0.lt
        have p1 := n1.below hb5 n1.lt
        have q0 := j0.below hb5 j0.lt
        have q1 := j1.below hb5 j1.lt
        replace hr1 := ItS.below hr1 hb5
        replace hr2 := ItS.below hr2 hb5
        have hb6 := hb2.trans (hb5.mono hb2.size)
        clear hb5 n0 n1 j0 j1 a0 a1 a2 b0 b1 b2 hw1 hw2 hb2 hb
        have a0 := q0.cell 0
        have a2 := q0.cell 2
        have b0 := q1.cell 0
        have b2 := q1.cell 2
        simp only [List.getElem?_toArray, List.getElem?_cons_zero, List.getElem?_cons_succ] at a0 a2 b0 b2
        go_wp2_with fail
        refine (takes_any Ar Ar' cr cr' xr yr w5 hr1 hr2 hsx.out.2 hsy.out.2).mono ?_
        rintro e w6 ⟨rfl, hb7⟩
        have p2 := p0.below hb7 p0.lt
        have p3 := p1.below hb7 p1.lt
        have q2 := q0.below hb7 q0.lt
        have q3 := q1.below hb7 q1.lt
        have hb8 := hb6.trans (hb7.mono hb6.size)
        clear hb7 p0 p1 q0 q1 a0 a2 b0 b2 hr1 hr2 hb6
        have a0 := q2.cell 0
        have b0 := q3.cell 0
        simp only [List.getElem?_toArray, List.getElem?_cons_zero, List.getElem?_cons_succ] at a0 b0
        clear q2 q3
        by_cases g1 : xs = ys
        · subst g1
          by_cases g2 : xw = yw
          · subst g2
            by_cases g3 : xr = yr
            · subst g3
              have hst := hide (hstep.out rfl)
              simp only [decide_true]
              go_wp2
              go_roundw
              case rel => exact ⟨i + 1, by omega, by go_num, p2, p3, hst, hb8⟩
              case measure => simp [intOf]; omega
            · have hne := hide (hff.out (by simp [g3]))
              rw [decide_eq_false g3]
              simp only [decide_true]
              go_wp2
              go_ret
              exact ⟨by simp [hne.out], hb8⟩
          · have hne := hide (hff.out (by simp [g2]))
            rw [decide_eq_false g2]
            go_wp2
            go_ret
            exact ⟨by simp [hne.out], hb8⟩
        · have hne := hide (hff.out (by simp [g1]))
          have hg : (xs != ys) = true := by simpa using g1
          go_wp2
          go_ret
          exact ⟨by simp [hne.out], hb8⟩
      · have he : l = l' := List.ext_getElem hlen2.out (fun j h1 h2 => hall.out j h1 h2 (by omega))
        have : i = l.length := by omega
        subst this
        go_wp2
        go_ret
        exact ⟨by simp [he], hb⟩
  · have hf : l ≠ l' := fun e => hlen (by rw [e])
    go_enter Tryz.func77, Tryz.ntmps77
    go_wp2
    go_ret
    exact ⟨by simp [hf], hA⟩
end Go.Proofs.YtfhnamomiaekdaaGreat

namespace Go.Inq
open Go Go.RowKit

/-- The last transaction of a session. -/
def lastIx : List Tx → Int → Option Nat
  | [], _ => none
  | t :: r, s => match lastIx r s with
    | some k => some (k + 1)
    | none => if t.sess = s then some 0 else none
theorem lastIx_lt {l : List Tx} {s : Int} {k : Nat} (h : lastIx l s = some k) : ∃ hk : k < l.length, l[k].sess = s := by
  induction l generalizing k with
  | nil => cases h
  | cons t r ih =>
    unfold lastIx at h
    cases hr : lastIx r s with
    | some j =>
      rw [hr] at h
      injection h with h
      subst h
      obtain ⟨hj, he⟩ := ih hr
      exact ⟨by simp; omega, by simpa using he⟩
    | none =>
      rw [hr] at h
      dsimp only at h
      split at h
      · injection h with h; subst h; exact ⟨by simp, by simpa using by assumption⟩
      · cases h
theorem lastIx_snoc (l : List Tx) (t : Tx) (s : Int) : lastIx (l ++ [t]) s = if t.sess = s then some l.length else lastIx l s := by
  induction l with
  | nil => simp [lastIx]
  | cons u r ih =>
    rw [List.cons_append, lastIx, ih]
    by_cases h : t.sess = s
    · rw [if_pos h, if_pos h]; simp
    · rw [if_neg h, if_neg h, lastIx]
theorem lastIx_set {l : List Tx} {k : Nat} {t : Tx} (h : ∀ u, l[k]? = some u → t.sess = u.sess) (s : Int) : lastIx (l.set k t) s = lastIx l s := by
  induction l generalizing k with
  | nil => rfl
  | cons u r ih =>
    cases k with
    | zero =>
      have := h u rfl
      rw [List.set_cons_zero, lastIx, lastIx, this]
    | succ k =>
      rw [List.set_cons_succ, lastIx, lastIx, ih (fun v hv => h v (by simpa using hv))]
/-- By steps from the end: the reference's search. -/
def lastTo (l : List Tx) (s : Int) (n : Nat) : Option Nat := lastIx (l.take n) s
theorem lastTo_step {l : List Tx} {s : Int} {n : Nat} (hn : n < l.length) : lastTo l s (n + 1) = if l[n].sess = s then some n else lastTo l s n := by
  unfold lastTo
  rw [List.take_succ_eq_append_getElem hn, lastIx_snoc, List.length_take, Nat.min_eq_left (by omega)]

structure Grp where
  out : List Tx
  opn : List Bool
/-- Whether a transaction of the session is open: which one. -/
def Grp.at_ (g : Grp) (s : Int) : Option Nat := match lastIx g.out s with
  | some k => if g.opn[k]? = some true then some k else none
  | none => none
/-- What is wrong with an event. -/
def Grp.bad (g : Grp) (e : Ev) : Int :=
  if e.right = false then 1
  else if e.kind = 0 then (if (g.at_ e.sess).isSome then 5 else if g.out.length = 32 then 4 else 0)
  else if (g.at_ e.sess).isSome then 0 else 6
def addOp (t : Tx) (e : Ev) : Tx := { t with ops := t.ops ++ [e] }
def shutT (t : Tx) (b : Bool) : Tx := { t with done := b }
def noTx : Tx := ⟨0, false, 0, []⟩
/-- One event more. -/
def Grp.next (g : Grp) (i : Nat) (e : Ev) : Grp :=
  if e.kind = 0 then ⟨g.out ++ [⟨e.sess, false, i, []⟩], g.opn ++ [true]⟩
  else match g.at_ e.sess with
    | none => g
    | some k => if e.kind = 1 ∨ e.kind = 2 then ⟨g.out.set k (addOp (g.out[k]?.getD noTx) e), g.opn⟩
      else ⟨g.out.set k (shutT (g.out[k]?.getD noTx) (decide (e.kind = 3))), g.opn.set k false⟩
def grpTo (l : List Ev) : Nat → Grp
  | 0 => ⟨[], []⟩
  | n + 1 => match l[n]? with
    | some e => (grpTo l n).next n e
    | none => grpTo l n
def grpBad (l : List Ev) (i : Nat) : Int := match l[i]? with | some e => (grpTo l i).bad e | none => 0
/-- Events' transactions; or which event is wrong, and how. -/
def groupR (l : List Ev) : List Tx × Int × Int := match firstN l.length (grpBad l) with
  | some i => ([], i, grpBad l i)
  | none => ((grpTo l l.length).out, 0, 0)
theorem grpTo_step {l : List Ev} {i : Nat} (hi : i < l.length) : grpTo l (i + 1) = (grpTo l i).next i l[i] := by
  rw [grpTo, List.getElem?_eq_getElem hi]
theorem grpBad_at {l : List Ev} {i : Nat} (hi : i < l.length) : grpBad l i = (grpTo l i).bad l[i] := by
  unfold grpBad; rw [List.getElem?_eq_getElem hi]
theorem groupR_bad {l : List Ev} {i : Nat} (hi : i < l.length) (hj : ∀ j, j < i → grpBad l j = 0) (hb : grpBad l i ≠ 0) : groupR l = ([], (i : Int), grpBad l i) := by
  unfold groupR; rw [firstN_some hi hj hb]
theorem groupR_good {l : List Ev} (hj : ∀ j, j < l.length → grpBad l j = 0) : groupR l = ((grpTo l l.length).out, 0, 0) := by
  unfold groupR; rw [firstN_none hj]

theorem Grp.next_len (g : Grp) (i : Nat) (e : Ev) (h : g.out.length = g.opn.length) : (g.next i e).out.length = (g.next i e).opn.length := by
  unfold Grp.next
  split
  · simp [h]
  · split
    · exact h
    · split
      · simp [h]
      · simp [h]
theorem grpTo_len (l : List Ev) : ∀ n, (grpTo l n).out.length = (grpTo l n).opn.length
  | 0 => rfl
  | n + 1 => by
    rw [grpTo]
    split
    · exact Grp.next_len _ _ _ (grpTo_len l n)
    · exact grpTo_len l n
theorem Grp.at_lt {g : Grp} {s : Int} {k : Nat} (h : g.at_ s = some k) : k < g.out.length ∧ k < g.opn.length ∧ g.opn[k]? = some true ∧ lastIx g.out s = some k := by
  unfold Grp.at_ at h
  cases hl : lastIx g.out s with
  | none => rw [hl] at h; cases h
  | some j =>
    rw [hl] at h
    dsimp only at h
    split at h
    · rename_i ho
      injection h with h
      subst h
      obtain ⟨hk, _⟩ := lastIx_lt hl
      refine ⟨hk, ?_, ho, rfl⟩
      rcases Nat.lt_or_ge j g.opn.length with g1 | g1
      · exact g1
      · rw [List.getElem?_eq_none g1] at ho; cases ho
    · cases h
theorem Grp.at_begin {g : Grp} {e : Ev} {i : Nat} (h : g.out.length = g.opn.length) (hk : e.kind = 0) (s : Int) : (g.next i e).at_ s = if s = e.sess then some g.out.length else g.at_ s := by
  unfold Grp.next
  rw [if_pos hk]
  unfold Grp.at_
  dsimp only
  rw [lastIx_snoc]
  dsimp only
  by_cases hs : s = e.sess
  · rw [if_pos hs.symm, if_pos hs]
    dsimp only
    rw [h, List.getElem?_append_right (Nat.le_refl _)]
    simp
  · rw [if_neg (fun x => hs x.symm), if_neg hs]
    cases hl : lastIx g.out s with
    | none => rfl
    | some k =>
      obtain ⟨hk2, _⟩ := lastIx_lt hl
      dsimp only
      rw [List.getElem?_append_left (by omega)]
theorem Grp.at_op {g : Grp} {e : Ev} {i k : Nat} (hk : e.kind = 1 ∨ e.kind = 2) (ha : g.at_ e.sess = some k) (s : Int) : (g.next i e).at_ s = g.at_ s := by
  unfold Grp.next
  rw [if_neg (by omega), ha]
  dsimp only
  rw [if_pos hk]
  unfold Grp.at_
  dsimp only
  rw [lastIx_set fun u hu => by rw [hu]; rfl]
theorem Grp.at_shut {g : Grp} {e : Ev} {i k : Nat} (h0 : e.kind ≠ 0) (h12 : ¬ (e.kind = 1 ∨ e.kind = 2)) (ha : g.at_ e.sess = some k) (s : Int) : (g.next i e).at_ s = if s = e.sess then none else g.at_ s := by
  obtain ⟨h1, h2, h3, h4⟩ := Grp.at_lt ha
  unfold Grp.next
  rw [if_neg h0, ha]
  dsimp only
  rw [if_neg h12]
  unfold Grp.at_
  dsimp only
  rw [lastIx_set fun u hu => by rw [hu]; rfl]
  by_cases hs : s = e.sess
  · subst hs
    rw [if_pos rfl, h4]
    dsimp only
    rw [List.getElem?_set_self (by omega), if_neg (by simp)]
  · rw [if_neg hs]
    cases hl : lastIx g.out s with
    | none => rfl
    | some j =>
      obtain ⟨hj, hjs⟩ := lastIx_lt hl
      obtain ⟨hk2, hks⟩ := lastIx_lt h4
      have : k ≠ j := by
        intro e2
        subst e2
        exact hs (hjs.symm.trans hks)
      dsimp only
      rw [List.getElem?_set_ne this]

def txEvents (t : Tx) : List Ev := ⟨0, t.sess, 0, 0⟩ :: t.ops ++ [⟨if t.done = true then 3 else 4, t.sess, 0, 0⟩]
/-- Transactions as events. -/
def eventsR (l : List Tx) : List Ev := (l.map txEvents).flatten
theorem eventsR_snoc (l : List Tx) (t : Tx) : eventsR (l ++ [t]) = eventsR l ++ txEvents t := by
  unfold eventsR; simp
end Go.Inq

namespace Go.Inq
open Go Go.RowKit

def lastK (l : List Int) : Int := (l.getLast?).getD (-1)
theorem lastK_nil : lastK [] = -1 := rfl
theorem lastK_snoc (l : List Int) (k : Int) : lastK (l ++ [k]) = k := by simp [lastK]
/-- Is the key at place j greater than the one ahead, and a key? -/
def wF (l : List Int) (j : Nat) : Bool := match l[j]? with | some k => decide (lastK (l.take j) < k) && decide (k < 16) | none => true
theorem wF_at {l : List Int} {j : Nat} (h : j < l.length) : wF l j = (decide (lastK (l.take j) < l[j]) && decide (l[j] < 16)) := by
  unfold wF; rw [List.getElem?_eq_getElem h]
def wFs (l : List Int) (n : Nat) : List Bool := (List.range n).map (wF l)
theorem wFs_step (l : List Int) (n : Nat) : wFs l (n + 1) = wFs l n ++ [wF l n] := by unfold wFs; rw [List.range_succ, List.map_append]; rfl
def wrOf (H : List Txn) (i : Int) : List Int := ((H[i.toNat]?).map (·.writes)).getD []
/-- May a read of transaction n be from where it says? -/
def thereB (H : List Txn) (n : Nat) (x : It) : Bool := x.b == -1 || (decide (0 ≤ x.b) && decide (x.b < (H.length : Int)) && x.b != (n : Int) && (wrOf H x.b).contains x.a)
def rF (H : List Txn) (n : Nat) (l : List It) (j : Nat) : Bool := match l[j]? with | some x => decide (lastK ((l.take j).map (·.a)) < x.a) && decide (x.a < 16) && thereB H n x | none => true
theorem rF_at {H : List Txn} {n : Nat} {l : List It} {j : Nat} (h : j < l.length) : rF H n l j = (decide (lastK ((l.take j).map (·.a)) < l[j].a) && decide (l[j].a < 16) && thereB H n l[j]) := by
  unfold rF; rw [List.getElem?_eq_getElem h]
def rFs (H : List Txn) (m : Nat) (l : List It) (n : Nat) : List Bool := (List.range n).map (rF H m l)
theorem rFs_step (H : List Txn) (m : Nat) (l : List It) (n : Nat) : rFs H m l (n + 1) = rFs H m l n ++ [rF H m l n] := by unfold rFs; rw [List.range_succ, List.map_append]; rfl
/-- What is told of one transaction. -/
def txF (H : List Txn) (n : Nat) : List Bool := match H[n]? with
  | some t => wFs t.writes t.writes.length ++ rFs H n t.reads t.reads.length ++ [belowB t.sess 8]
  | none => []
theorem txF_at {H : List Txn} {n : Nat} (h : n < H.length) : txF H n = wFs H[n].writes H[n].writes.length ++ rFs H n H[n].reads H[n].reads.length ++ [belowB H[n].sess 8] := by
  unfold txF; rw [List.getElem?_eq_getElem h]
def faultsTo (H : List Txn) (n : Nat) : List Bool := ((List.range n).map (txF H)).flatten
theorem faultsTo_step (H : List Txn) (n : Nat) : faultsTo H (n + 1) = faultsTo H n ++ txF H n := by
  unfold faultsTo; rw [List.range_succ, List.map_append, List.flatten_append]; simp
def faultsL (H : List Txn) : List Bool := decide (H.length ≤ 32) :: faultsTo H H.length
/-- May a history be? -/
def rightH (H : List Txn) : Bool := (faultsL H).all id

theorem pre_false {l p : List Bool} (h : p <+: l) (hf : false ∈ p) : l.all id = false := by
  rw [List.all_eq_false]
  exact ⟨false, h.subset hf, by simp⟩
/-- A row of keys that rises. -/
theorem rise_iff (l : List Int) (n : Nat) (hn : n ≤ l.length) : (wFs l n).all id = true ↔ (l.take n).Pairwise (· < ·) ∧ ∀ k ∈ l.take n, 0 ≤ k ∧ k < 16 := by
  induction n with
  | zero => simp [wFs]
  | succ n ih =>
    rw [wFs_step, List.all_append, Bool.and_eq_true, ih (by omega), List.take_succ_eq_append_getElem (by omega), List.pairwise_append]
    rw [show ([wF l n].all id = true) = (wF l n = true) by simp, wF_at (by omega), Bool.and_eq_true, decide_eq_true_eq, decide_eq_true_eq]
    have hmid : ∀ (P : List Int) (k : Int), P.Pairwise (· < ·) → (∀ y ∈ P, 0 ≤ y ∧ y < 16) → (lastK P < k ↔ (∀ y ∈ P, y < k) ∧ 0 ≤ k) := by
      intro P k h1 h2
      rcases List.eq_nil_or_concat P with rfl | ⟨Q, z, rfl⟩
      · simp [lastK]; omega
      · rw [List.concat_eq_append] at *
        rw [lastK_snoc]
        have hz := h2 z (by simp)
        constructor
        · intro g
          refine ⟨fun y hy => ?_, by omega⟩
          rcases List.mem_append.1 hy with hy | hy
          · have := (List.pairwise_append.1 h1).2.2 y hy z (by simp); omega
          · simp at hy; omega
        · intro g; exact g.1 z (by simp)
    constructor
    · rintro ⟨⟨h1, h2⟩, h3, h4⟩
      have := (hmid _ _ h1 h2).1 h3
      refine ⟨⟨h1, by simp, fun y hy z hz => ?_⟩, fun k hk => ?_⟩
      · simp at hz; subst hz; exact this.1 y hy
      · rcases List.mem_append.1 hk with hk | hk
        · exact h2 k hk
        · simp at hk; subst hk; exact ⟨this.2, h4⟩
    · rintro ⟨⟨h1, _, h3⟩, h4⟩
      have g2 : ∀ k ∈ l.take n, 0 ≤ k ∧ k < 16 := fun k hk => h4 k (List.mem_append.2 (.inl hk))
      have g3 := h4 l[n] (List.mem_append.2 (.inr (by simp)))
      exact ⟨⟨h1, g2⟩, (hmid _ _ h1 g2).2 ⟨fun y hy => h3 y hy _ (by simp), g3.1⟩, g3.2⟩
theorem rises_iff (H : List Txn) (m : Nat) (l : List It) (n : Nat) (hn : n ≤ l.length) : (rFs H m l n).all id = true ↔ (wFs (l.map (·.a)) n).all id = true ∧ ∀ x ∈ l.take n, thereB H m x = true := by
  induction n with
  | zero => simp [wFs, rFs]
  | succ n ih =>
    rw [rFs_step, wFs_step, List.all_append, List.all_append, Bool.and_eq_true, Bool.and_eq_true, ih (by omega), List.take_succ_eq_append_getElem (by omega)]
    rw [show ([wF (l.map (·.a)) n].all id = true) = (wF (l.map (·.a)) n = true) by simp, show ([rF H m l n].all id = true) = (rF H m l n = true) by simp, rF_at (by omega), wF_at (by rw [List.length_map]; omega), List.getElem_map, ← List.map_take, Bool.and_eq_true (_ && _)]
    constructor
    · rintro ⟨⟨h1, h2⟩, h3, h4⟩
      refine ⟨⟨h1, h3⟩, fun x hx => ?_⟩
      rcases List.mem_append.1 hx with hx | hx
      · exact h2 x hx
      · simp at hx; subst hx; exact h4
    · rintro ⟨⟨h1, h2⟩, h3⟩
      exact ⟨⟨h1, fun x hx => h3 x (List.mem_append.2 (.inl hx))⟩, h2, h3 _ (List.mem_append.2 (.inr (by simp)))⟩
/-- What is right of one transaction. -/
structure TxnOk (H : List Txn) (n : Nat) (t : Txn) : Prop where
  wrise : t.writes.Pairwise (· < ·)
  wkey : ∀ k ∈ t.writes, 0 ≤ k ∧ k < 16
  rrise : (t.reads.map (·.a)).Pairwise (· < ·)
  rkey : ∀ x ∈ t.reads, 0 ≤ x.a ∧ x.a < 16
  there : ∀ x ∈ t.reads, thereB H n x = true
  sess : 0 ≤ t.sess ∧ t.sess < 8
theorem txF_iff {H : List Txn} {n : Nat} (h : n < H.length) : (txF H n).all id = true ↔ TxnOk H n H[n] := by
  rw [txF_at h, List.all_append, List.all_append, Bool.and_eq_true, Bool.and_eq_true, rise_iff _ _ (Nat.le_refl _), rises_iff _ _ _ _ (Nat.le_refl _), rise_iff _ _ (by simp)]
  rw [List.take_length, List.take_length, List.take_of_length_le (show (H[n].reads.map (·.a)).length ≤ H[n].reads.length by simp)]
  have hs : ([belowB H[n].sess 8].all id = true) ↔ 0 ≤ H[n].sess ∧ H[n].sess < 8 := by simp [belowB]
  rw [hs]
  constructor
  · rintro ⟨⟨⟨h1, h2⟩, ⟨h3, h4⟩, h5⟩, h6⟩
    exact ⟨h1, h2, h3, fun x hx => h4 _ (List.mem_map_of_mem hx), h5, h6⟩
  · rintro ⟨h1, h2, h3, h4, h5, h6⟩
    exact ⟨⟨⟨h1, h2⟩, ⟨h3, fun k hk => by obtain ⟨x, hx, rfl⟩ := List.mem_map.1 hk; exact h4 x hx⟩, h5⟩, h6⟩
theorem faultsTo_iff (H : List Txn) (n : Nat) (hn : n ≤ H.length) : (faultsTo H n).all id = true ↔ ∀ j (hj : j < H.length), j < n → TxnOk H j H[j] := by
  induction n with
  | zero => simp [faultsTo]
  | succ n ih =>
    rw [faultsTo_step, List.all_append, Bool.and_eq_true, ih (by omega), txF_iff (by omega)]
    constructor
    · rintro ⟨h1, h2⟩ j hj hjn
      by_cases e : j = n
      · subst e; exact h2
      · exact h1 j hj (by omega)
    · intro h
      exact ⟨fun j hj hjn => h j hj (by omega), h n (by omega) (by omega)⟩
/-- What is right of a history that may be. -/
theorem rightH_iff (H : List Txn) : rightH H = true ↔ H.length ≤ 32 ∧ ∀ j (hj : j < H.length), TxnOk H j H[j] := by
  unfold rightH faultsL
  rw [List.all_cons, Bool.and_eq_true, faultsTo_iff H _ (Nat.le_refl _)]
  constructor
  · rintro ⟨h1, h2⟩
    exact ⟨by simpa using h1, fun j hj => h2 j hj hj⟩
  · rintro ⟨h1, h2⟩
    exact ⟨by simpa using h1, fun j hj _ => h2 j hj⟩
theorem thereB_iff (H : List Txn) (n : Nat) (x : It) : thereB H n x = true ↔ x.b = -1 ∨ ∃ k, ∃ hk : k < H.length, x.b = (k : Int) ∧ k ≠ n ∧ x.a ∈ H[k].writes := by
  unfold thereB
  rw [Bool.or_eq_true, Bool.and_eq_true, Bool.and_eq_true, Bool.and_eq_true, decide_eq_true_eq, decide_eq_true_eq, beq_iff_eq, bne_iff_ne, List.contains_iff_mem]
  constructor
  · rintro (h | ⟨⟨⟨h1, h2⟩, h3⟩, h4⟩)
    · exact .inl h
    · refine .inr ⟨x.b.toNat, by omega, by omega, by omega, ?_⟩
      unfold wrOf at h4
      rw [List.getElem?_eq_getElem (by omega)] at h4
      exact h4
  · rintro (h | ⟨k, hk, h1, h2, h3⟩)
    · exact .inl h
    · refine .inr ⟨⟨⟨by omega, by omega⟩, by omega⟩, ?_⟩
      unfold wrOf
      rw [h1, Int.toNat_natCast, List.getElem?_eq_getElem hk]
      exact h3

/-- A transaction's events, but for its beginning and its end. -/
def opsOf (t : Txn) (n : Nat) : List Ev := t.reads.map (fun x => ⟨1, t.sess, x.a, x.b + 1⟩) ++ t.writes.map (fun k => ⟨2, t.sess, k, (n : Int) + 1⟩)
def txOf (t : Txn) (n : Nat) : Tx := ⟨t.sess, true, 0, opsOf t n⟩
def txsOf (H : List Txn) : List Tx := H.mapIdx fun n t => txOf t n
theorem txsOf_len (H : List Txn) : (txsOf H).length = H.length := by unfold txsOf; rw [List.length_mapIdx]
theorem txsOf_at {H : List Txn} {i : Nat} (h : i < (txsOf H).length) : (txsOf H)[i] = txOf (H[i]'(by rwa [txsOf_len] at h)) i := List.getElem_mapIdx ..
end Go.Inq

namespace Go.Proofs.YtfhnamomiaekdaaGreat
open Go.RowKit Go.Inq
set_option maxHeartbeats 2000000
attribute [local go_sem ↓] Go.wp_at_zero Go.wp_at_succ

/-- At most N transactions, with few reads and writes. -/
def fewN (N : Nat) (l : List Txn) : Bool := decide (l.length ≤ N) && l.all fun t => decide (t.writes.length ≤ 20) && decide (t.reads.length ≤ 20)
def fewH (l : List Txn) : Bool := fewN 40 l
theorem fewN_len {N : Nat} {l : List Txn} (h : fewN N l = true) : l.length ≤ N := by
  unfold fewN at h
  rw [Bool.and_eq_true] at h
  simpa using h.1
theorem fewN_small {N : Nat} (hN : N ≤ 40) {l : List Txn} (h : fewN N l = true) : SmallH l := by
  unfold fewN at h
  rw [Bool.and_eq_true, List.all_eq_true] at h
  have h1 : l.length ≤ N := by simpa using h.1
  refine ⟨by omega, fun t ht => ?_⟩
  have := h.2 t ht
  simp at this
  omega
theorem fewH_small {l : List Txn} (h : fewH l = true) : SmallH l := fewN_small (Nat.le_refl _) h
theorem fewN_bad {N : Nat} {l : List Txn} {i : Nat} (hi : i < l.length) (h : 20 < l[i].writes.length ∨ 20 < l[i].reads.length) : fewN N l = false := by
  rw [← Bool.not_eq_true]
  intro g
  unfold fewN at g
  rw [Bool.and_eq_true, List.all_eq_true] at g
  have := g.2 _ (List.getElem_mem hi)
  simp at this
  omega
theorem fewN_many {N : Nat} {l : List Txn} (h : N < l.length) : fewN N l = false := by
  unfold fewN; rw [show decide (l.length ≤ N) = false by simpa using h]; rfl
theorem fewN_good {N : Nat} {l : List Txn} (h : l.length ≤ N) (hall : ∀ i (hi : i < l.length), l[i].writes.length ≤ 20 ∧ l[i].reads.length ≤ 20) : fewN N l = true := by
  unfold fewN
  rw [Bool.and_eq_true, List.all_eq_true]
  refine ⟨by simpa using h, fun t ht => ?_⟩
  obtain ⟨i, hi, rfl⟩ := List.getElem_of_mem ht
  have := hall i hi
  simp
  omega
set_option maxRecDepth 100000 in
theorem few8n_any (N : Nat) (A : Option Addr) (c : Nat) (H : List Txn) (w : World) (h : TxnS w (Old w) (.slice A H.length c) H) (hn : H.length ≤ maxLen) (hns : ∀ t ∈ H, t.writes.length ≤ maxLen ∧ t.reads.length ≤ maxLen) :
    Calls Tryz.prog 7 #[.agg #[.slice A H.length c], .int .i64 (N : Int)] w fun e w' => e = .returned (.bool (fewN N H)) ∧ Below w.heap.size w w' := by
  unfold maxLen at hn hns
  have hA : Below w.heap.size w (w.alloc (.cells #[.slice A H.length c] 24)) := (Below.refl _ _).alloc (Nat.le_refl _) _
  have kh : Blk (w.alloc (.cells #[.slice A H.length c] 24)) w.heap.size 24 #[.slice A H.length c] := Blk.new _ _ _
  have h1 := TxnS.below h hA
  have y0 := kh.cell 0
  simp only [List.getElem?_toArray, List.getElem?_cons_zero] at y0
  have hl1 : (0 : Int) ≤ (H.length : Int) := Int.natCast_nonneg _
  replace hns := hide hns
  by_cases hm : N < H.length
  · have hr := hide (fewN_many hm)
    have hmb : decide ((H.length : Int) > (N : Int)) = true := by simp; omega
    have hmb2 : decide (N < H.length) = true := by simp; omega
    clear hm
    go_enter Tryz.func7, Tryz.ntmps7
    go_wp2
    go_ret
    exact ⟨by rw [hr.out]; rfl, hA⟩
  · have hmb : decide ((H.length : Int) > (N : Int)) = false := by simp; omega
    have hmb2 : decide (N < H.length) = false := by simp; omega
    have hbad := hide (fun i => fewN_bad (N := N) (l := H) (i := i))
    have hgood := hide (fewN_good (N := N) (l := H) (by omega))
    go_enter Tryz.func7, Tryz.ntmps7
    go_wp2_with fail
    generalize w.alloc (.cells #[.slice A H.length c] 24) = W at *
    go_loop [5] (fun s5 => ∃ i : Nat, i ≤ H.length ∧ s5 = .int .i64 i ∧ Hid (∀ j (hj : j < H.length), j < i → H[j].writes.length ≤ 20 ∧ H[j].reads.length ≤ 20)) (fun s5 => H.length - (intOf s5).toNat)
    case atStart => exact ⟨0, Nat.zero_le _, by go_num, fun j hj h => absurd h (by omega)⟩
    case round =>
      obtain ⟨i, hi, rfl, hall⟩ := hrel
      have hi1 : (0 : Int) ≤ (i : Int) := Int.natCast_nonneg _
      by_cases hlt : i < H.length
      · have hi2 : (i : Int) < (H.length : Int) := by omega
        obtain ⟨b, off, Aw, cw, Ar, cr, rfl, hbK, d0, d1, d2, hws, hrs⟩ := TxnS.at_ h1 hlt
        have hb := hide (hbad.out i hlt)
        have hsm := hns.out _ (List.getElem_mem hlt)
        have hst : Hid (H[i].writes.length ≤ 20 ∧ H[i].reads.length ≤ 20 → ∀ j (hj : j < H.length), j < i + 1 → H[j].writes.length ≤ 20 ∧ H[j].reads.length ≤ 20) := fun g j hj hji => by
          by_cases e : j = i
          · subst e; exact g
          · exact hall.out j hj (by omega)
        clear hall hws hrs
        generalize H[i] = t at *
        obtain ⟨ts, ws, rs⟩ := t
        dsimp only at *
        by_cases g1 : 20 < ws.length
        · have g1b : decide ((ws.length : Int) > 20) = true := by simp; omega
          have hr := hide (hb.out (.inl g1))
          clear g1 hb hst
          go_wp2
          go_ret
          exact ⟨by rw [hr.out]; rfl, hA⟩
        · have g1b : decide ((ws.length : Int) > 20) = false := by simp; omega
          by_cases g2 : 20 < rs.length
          · have g2b : decide ((rs.length : Int) > 20) = true := by simp; omega
            have hr := hide (hb.out (.inr g2))
            clear g2 hb hst
            go_wp2
            go_ret
            exact ⟨by rw [hr.out]; rfl, hA⟩
          · have g2b : decide ((rs.length : Int) > 20) = false := by simp; omega
            have hr := hide (hst.out ⟨by omega, by omega⟩)
            clear hb hst
            go_wp2
            go_round
            case rel => exact ⟨i + 1, by omega, by go_num, hr⟩
            case measure => simp [intOf]; omega
      · have hr := hide (hgood.out fun j hj => hall.out j hj (by omega))
        go_wp2
        go_ret
        exact ⟨by rw [hr.out]; rfl, hA⟩
theorem few8_any (A : Option Addr) (c : Nat) (H : List Txn) (w : World) (h : TxnS w (Old w) (.slice A H.length c) H) (hn : H.length ≤ maxLen) (hns : ∀ t ∈ H, t.writes.length ≤ maxLen ∧ t.reads.length ≤ maxLen) :
    Calls Tryz.prog 7 #[.agg #[.slice A H.length c], .int .i64 40] w fun e w' => e = .returned (.bool (fewH H)) ∧ Below w.heap.size w w' := few8n_any 40 A c H w h hn hns
end Go.Proofs.YtfhnamomiaekdaaGreat

namespace Go.Proofs.YtfhnamomiaekdaaGreat
open Go.Joins Go.ChangeShapes Go.WideShapes Go.ChangeAt Go.RowKit Go.Deep Go.Inq

theorem own : ownKnob Tryz.prog.godebug = none := by kernel_rfl
theorem laidOut : laidOutB Tryz.prog = true := by kernel_rfl

/-- Types whose data stay readable in a world that only grew. -/
def keptTypes (P : Program) (ts : List TypeId) : Bool := ts.all fun t => P.readableRec t && decide (t < P.types.size)
theorem Below.trodAllP {P : Program} (hl : laidOutB P = true) {H : Type} {enc : TypeId × Value → H} {W W' : World} (hb : Below W.heap.size W W') : ∀ (ts : List TypeId) (vs : List Value) (ds : List (DataW H)) (ps : List MemPlace), keptTypes P ts = true →
    DataW.TrodAll enc P W 0 (fun _ => true) true ts vs ds ps → (∀ x ∈ ps, x.block < W.heap.size) → DataW.TrodAll enc P W' 0 (fun b => decide (b < W.heap.size)) true ts vs ds ps := by
  intro ts
  induction ts with
  | nil =>
    intro vs ds ps _ h _
    cases vs with
    | cons => exact h.elim
    | nil =>
      cases ds with
      | cons => exact h.elim
      | nil => exact h
  | cons t ts ih =>
    intro vs ds ps hk h hlt
    cases vs with
    | nil => exact h.elim
    | cons v vs =>
      cases ds with
      | nil => exact h.elim
      | cons d ds =>
        obtain ⟨p, q, h1, h2, rfl⟩ := h
        unfold keptTypes at hk
        rw [List.all_cons, Bool.and_eq_true, Bool.and_eq_true] at hk
        exact ⟨p, q, Below.trod hl hk.1.1 (of_decide_eq_true hk.1.2) h1 hb (fun x hx => hlt x (List.mem_append.2 (.inl hx))), ih _ _ _ hk.2 h2 (fun x hx => hlt x (List.mem_append.2 (.inr hx))), rfl⟩
theorem Below.trodAll {H : Type} {enc : TypeId × Value → H} {W W' : World} (hb : Below W.heap.size W W') {ts : List TypeId} {vs : List Value} {ds : List (DataW H)} {ps : List MemPlace} (hk : keptTypes Tryz.prog ts = true)
    (h : DataW.TrodAll enc Tryz.prog W 0 (fun _ => true) true ts vs ds ps) (hlt : ∀ x ∈ ps, x.block < W.heap.size) : DataW.TrodAll enc Tryz.prog W' 0 (fun b => decide (b < W.heap.size)) true ts vs ds ps :=
  Below.trodAllP laidOut hb ts vs ds ps hk h hlt

end Go.Proofs.YtfhnamomiaekdaaGreat

namespace Go.Proofs.YtfhnamomiaekdaaGreat
open Go.Joins Go.ChangeShapes Go.WideShapes Go.ChangeAt Go.RowKit Go.Deep Go.Inq
section
variable {H : Type} {enc : TypeId × Value → H} {w : World} {base : Nat} {spare : Nat → Bool} {held : Bool}

theorem open_rows {α : Type} {size : Nat} {R : World → (Nat → Prop) → List Value → α → Prop} {te ts : TypeId} (P : α → Prop) (x0 : α) (hT : Tryz.prog.underlying ts = some (.slice te)) (hC : Tryz.prog.cellsOf te = size) (hs0 : 0 < size)
    (hop : ∀ n cs x, DataW.trod enc Tryz.prog w base spare held n te cs = some x → ∃ t, R w (Old w) cs t ∧ P t)
    {n : Nat} {v : Value} {x : DataW H × List MemPlace} (h : DataW.trod enc Tryz.prog w base spare held n ts [v] = some x) :
    ∃ (A : Option Addr) (c : Nat) (l : List α), v = .slice A l.length c ∧ SlR size R w (Old w) (.slice A l.length c) l ∧ l.length ≤ maxLen ∧ ∀ t ∈ l, P t := by
  rcases open_slice hT h with ⟨h1, _⟩ | ⟨a, len, cap, m, n', D, Pl, h1, _, hl, hm, hmm, hx, hi⟩
  · injection h1 with h1
    exact ⟨none, 0, [], h1, SlR.nil _ _ _ _ _ _, Nat.zero_le _, fun t ht => by simp at ht⟩
  · injection h1 with h1
    subst h1
    rw [hC] at hi
    have hlm : len ≤ m := by rw [hmm]; split <;> omega
    have hex : ∀ i, ∃ p : α × List Value, i < len → p.2.length = size ∧ R w (Old w) p.2 p.1 ∧ P p.1 ∧ ∀ j u, p.2[j]? = some u → w.cell? (a.add (i * size + j)) = some u := fun i => by
      by_cases hil : i < len
      · obtain ⟨cs, hc, ht⟩ := hi i (by omega)
        obtain ⟨t, hR, hP⟩ := hop _ _ _ ht
        obtain ⟨_, hcl, hat⟩ := World.cells?_some hc
        refine ⟨(t, cs), fun _ => ⟨by simpa using hcl, hR, hP, fun j u hj => ?_⟩⟩
        have hj4 : j < size := by
          rcases Nat.lt_or_ge j size with h | h
          · exact h
          · rw [List.getElem?_eq_none (by dsimp only; omega)] at hj; cases hj
        rw [← Go.Deep.add_add, hat j hj4]
        exact hj
      · exact ⟨(x0, []), fun h => absurd h hil⟩
    obtain ⟨f, hf⟩ := Classical.axiomOfChoice hex
    have hlen : ((List.range len).map fun i => (f i).1).length = len := by simp
    refine ⟨some a, cap, (List.range len).map fun i => (f i).1, by rw [hlen], ⟨some a, cap, (List.range len).map fun i => (f i).2, rfl, by omega, by simp, fun i cs x h1 h2 => ?_, fun h0 => ?_⟩, by omega, fun t ht => ?_⟩
    · simp only [List.getElem?_map] at h1 h2
      cases hr : (List.range len)[i]? with
      | none => rw [hr] at h1; cases h1
      | some k =>
        rw [hr] at h1 h2
        simp at h1 h2
        subst h1 h2
        have hk : k < len := by
          rw [List.getElem?_eq_some_iff] at hr
          obtain ⟨h3, h4⟩ := hr
          simp at h3 h4
          omega
        exact ⟨(hf k hk).1, (hf k hk).2.1⟩
    · rw [hlen] at h0
      obtain ⟨g1, _, _, g4⟩ := hf 0 h0
      have hc0 := g4 0 ((f 0).2[0]'(by omega)) (List.getElem?_eq_getElem (by omega))
      obtain ⟨_, _, _, _, hs⟩ := World.shape?_of_cell? hc0
      obtain ⟨b, o, sp⟩ := a
      have hsp : sp = none := by
        cases sp with
        | none => rfl
        | some q => simp [Addr.add] at hs
      subst hsp
      have hbl : b < w.heap.size := by have := block_lt_of_cell hc0; rwa [Addr.add_lit] at this
      refine ⟨b, o, rfl, hbl, fun i j cs u h1 h2 => ?_⟩
      simp only [List.getElem?_map] at h1
      cases hr : (List.range len)[i]? with
      | none => rw [hr] at h1; cases h1
      | some k =>
        rw [hr] at h1
        simp at h1
        subst h1
        have hk : k = i ∧ i < len := by
          rw [List.getElem?_eq_some_iff] at hr
          obtain ⟨h3, h4⟩ := hr
          simp at h3 h4
          exact ⟨h4.symm, h3⟩
        have := (hf i hk.2).2.2.2 j u (by rw [← hk.1]; exact h2)
        rw [Addr.add_lit, ← Nat.add_assoc] at this
        exact this
    · obtain ⟨k, hk, rfl⟩ := List.mem_map.1 ht
      exact (hf k (by simpa using hk)).2.2.1

theorem open_num {n : Nat} {cs : List Value} {x : DataW H × List MemPlace} (h : DataW.trod enc Tryz.prog w base spare held n 3 cs = some x) : ∃ k : Int, Go.Inq.Flat Go.Inq.encI w (Old w) cs k ∧ True := by
  obtain ⟨k, e, _⟩ := DataW.trod_int Tryz.underlying3 h
  exact ⟨k, e, trivial⟩
theorem open_nums {n : Nat} {v : Value} {x : DataW H × List MemPlace} (h : DataW.trod enc Tryz.prog w base spare held n 26 [v] = some x) :
    ∃ (A : Option Addr) (c : Nat) (l : List Int), v = .slice A l.length c ∧ IntS w (Old w) (.slice A l.length c) l ∧ l.length ≤ maxLen := by
  obtain ⟨A, c, l, h1, h2, h3, _⟩ := open_rows (R := Go.Inq.Flat Go.Inq.encI) (size := 1) (fun _ => True) 0 Tryz.underlying26 (by kernel_rfl) (by decide) (fun n cs x h => open_num h) h
  exact ⟨A, c, l, h1, h2, h3⟩
theorem open_take {n : Nat} {cs : List Value} {x : DataW H × List MemPlace} (hC : Tryz.prog.cellsOf 83 = 2) (h : DataW.trod enc Tryz.prog w base spare held n 83 cs = some x) : ∃ e : It, Go.Inq.Flat It.enc w (Old w) cs e ∧ True := by
  obtain ⟨y0, y1, n', _, hl, h0, h1⟩ := trod_struct2 Tryz.underlying83 h
  rw [hC] at hl
  have h31 : Tryz.prog.cellsOf 3 = 1 := by kernel_rfl
  simp only [h31] at h0 h1
  match cs, hl with
  | [a, b], _ =>
    obtain ⟨k0, e0, _⟩ := DataW.trod_int Tryz.underlying3 h0
    obtain ⟨k1, e1, _⟩ := DataW.trod_int Tryz.underlying3 h1
    simp at e0 e1
    exact ⟨⟨k0, k1⟩, by unfold Go.Inq.Flat; simp [It.enc, e0, e1], trivial⟩
theorem open_takes {n : Nat} {v : Value} {x : DataW H × List MemPlace} (h : DataW.trod enc Tryz.prog w base spare held n 84 [v] = some x) :
    ∃ (A : Option Addr) (c : Nat) (l : List It), v = .slice A l.length c ∧ ItS w (Old w) (.slice A l.length c) l ∧ l.length ≤ maxLen := by
  obtain ⟨A, c, l, h1, h2, h3, _⟩ := open_rows (R := Go.Inq.Flat It.enc) (size := 2) (fun _ => True) ⟨0, 0⟩ Tryz.underlying84 (by kernel_rfl) (by decide) (fun n cs x h => open_take (by kernel_rfl) h) h
  exact ⟨A, c, l, h1, h2, h3⟩
theorem open_txn {n : Nat} {cs : List Value} {x : DataW H × List MemPlace} (hC : Tryz.prog.cellsOf 86 = 3) (h : DataW.trod enc Tryz.prog w base spare held n 86 cs = some x) :
    ∃ t : Txn, TxnR w (Old w) cs t ∧ t.writes.length ≤ maxLen ∧ t.reads.length ≤ maxLen := by
  obtain ⟨y0, y1, y2, n', _, hl, h0, h1, h2⟩ := trod_struct3 Tryz.underlying86 h
  rw [hC] at hl
  have e1 : Tryz.prog.cellsOf 3 = 1 := by kernel_rfl
  have e2 : Tryz.prog.cellsOf 26 = 1 := by kernel_rfl
  have e3 : Tryz.prog.cellsOf 84 = 1 := by kernel_rfl
  simp only [e1, e2, e3] at h0 h1 h2
  match cs, hl with
  | [a, b, c], _ =>
    obtain ⟨k0, e0, _⟩ := DataW.trod_int Tryz.underlying3 h0
    simp at e0
    have h1' : DataW.trod enc Tryz.prog w base spare held n' 26 [b] = some y1 := by simpa using h1
    have h2' : DataW.trod enc Tryz.prog w base spare held n' 84 [c] = some y2 := by simpa using h2
    obtain ⟨A, c', l, hv, hev, hlen⟩ := open_nums h1'
    obtain ⟨A2, c2', l2, hv2, hev2, hlen2⟩ := open_takes h2'
    exact ⟨⟨k0, l, l2⟩, ⟨b, c, by rw [e0], by rw [hv]; exact hev, by rw [hv2]; exact hev2⟩, hlen, hlen2⟩
theorem open_txns {n : Nat} {v : Value} {x : DataW H × List MemPlace} (h : DataW.trod enc Tryz.prog w base spare held n 22 [v] = some x) :
    ∃ (A : Option Addr) (c : Nat) (l : List Txn), v = .slice A l.length c ∧ TxnS w (Old w) (.slice A l.length c) l ∧ l.length ≤ maxLen ∧ ∀ t ∈ l, t.writes.length ≤ maxLen ∧ t.reads.length ≤ maxLen :=
  open_rows (R := TxnR) (size := 3) (fun t => t.writes.length ≤ maxLen ∧ t.reads.length ≤ maxLen) ⟨0, [], []⟩ Tryz.underlying22 (by kernel_rfl) (by decide) (fun n cs x h => open_txn (by kernel_rfl) h) h
/-- A history. -/
theorem open_hist {n : Nat} {cs : List Value} {x : DataW H × List MemPlace} (hC : Tryz.prog.cellsOf 24 = 1) (h : DataW.trod enc Tryz.prog w base spare held n 24 cs = some x) :
    ∃ (A : Option Addr) (c : Nat) (l : List Txn), cs = [.slice A l.length c] ∧ TxnS w (Old w) (.slice A l.length c) l ∧ l.length ≤ maxLen ∧ ∀ t ∈ l, t.writes.length ≤ maxLen ∧ t.reads.length ≤ maxLen := by
  obtain ⟨y0, n', _, hl, h0⟩ := trod_struct1 Tryz.underlying24 h
  rw [hC] at hl
  have e1 : Tryz.prog.cellsOf 22 = 1 := by kernel_rfl
  simp only [e1] at h0
  match cs, hl with
  | [a], _ =>
    have h0' : DataW.trod enc Tryz.prog w base spare held n' 22 [a] = some y0 := by simpa using h0
    obtain ⟨A, c, l, hv, h1, h2, h3⟩ := open_txns h0'
    exact ⟨A, c, l, by rw [hv], h1, h2, h3⟩
end
end Go.Proofs.YtfhnamomiaekdaaGreat
