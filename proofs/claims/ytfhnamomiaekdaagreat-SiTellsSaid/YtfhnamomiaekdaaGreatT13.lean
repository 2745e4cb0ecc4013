/-
  Memory words of layer 20: who wrote a key last; rows of takes, one for each transaction; no program in sight but its types.
-/
import Derived.Test.YtfhnamomiaekdaaGreatT08
set_option linter.unusedVariables false
set_option linter.unusedSimpArgs false
namespace Go.Proofs.YtfhnamomiaekdaaGreat
open Go.RowKit Go.Inq
set_option maxHeartbeats 1000000

theorem take_one : ∀ (x : It), ∀ u ∈ It.enc x, u.oneCell' = true := by
  intro x u hu
  simp [It.enc] at hu
  rcases hu with rfl | rfl <;> rfl
theorem infoTk : (Tryz.prog.info? 83).map (fun i => (i.zero, i.size, i.bytes)) = some (some (.agg #[.int .i64 0, .int .i64 0]), 2, 16) := by kernel_rfl
theorem infoTks : (Tryz.prog.info? 84).map (fun i => (i.zero, i.size, i.bytes)) = some (some (.slice none 0 0), 1, 24) := by kernel_rfl
/-- Numbers by keys, as cells. -/
def KeyA (W : World) (Bl : Nat) (ty : TypeId) (n : Nat) (f : Int → Int) : Prop := ∃ cs, Blk W Bl ty cs ∧ cs.size = n ∧ ∀ κ : Nat, κ < n → cs[κ]? = some (.int .i64 (f (κ : Int)))
section
variable {W W' : World} {Bl n B : Nat} {ty : TypeId} {f g : Int → Int}
theorem KeyA.lt (h : KeyA W Bl ty n f) : Bl < W.heap.size := by
  obtain ⟨cs, h1, _⟩ := h
  exact h1.lt
theorem KeyA.cell (h : KeyA W Bl ty n f) (κ : Nat) (hκ : κ < n) : W.cell? ⟨Bl, κ, none⟩ = some (.int .i64 (f (κ : Int))) ∧ W.frozen? ⟨Bl, κ, none⟩ = false := by
  obtain ⟨cs, h1, h2, h3⟩ := h
  exact ⟨(h1.cell _).trans (h3 κ hκ), h1.frozen _⟩
theorem KeyA.store (h : KeyA W Bl ty n f) (κ : Nat) (hκ : κ < n) (x : Int) : KeyA (W.setCell ⟨Bl, κ, none⟩ (.int .i64 x)) Bl ty n fun k => if k = (κ : Int) then x else f k := by
  obtain ⟨cs, h1, h2, h3⟩ := h
  refine ⟨_, h1.set_ _ _, by simpa using h2, fun u hu => ?_⟩
  rw [Array.getElem?_setIfInBounds]
  dsimp only
  by_cases e : κ = u
  · subst e
    rw [if_pos rfl, if_pos (by rw [h2]; exact hκ), if_pos rfl]
  · rw [if_neg e, if_neg (by omega)]
    exact h3 u hu
theorem KeyA.below (h : KeyA W Bl ty n f) (hb : Below B W W') (hB : Bl < B) : KeyA W' Bl ty n f := by
  obtain ⟨cs, h1, h2⟩ := h
  exact ⟨cs, h1.below hb hB, h2⟩
theorem KeyA.agree (h : KeyA W Bl ty n f) (hb : W'.heap[Bl]? = W.heap[Bl]?) : KeyA W' Bl ty n f := by
  obtain ⟨cs, h1, h2⟩ := h
  exact ⟨cs, hb.trans h1, h2⟩
theorem KeyA.congr (h : KeyA W Bl ty n f) (he : ∀ κ, f κ = g κ) : KeyA W Bl ty n g := by
  obtain ⟨cs, h1, h2, h3⟩ := h
  exact ⟨cs, h1, h2, fun κ hκ => by rw [h3 κ hκ, he]⟩
theorem KeyA.new (h : Blk W Bl ty (Array.replicate n (.int .i64 0))) : KeyA W Bl ty n fun _ => 0 := ⟨_, h, by simp, fun κ hκ => by simp [hκ]⟩
end
/-- Rows of takes, one for each of n. -/
def PlayA (W : World) (base Bo n : Nat) (L : Nat → List It) : Prop := ∃ cs, Blk W Bo 84 cs ∧ cs.size = n ∧ ∀ t, t < n → ∃ A c, cs[t]? = some (.slice A (L t).length c) ∧ ItS W (TyK base [83] W) (.slice A (L t).length c) (L t)
section
variable {W W' : World} {base Bo n B : Nat} {L L' : Nat → List It}
theorem PlayA.new (h : Blk W Bo 84 (Array.replicate n (.slice none 0 0))) : PlayA W base Bo n fun _ => [] := ⟨_, h, by simp, fun t ht => ⟨none, 0, by simp [ht], SlR.nil _ _ _ _ _ _⟩⟩
theorem PlayA.below (h : PlayA W base Bo n L) (hb : Below W.heap.size W W') : PlayA W' base Bo n L := by
  obtain ⟨cs, h1, h2, h3⟩ := h
  refine ⟨cs, h1.below hb h1.lt, h2, fun t ht => ?_⟩
  obtain ⟨A, c, h4, h5⟩ := h3 t ht
  exact ⟨A, c, h4, SlR.keep (Flat.stab _) h5 (TyK.below hb (Nat.le_refl _)) fun _ g => TyK.step (TyK.below hb (Nat.le_refl _)) g⟩
theorem PlayA.congr (h : PlayA W base Bo n L) (he : ∀ t, t < n → L t = L' t) : PlayA W base Bo n L' := by
  obtain ⟨cs, h1, h2, h3⟩ := h
  exact ⟨cs, h1, h2, fun t ht => by rw [← he t ht]; exact h3 t ht⟩
theorem PlayA.at_ (h : PlayA W base Bo n L) {t : Nat} (ht : t < n) : ∃ A c, W.cell? ⟨Bo, t, none⟩ = some (.slice A (L t).length c) ∧ ItS W (Old W) (.slice A (L t).length c) (L t) := by
  obtain ⟨cs, h1, h2, h3⟩ := h
  obtain ⟨A, c, h4, h5⟩ := h3 t ht
  exact ⟨A, c, (h1.cell _).trans h4, SlR.fit (Flat.stab _) h5 fun _ g => g.lt⟩
end
theorem PlayA.key {W : World} {base Bo n Bl m : Nat} {ty : TypeId} {f : Int → Int} {L : Nat → List It} (h : PlayA W base Bo n L) (hk : KeyA W Bl ty m f) (ht : ty ≠ 83) (hne : Bo ≠ Bl) (κ : Nat) (v : Value) : PlayA (W.setCell ⟨Bl, κ, none⟩ v) base Bo n L := by
  obtain ⟨cs, h1, h2, h3⟩ := h
  obtain ⟨ck, k1, _⟩ := hk
  refine ⟨cs, h1.far hne v, h2, fun t ht' => ?_⟩
  obtain ⟨A, c, h4, h5⟩ := h3 t ht'
  have ha : Agree (TyK base [83] W) W (W.setCell ⟨Bl, κ, none⟩ v) := TyK.set_ k1 (by simpa using ht) v
  exact ⟨A, c, h4, SlR.keep (Flat.stab _) h5 ha fun _ g => TyK.step ha g⟩
/-- One row grows, from a world on: the others are as they were. -/
def PlayG (Ws W : World) (base Bo n t : Nat) (L : Nat → List It) (v : Value) (l : List It) : Prop :=
  (∃ cs : Array Value, (cs.size = n ∧ Blk Ws Bo 84 cs) ∧ Blk W Bo 84 (cs.setIfInBounds t v) ∧ ∀ u, u < n → u ≠ t → ∃ A c, cs[u]? = some (.slice A (L u).length c) ∧ ItS Ws (TyK base [83] Ws) (.slice A (L u).length c) (L u)) ∧
  Agree (TyK base [83] Ws) Ws W ∧ W.ownsRow Ws.heap.size 83 2 v l.length (l.map It.enc).flatten ∧ base ≤ Ws.heap.size ∧ Ws.heap.size ≤ W.heap.size
theorem PlayA.start {W : World} {base Bo n t : Nat} {L : Nat → List It} (h : PlayA W base Bo n L) (ht : t < n) (he : W.cell? ⟨Bo, t, none⟩ = some (.slice none 0 0)) (hb : base ≤ W.heap.size) : PlayG W W base Bo n t L (.slice none 0 0) [] := by
  obtain ⟨cs, h1, h2, h3⟩ := h
  refine ⟨⟨cs, ⟨h2, h1⟩, ?_, fun u hu _ => h3 u hu⟩, Agree.refl _ _, World.ownsRow_nil _ _ _ _, hb, Nat.le_refl _⟩
  have hc : cs[t]? = some (.slice none 0 0) := (h1.cell t).symm.trans he
  have : cs.setIfInBounds t (.slice none 0 0) = cs := by
    refine Array.ext_getElem? fun i => ?_
    rw [Array.getElem?_setIfInBounds]
    by_cases e : t = i
    · subst e
      rw [if_pos rfl, if_pos (by omega), hc]
    · rw [if_neg e]
  rw [this]
  exact h1
theorem PlayG.done {Ws W : World} {base Bo n t : Nat} {L : Nat → List It} {v : Value} {l : List It} (h : PlayG Ws W base Bo n t L v l) (ht : t < n) : PlayA W base Bo n fun u => if u = t then l else L u := by
  obtain ⟨⟨cs, ⟨h1, h0⟩, h2, h3⟩, h4, h5, h6, h7⟩ := h
  refine ⟨_, h2, by simpa using h1, fun u hu => ?_⟩
  rw [Array.getElem?_setIfInBounds]
  by_cases e : t = u
  · subst e
    rw [if_pos rfl, if_pos (by omega)]
    obtain ⟨A, c, rfl⟩ := own_slice h5
    simp only [if_true]
    exact ⟨A, c, rfl, own_slT (own_baseT h5 h6) (fun _ => rfl) (by simp)⟩
  · rw [if_neg e]
    dsimp only
    rw [if_neg (show ¬ u = t from fun h => e h.symm)]
    obtain ⟨A, c, g1, g2⟩ := h3 u hu (fun h => e h.symm)
    exact ⟨A, c, g1, SlR.keep (Flat.stab _) g2 h4 fun _ g => TyK.step h4 g⟩
theorem PlayG.cell {Ws W : World} {base Bo n t : Nat} {L : Nat → List It} {v : Value} {l : List It} (h : PlayG Ws W base Bo n t L v l) (ht : t < n) : W.cell? ⟨Bo, t, none⟩ = some v ∧ W.frozen? ⟨Bo, t, none⟩ = false ∧ ∃ cs, Blk W Bo 84 cs := by
  obtain ⟨⟨cs, ⟨h1, h0⟩, h2, h3⟩, _⟩ := h
  refine ⟨(h2.cell t).trans ?_, h2.frozen _, _, h2⟩
  rw [Array.getElem?_setIfInBounds, if_pos rfl, if_pos (by omega)]
theorem PlayG.other {Ws W : World} {base Bo n t : Nat} {L : Nat → List It} {v : Value} {l : List It} (h : PlayG Ws W base Bo n t L v l) {u : Nat} (hu : u ≠ t) : W.cell? ⟨Bo, u, none⟩ = Ws.cell? ⟨Bo, u, none⟩ := by
  obtain ⟨⟨cs, ⟨h1, h0⟩, h2, h3⟩, _⟩ := h
  rw [h2.cell, h0.cell, Array.getElem?_setIfInBounds, if_neg (fun e => hu e.symm)]
theorem PlayG.below {Ws W W' : World} {base Bo n t : Nat} {L : Nat → List It} {v : Value} {l : List It} (h : PlayG Ws W base Bo n t L v l) (hb : Below W.heap.size W W') : PlayG Ws W' base Bo n t L v l := by
  obtain ⟨⟨cs, h1, h2, h3⟩, h4, h5, h6, h7⟩ := h
  exact ⟨⟨cs, h1, h2.below hb h2.lt, h3⟩, h4.trans (Agree.below hb fun b g => by have := g.lt; omega), own_below h5 hb (Nat.le_refl _), h6, Nat.le_trans h7 hb.size⟩
/-- The row grows, and stands in its place again. -/
theorem PlayG.push {Ws W W' : World} {base Bo n t : Nat} {L : Nat → List It} {v v' : Value} {l l' : List It} (h : PlayG Ws W base Bo n t L v l) (hg : W.grownBy W' v.ownBlock) (ho : W'.ownsRow Ws.heap.size 83 2 v' l'.length (l'.map It.enc).flatten) :
    PlayG Ws (W'.setCell ⟨Bo, t, none⟩ v') base Bo n t L v' l' := by
  obtain ⟨⟨cs, h1, h2, h3⟩, h4, h5, h6, h7⟩ := h
  have hv : ∀ g, v.ownBlock = some g → Ws.heap.size ≤ g := fun g e => (h5.lt g e).1
  have hne : some Bo ≠ v.ownBlock := fun e => by
    obtain ⟨cs', h9⟩ := own_blk h5 e.symm
    have := h2.symm.trans h9
    simp at this
  have hk := h2.grown hg hne
  have hk2 := hk.set_ t v'
  have hA : Agree (TyK base [83] Ws) Ws W' := h4.trans (Agree.grown hg fun b g => ⟨by have := g.lt; omega, fun e => by have := hv b e.symm; have := g.lt; omega⟩)
  have hoff : ¬ TyK base [83] Ws Bo := fun g => by
    have h8 := TyK.step hA g
    exact TyK.off hk (by decide) h8
  refine ⟨⟨cs, h1, ?_, h3⟩, hA.trans (Agree.setCell ⟨Bo, t, none⟩ hoff v'), ?_, h6, by have := hg.size; simp; omega⟩
  · have : (cs.setIfInBounds t v).setIfInBounds t v' = cs.setIfInBounds t v' := by
      refine Array.ext_getElem? fun i => ?_
      simp only [Array.getElem?_setIfInBounds, Array.size_setIfInBounds]
      split <;> rfl
    rw [← this]
    exact hk2
  · exact own_setCell ho (p := ⟨Bo, t, none⟩) (fun e => by
      obtain ⟨cs', h9⟩ := own_blk ho e
      have := hk.symm.trans h9
      simp at this) v'
end Go.Proofs.YtfhnamomiaekdaaGreat
