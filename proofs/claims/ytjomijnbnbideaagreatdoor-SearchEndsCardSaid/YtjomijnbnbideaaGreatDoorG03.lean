/-
  A region that draws its order, by an invariant over the operations that are done.
-/
import Derived.Laws.CopyOwn
import Derived.Test.YtjomijnbnbideaaGreatDoorG02
set_option linter.unusedVariables false
set_option linter.unusedSimpArgs false
namespace Go.Inq
open Go
section
variable {P : Program} {ops : Array Oper} {Q : Exit → Act → World → Prop} {a b a0 : Act}

theorem wpAny_inv {Inv : (Nat → Bool) → (Nat → Value) → World → Prop} (hB : floatB ops = true)
    (hstep : ∀ i o, ops[i]? = some o → ∀ (L : Nat → Bool) (vs : Nat → Value) w, L i = false → (∀ j, waitsT .any ops ops.size i j = true → L j = true) → (∀ k, waitsT .any ops ops.size k i = true → L k = false) → Inv L vs w → wpList P ops (fun e a' w' => e = .normal ∧ ∃ v, a' = (acV ops a0 vs i).put o.dst v ∧ Inv (fun j => L j || decide (j = i)) (updV vs i v) w') [o] (acV ops a0 vs i) w)
    (hend : ∀ (L : Nat → Bool) (vs : Nat → Value) w, (∀ j, j < ops.size → L j = true) → Inv L vs w → Q .normal (acV ops a0 vs ops.size) w) :
    ∀ (fuel : Nat) (listed : Array Bool) (a : Act) (w : World) (vs : Nat → Value), Closed .any ops listed → listed.size = ops.size → lacks ops.size (fun j => listed.getD j false) = fuel → Flo ops a0 vs (fun j => listed.getD j false) a →
      Inv (fun j => listed.getD j false) vs w → wpAny P .any ops Q fuel listed a w := by
  have hnone : ∀ (listed : Array Bool), listed.size = ops.size → Region.ready .any ops listed = [] → ∀ i, i < ops.size → listed.getD i false = true := by
    intro listed hsz hr i
    induction i using Nat.strongRecOn with
    | _ i ih =>
      intro hi
      cases hl : listed.getD i false with
      | true => rfl
      | false =>
        exfalso
        have ho : ops[i]? = some ops[i] := Array.getElem?_eq_getElem hi
        have hm : i ∈ Region.ready .any ops listed := by
          rw [mem_ready]
          refine ⟨?_, ops[i], ho, fun e he hb => ?_⟩
          · have hi2 : i < listed.size := by omega
            simp only [Array.getD_eq_getD_getElem?, Array.getElem?_eq_getElem hi2, Option.getD_some] at hl ⊢
            exact hl
          · have h1 := floatB_after hB ho e he hb
            exact ih e.on h1 (by omega)
        rw [hr] at hm
        cases hm
  have hfin : ∀ (listed : Array Bool) (a : Act) (w : World) (vs : Nat → Value), listed.size = ops.size → (∀ i, i < ops.size → listed.getD i false = true) → Flo ops a0 vs (fun j => listed.getD j false) a → Inv (fun j => listed.getD j false) vs w → Q .normal a w := by
    intro listed a w vs hlsz hall hf hI
    have hac := acV_flo (a0 := a0) hB vs ops.size
    have : a = acV ops a0 vs ops.size := by
      have h1 : a.tmps = (acV ops a0 vs ops.size).tmps := by
        refine Array.ext_getElem? fun t => ?_
        refine hf.agree hac fun j o hj _ => ?_
        have hjs := (Array.getElem?_eq_some_iff.1 hj).1
        rw [hall j hjs]
        simp [hjs]
      have h2 : a.defers = (acV ops a0 vs ops.size).defers := by rw [hf.defers, hac.defers]
      cases a
      cases hx : acV ops a0 vs ops.size
      rw [hx] at h1 h2
      simp only at h1 h2
      rw [h1, h2]
    rw [this]
    exact hend _ vs w hall hI
  intro fuel
  induction fuel with
  | zero =>
    intro listed a w vs hcl hsz hlk hf hI
    have hall := lacks_all _ _ hlk
    refine ⟨?_, hfin listed a w vs hsz hall hf hI⟩
    rw [List.eq_nil_iff_forall_not_mem]
    intro i hi
    obtain ⟨h1, o, ho, _⟩ := mem_ready.1 hi
    have his := (Array.getElem?_eq_some_iff.1 ho).1
    have h2 := hall i his
    have hi2 : i < listed.size := by omega
    simp only [Array.getD_eq_getD_getElem?, Array.getElem?_eq_getElem hi2, Option.getD_some] at h1 h2
    rw [h1] at h2
    cases h2
  | succ fuel ih =>
    intro listed a w vs hcl hsz hlk hf hI
    refine ⟨fun hr => hfin listed a w vs hsz (hnone listed hsz hr) hf hI, fun i hi => ?_⟩
    obtain ⟨h1, o, ho, hall⟩ := mem_ready.1 hi
    have his := (Array.getElem?_eq_some_iff.1 ho).1
    have hi2 : i < listed.size := by omega
    have hun : listed.getD i false = false := by
      simp only [Array.getD_eq_getD_getElem?, Array.getElem?_eq_getElem hi2, Option.getD_some] at h1 ⊢
      exact h1
    have hset : ∀ j, (listed.setIfInBounds i true).getD j false = (listed.getD j false || decide (j = i)) := fun j => by
      by_cases hji : j = i
      · subst hji
        simp [Array.getD_eq_getD_getElem?, hi2]
      · rw [getD_set_ne false (Ne.symm hji)]
        simp [hji]
    have hsel := fun cs b => Region.noSelect_spec (ops := ops) (by unfold floatB at hB; rw [Bool.and_eq_true] at hB; exact hB.1) i o cs b ho
    have hac := acV_flo (a0 := a0) hB vs i
    refine wpOp_rel (b := acV ops a0 vs i) (R := fun v w' => Inv (fun j => listed.getD j false || decide (j = i)) (updV vs i v) w') ho hsel (fun t ht => ?_) (by rw [hf.size, hac.size]) (fun v w' hS' => ?_) (hstep i o ho (fun j => listed.getD j false) vs w hun (fun j hj => hcl.ready hj hi) (fun k hk => by
      cases hlk : listed.getD k false with
      | false => rfl
      | true =>
        have := hcl.waits _ _ _ hk hlk
        rw [hun] at this
        cases this) hI)
    · refine hf.agree hac fun j oj hj hd => ?_
      rcases (floatB_pair hB ho hj hd).2 ht with ⟨h2, h3⟩ | ⟨h2, h3⟩ | h2
      · rw [hcl.ready h3 hi]
        simp [h2]
      · have h4 : decide (j < i) = false := by simp; omega
        rw [h4]
        cases hlj : listed.getD j false with
        | false => rfl
        | true =>
          have := hcl.waits _ _ _ h3 hlj
          rw [hun] at this
          cases this
      · subst h2
        rw [hun]
        simp
    · have hf2 : Flo ops a0 (updV vs i v) (fun j => listed.getD j false) a := hf.congr fun j hj => by
        unfold updV
        rw [if_neg]
        rintro rfl
        rw [hun] at hj
        cases hj
      have hput := hf2.put hB ho hset
      have hvi : updV vs i v i = v := by simp [updV]
      rw [hvi] at hput
      refine ih (listed.setIfInBounds i true) _ w' (updV vs i v) (hcl.set_ hi) (by rw [Array.size_setIfInBounds]; exact hsz) ?_ hput ?_
      · have := lacks_one (f := fun j => listed.getD j false) (g := fun j => (listed.setIfInBounds i true).getD j false) hun hset ops.size his
        omega
      · have : (fun j => (listed.setIfInBounds i true).getD j false) = fun j => listed.getD j false || decide (j = i) := funext hset
        rw [this]
        exact hS'

theorem wp_region_inv {id : Nat} {w : World} {l : List Oper} (Inv : (Nat → Bool) → (Nat → Value) → World → Prop) (dp nd : Nat → List Nat) (hm : P.follows .mixedOrders = true) (hB : floatB l.toArray = true)
    (hdp : ((List.range l.length).all fun i => (dp i).all fun j => waitsT .any l.toArray l.length i j) = true) (hnd : ((List.range l.length).all fun i => (nd i).all fun k => waitsT .any l.toArray l.length k i) = true)
    (h0 : Inv (fun _ => false) (fun _ => undef) w.drew)
    (hstep : ∀ i o, l[i]? = some o → ∀ (L : Nat → Bool) (vs : Nat → Value) w, L i = false → (∀ j ∈ dp i, L j = true) → (∀ k ∈ nd i, L k = false) → Inv L vs w → wpList P l.toArray (RelEnd (fun v w' => Inv (fun j => L j || decide (j = i)) (updV vs i v) w') (acV l.toArray a vs i) o.dst) [o] (acV l.toArray a vs i) w)
    (hend : ∀ (L : Nat → Bool) (vs : Nat → Value) w, (∀ j, j < l.length → L j = true) → Inv L vs w → Q .normal (acV l.toArray a vs l.length) w) : (Code.region id l.toArray true).wp P Q a w := by
  have hsz : l.toArray.size = l.length := by simp
  have hget : ∀ i : Nat, l.toArray[i]? = l[i]? := fun i => List.getElem?_toArray ..
  refine wp_region_any hm ?_
  refine wpAny_inv (Inv := Inv) hB (fun i o ho L vs w h1 h2 h3 hI => ?_) (fun L vs w h1 h2 => by rw [hsz]; exact hend L vs w (by rw [← hsz]; exact h1) h2) _ _ a _ (fun _ => undef) (Closed.start _ _ _) (by simp) ?_ (Flo.start fun j => getD_replicate_false _ _) ?_
  · have ho' : l[i]? = some o := by rw [← hget]; exact ho
    have hil : i < l.length := (List.getElem?_eq_some_iff.1 ho').1
    refine hstep i o ho' L vs w h1 (fun j hj => h2 j ?_) (fun k hk => h3 k ?_) hI
    · rw [hsz]
      exact List.all_eq_true.1 (List.all_eq_true.1 hdp i (List.mem_range.2 hil)) j hj
    · rw [hsz]
      exact List.all_eq_true.1 (List.all_eq_true.1 hnd i (List.mem_range.2 hil)) k hk
  · have : (fun j => (Array.replicate l.toArray.size false).getD j false) = fun _ => false := funext fun j => getD_replicate_false _ _
    rw [this, lacks_none]
  · have : (fun j => (Array.replicate l.toArray.size false).getD j false) = fun _ => false := funext fun j => getD_replicate_false _ _
    rw [this]
    exact h0
end
end Go.Inq

namespace Go.Inq
open Go Go.RowKit

theorem wpList_copy_whole {P : Program} {w : World} {ops : Array Oper} {rest : List Oper} {o : Oper} {a : Act} {Q : Exit → Act → World → Prop} {α : Type} (f : α → Value)
    (hgd : o.guard = none) (d s : Operand) (dT sT : TypeId) (ho : o.op = .call { callee := .builtin .copy, args := #[d, s], argTypes := #[dT, sT] })
    (elem : TypeId) (hu : P.underlying dT = some (.slice elem)) (hsz : (P.info? elem).map (·.size) = some 1)
    (g n dc c : Nat) (A : Option Addr) (hd : a.eval d = .slice (some ⟨g, 0, none⟩) n dc) (hs : a.eval s = .slice A n c)
    (cur : Array Value) (t : TypeId) (hg : Blk w g t cur) (hcur : cur.size = n) (l : List α) (hl : l.length = n)
    (hsrc : ∀ i (hi : i < l.length), ∃ b off, A = some ⟨b, off, none⟩ ∧ w.cell? ⟨b, off + i, none⟩ = some (f l[i])) (h1 : ∀ x ∈ l, (f x).oneCell' = true)
    (h : ∀ w', Blk w' g t (l.map f).toArray → w.grownBy w' (some g) → wpList P ops Q rest (a.put o.dst (goInt n)) w') : wpList P ops Q (o :: rest) a w := by
  by_cases h0 : n = 0
  · subst h0
    have : l = [] := List.eq_nil_of_length_eq_zero hl
    subst this
    have hc : cur = #[] := Array.eq_empty_of_size_eq_zero hcur
    subst hc
    exact wpList_copy_nothing hgd d s dT sT ho elem hu hsz _ _ 0 dc 0 c hd hs rfl (h w (by simpa using hg) ⟨rfl, rfl, rfl, Nat.le_refl _, fun _ _ _ => rfl⟩)
  · obtain ⟨b, off, rfl, _⟩ := hsrc 0 (by omega)
    have hcs : (l.map f).length = n := by simpa using hl
    refine wpList_copy_own hgd d s dT sT ho elem hu hsz g 0 n dc ⟨b, off, none⟩ n c hd hs cur t hg (l.map f) (by rw [hcs]; simp [Nat.min_def]) (fun j v hj => ?_) (by rw [hcs]; omega) (fun v hv => ?_) ?_
    · rw [List.getElem?_map] at hj
      cases hlj : l[j]? with
      | none => rw [hlj] at hj; cases hj
      | some x =>
        rw [hlj] at hj
        injection hj with hj
        obtain ⟨hjl, rfl⟩ := List.getElem?_eq_some_iff.1 hlj
        obtain ⟨b', off', hA, hc⟩ := hsrc j hjl
        injection hA with hA
        injection hA with e1 e2
        subst e1 e2
        rw [Addr.add_lit, ← hj]
        exact hc
    · obtain ⟨x, hx, rfl⟩ := List.mem_map.1 hv
      exact h1 x hx
    · rw [hcs]
      have e : (cur.toList.take 0 ++ (l.map f ++ cur.toList.drop (0 + n))).toArray = (l.map f).toArray := by
        rw [List.drop_of_length_le (by simp; omega)]; simp
      rw [e]
      exact h _ (setRow_heap w g cur _ t _ hg) ⟨rfl, rfl, rfl, by simp [World.setRow], fun k hk hne => setRow_other w g k _ (fun e => hne (by rw [e]))⟩

section
variable {w W : World} {o : Obj} {K : Nat → Prop}
theorem Blk.allocEq {g : Nat} {t : TypeId} {cs : Array Value} (h : Blk w g t cs) (e : w.alloc o = W) : Blk W g t cs := by subst e; exact h.alloc o
theorem Agree.allocEq (e : w.alloc o = W) (hk : ∀ b, K b → b < w.heap.size) : Agree K w W := by subst e; exact Agree.alloc hk o
theorem below_allocEq {B : Nat} {w0 : World} (h : Below B w0 w) (e : w.alloc o = W) (hB : B ≤ w.heap.size) : Below B w0 W := by subst e; exact h.alloc hB o
theorem Blk.newEq {t : TypeId} {cs : Array Value} (e : w.alloc (.cells cs t) = W) : Blk W w.heap.size t cs := by subst e; exact Blk.new _ _ _
theorem Blk.two1 {t : TypeId} {cs : Array Value} (e : (w.alloc (.cells cs t)).alloc o = W) : Blk W w.heap.size t cs := by subst e; exact (Blk.new _ _ _).alloc _
theorem Blk.two2 {t : TypeId} {cs : Array Value} (e : (w.alloc o).alloc (.cells cs t) = W) : Blk W (w.heap.size + 1) t cs := by
  subst e
  have := Blk.new (w.alloc o) t cs
  simpa using this
theorem size_two {o' : Obj} (e : (w.alloc o).alloc o' = W) : W.heap.size = w.heap.size + 2 := by subst e; simp
theorem below_two {o' : Obj} (e : (w.alloc o).alloc o' = W) : Below w.heap.size w W := by subst e; exact ((Below.refl _ _).alloc (Nat.le_refl _) _).alloc (by simp) _
theorem Blk.three1 {o' : Obj} {t : TypeId} {cs : Array Value} (e : ((w.alloc (.cells cs t)).alloc o).alloc o' = W) : Blk W w.heap.size t cs := by subst e; exact ((Blk.new _ _ _).alloc _).alloc _
theorem Blk.three2 {o' : Obj} {t : TypeId} {cs : Array Value} (e : ((w.alloc o).alloc (.cells cs t)).alloc o' = W) : Blk W (w.heap.size + 1) t cs := by
  subst e
  have := (Blk.new (w.alloc o) t cs).alloc o'
  simpa using this
theorem Blk.three3 {o' : Obj} {t : TypeId} {cs : Array Value} (e : ((w.alloc o).alloc o').alloc (.cells cs t) = W) : Blk W (w.heap.size + 1 + 1) t cs := by
  subst e
  have := Blk.new ((w.alloc o).alloc o') t cs
  simpa using this
theorem size_three {o' o'' : Obj} (e : ((w.alloc o).alloc o').alloc o'' = W) : W.heap.size = w.heap.size + 3 := by subst e; simp
theorem below_three {o' o'' : Obj} (e : ((w.alloc o).alloc o').alloc o'' = W) : Below w.heap.size w W := by subst e; exact (((Below.refl _ _).alloc (Nat.le_refl _) _).alloc (by simp) _).alloc (by simp; omega) _
theorem size_allocEq (e : w.alloc o = W) : W.heap.size = w.heap.size + 1 := by subst e; simp
end
theorem grown_trans {w w' w'' : World} {r : Option Nat} (h : w.grownBy w' r) (h' : w'.grownBy w'' r) : w.grownBy w'' r :=
  ⟨h'.os.trans h.os, h'.tape.trans h.tape, h'.output.trans h.output, Nat.le_trans h.size h'.size, fun k hk hne => (h'.block k (Nat.lt_of_lt_of_le hk h.size) hne).trans (h.block k hk hne)⟩
theorem grown_below {w w' : World} {B : Nat} {r : Option Nat} (hb : Below B w w') (hB : w.heap.size ≤ B) : w.grownBy w' r := ⟨hb.os, hb.tape, hb.output, hb.size, fun k hk _ => hb.block k (by omega)⟩
theorem grown_set {w : World} (g i : Nat) (u : Value) : w.grownBy (w.setCell ⟨g, i, none⟩ u) (some g) :=
  ⟨rfl, rfl, rfl, by simp, fun k hk hne => Below.heap_setCell w ⟨g, i, none⟩ u k (fun e => hne (by simp at e; rw [e]))⟩
theorem grown_drew {w : World} {r : Option Nat} : w.grownBy w.drew r := ⟨rfl, rfl, rfl, Nat.le_refl _, fun _ _ _ => rfl⟩
theorem Agree.ofGrown {K : Nat → Prop} {w w' : World} {g : Nat} (h : w.grownBy w' (some g)) (hK : ∀ b, K b → b < g) (hg : g ≤ w.heap.size) : Agree K w w' := Agree.grown h fun b hb => ⟨by have := hK b hb; omega, by have := hK b hb; simp; omega⟩
end Go.Inq
