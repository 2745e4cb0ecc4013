/-
  A row of choices of the call's own, of which one is written; no program in sight.
-/
import Derived.StillTailTactics
import Derived.Test.YtjomijnbnbideaaGreatDoorM10
import Derived.Test.YtjomijnbnbideaaGreatDoorM02
import Derived.Test.YtjomijnbnbideaaGreatDoorM15
set_option linter.unusedVariables false
set_option linter.unusedSimpArgs false
namespace Go.Proofs.YtjomijnbnbideaaGreatDoor
open Go.RowKit Go.Inq
set_option maxHeartbeats 1000000

theorem encC_set : ∀ (l : List Cho) (i : Nat) (d : Cho), i < l.length → ((((l.map encC).flatten.set (i * 3) (.int .i64 d.key)).set (i * 3 + 1) (.int .i64 d.a)).set (i * 3 + 2) (.int .i64 d.b)) = ((l.set i d).map encC).flatten
  | [], i, d, h => by simp at h
  | x :: l, 0, d, h => by simp [encC]
  | x :: l, i + 1, d, h => by
    have ih := encC_set l i d (by simpa using h)
    rw [show (i + 1) * 3 = i * 3 + 1 + 1 + 1 by omega]
    simp only [List.map_cons, List.flatten_cons, encC, List.cons_append, List.nil_append, sS]
    rw [← ih]
def setC (w : World) (g i : Nat) (d : Cho) : World := ((w.setCell ⟨g, i * 3, none⟩ (.int .i64 d.key)).setCell ⟨g, i * 3 + 1, none⟩ (.int .i64 d.a)).setCell ⟨g, i * 3 + 2, none⟩ (.int .i64 d.b)
theorem OwnC.store {w : World} {base : Nat} {A : Option Addr} {n c : Nat} {l : List Cho} (h : OwnC w base (.slice A n c) l) {i : Nat} (hi : i < l.length) :
    ∃ g cs, A = some ⟨g, 0, none⟩ ∧ base ≤ g ∧ g < w.heap.size ∧ Blk w g 49 cs ∧ cs[i * 3]? = some (.int .i64 l[i].key) ∧ cs[i * 3 + 1]? = some (.int .i64 l[i].a) ∧ cs[i * 3 + 2]? = some (.int .i64 l[i].b) ∧ ∀ d, OwnC (setC w g i d) base (.slice A n c) (l.set i d) := by
  have hat := (OwnC.sl (K := fun _ => True) h (fun _ _ _ => trivial)).at_ hi
  have h0 := h
  rcases h.2 with ⟨_, h4⟩ | ⟨g, cap, cur, hv, hg, hh, h6, h7, h8, h9⟩
  · omega
  · simp only [Value.slice.injEq] at hv
    obtain ⟨rfl, hn, rfl⟩ := hv
    have hk : Blk w g 49 cur := hh
    obtain ⟨b, off, e, -, c0, c1, c2⟩ := hat
    injection e with e
    injection e with e1 e2
    subst e1 e2
    rw [Nat.zero_add] at c0 c1 c2
    rw [hk.cell] at c0 c1 c2
    refine ⟨g, cur, rfl, hg, hk.lt, hk, c0, c1, c2, fun d => ?_⟩
    have hb2 := ((hk.set_ (i * 3) (.int .i64 d.key)).set_ (i * 3 + 1) (.int .i64 d.a)).set_ (i * 3 + 2) (.int .i64 d.b)
    refine ⟨?_, .inr ⟨g, c, _, by simp only [Value.slice.injEq, List.length_set]; exact ⟨trivial, hn, trivial⟩, hg, hb2, by rw [List.length_set]; exact h6, h7, by simpa using h8, ?_⟩⟩
    · rw [← encC_set l i d hi, List.length_set, List.length_set, List.length_set, List.length_set]
      exact h.1
    · rw [List.length_set, ← encC_set l i d hi, ← h9]
      simp only [Array.toList_setIfInBounds, List.take_set]
def turnW (w : World) (g i : Nat) (a b : Value) : World := (w.setCell ⟨g, i * 3 + 1, none⟩ a).setCell ⟨g, i * 3 + 2, none⟩ b
theorem turnW_below {B : Nat} {w X : World} {g i : Nat} {a b : Value} (h : Below B w X) (hp : B ≤ g) : Below B w (turnW X g i a b) := (h.setCell (p := ⟨g, i * 3 + 1, none⟩) hp _).setCell (p := ⟨g, i * 3 + 2, none⟩) hp _
theorem turnW_far {X : World} {g i q : Nat} {a b : Value} {t : TypeId} {cs : Array Value} (h : Blk X q t cs) (hn : q ≠ g) : Blk (turnW X g i a b) q t cs := (h.far (p := ⟨g, i * 3 + 1, none⟩) hn _).far (p := ⟨g, i * 3 + 2, none⟩) hn _
theorem OwnC.turn {w : World} {base : Nat} {A : Option Addr} {n c : Nat} {l : List Cho} (h : OwnC w base (.slice A n c) l) {i : Nat} (hi : i < l.length) :
    ∃ g cs, A = some ⟨g, 0, none⟩ ∧ base ≤ g ∧ g < w.heap.size ∧ Blk w g 49 cs ∧ cs[i * 3]? = some (.int .i64 l[i].key) ∧ cs[i * 3 + 1]? = some (.int .i64 l[i].a) ∧ cs[i * 3 + 2]? = some (.int .i64 l[i].b) ∧ ∀ x y, OwnC (turnW w g i (.int .i64 x) (.int .i64 y)) base (.slice A n c) (l.set i ⟨l[i].key, x, y⟩) := by
  have hat := (OwnC.sl (K := fun _ => True) h (fun _ _ _ => trivial)).at_ hi
  have h0 := h
  rcases h.2 with ⟨_, h4⟩ | ⟨g, cap, cur, hv, hg, hh, h6, h7, h8, h9⟩
  · omega
  · simp only [Value.slice.injEq] at hv
    obtain ⟨rfl, hn, rfl⟩ := hv
    have hk : Blk w g 49 cur := hh
    obtain ⟨b, off, e, -, c0, c1, c2⟩ := hat
    injection e with e
    injection e with e1 e2
    subst e1 e2
    rw [Nat.zero_add] at c0 c1 c2
    rw [hk.cell] at c0 c1 c2
    refine ⟨g, cur, rfl, hg, hk.lt, hk, c0, c1, c2, fun x y => ?_⟩
    have hb2 := (hk.set_ (i * 3 + 1) (.int .i64 x)).set_ (i * 3 + 2) (.int .i64 y)
    have hsame : cur.setIfInBounds (i * 3) (.int .i64 l[i].key) = cur := by
      refine Array.ext (by simp) fun j h1 h2 => ?_
      rw [Array.getElem_setIfInBounds]
      split
      · rename_i e
        subst e
        have := Array.getElem?_eq_getElem h2
        rw [c0] at this
        injection this
      · rfl
    refine ⟨?_, .inr ⟨g, c, _, by simp only [Value.slice.injEq, List.length_set]; exact ⟨trivial, hn, trivial⟩, hg, hb2, by rw [List.length_set]; exact h6, h7, by simpa using h8, ?_⟩⟩
    · rw [← encC_set l i ⟨l[i].key, x, y⟩ hi, List.length_set, List.length_set, List.length_set, List.length_set]
      exact h.1
    · rw [List.length_set, ← encC_set l i ⟨l[i].key, x, y⟩ hi, ← h9]
      simp only [Array.toList_setIfInBounds, List.take_set]
      have : cur.toList.set (i * 3) (.int .i64 l[i].key) = cur.toList := by
        have := congrArg Array.toList hsame
        simpa using this
      have ht : (List.take (l.length * 3) cur.toList).set (i * 3) (.int .i64 l[i].key) = List.take (l.length * 3) cur.toList := by rw [← List.take_set, this]
      rw [ht, ← List.take_set]
end Go.Proofs.YtjomijnbnbideaaGreatDoor

namespace Go.Proofs.YtjomijnbnbideaaGreatDoor
open Go.RowKit Go.Inq
set_option maxHeartbeats 4000000
attribute [local go_sem ↓] Go.wp_at_zero Go.wp_at_succ

theorem sizeU12 : (Tryz.prog.info? 145).map (·.size) = some 1 := by kernel_rfl
set_option maxRecDepth 100000 in
theorem add12_any (n : Nat) (A : Option Addr) (c : Nat) (E : Edges) (a b : Nat) (ha : a < n) (hb : b < n) (K : Nat → Prop) (w : World) (h : GrS w K n A c E) (hK : ∀ b, K b → b < w.heap.size) :
    Calls Tryz.prog 145 #[.agg #[.int .i64 n, .slice A n c], .int .i64 a, .int .i64 b] w (OutG w n (orE E (oneE a b))) := by
  have hB : Below w.heap.size w ((w.alloc (.cells #[.int .i64 n, .slice A n c] 56)).alloc (.cells #[.int .i64 0, .slice none 0 0] 56)) := hB_box.alloc (by simp) _
  have k0 : Blk ((w.alloc (.cells #[.int .i64 n, .slice A n c] 56)).alloc (.cells #[.int .i64 0, .slice none 0 0] 56)) w.heap.size 56 #[.int .i64 n, .slice A n c] := (Blk.new _ _ _).alloc _
  have k1 : Blk ((w.alloc (.cells #[.int .i64 n, .slice A n c] 56)).alloc (.cells #[.int .i64 0, .slice none 0 0] 56)) (w.heap.size + 1) 56 #[.int .i64 0, .slice none 0 0] := by
    have := Blk.new (w.alloc (.cells #[.int .i64 n, .slice A n c] 56)) 56 #[.int .i64 0, .slice none 0 0]
    simpa using this
  have hg := hide (h.keep (Agree.below hB hK) (fun b hb => hb))
  have hK2 : ∀ b, K b → b < ((w.alloc (.cells #[.int .i64 n, .slice A n c] 56)).alloc (.cells #[.int .i64 0, .slice none 0 0] 56)).heap.size := fun b hb => by have := hK b hb; simp; omega
  have hn := h.n64
  have ha1 : decide ((a : Int) < 0) = false := by simp
  have hb1 : decide ((b : Int) < 0) = false := by simp
  have ha2 : decide ((n : Int) ≤ (a : Int)) = false := by simp; omega
  have hb2 : decide ((n : Int) ≤ (b : Int)) = false := by simp; omega
  have ha3 : decide (n ≤ a) = false := by simp; omega
  have hb3 : decide (n ≤ b) = false := by simp; omega
  clear h
  replace hK := hide hK
  go_enter Tryz.func145, Tryz.ntmps145
  go_wp2_with fail
  refine (right12_any n _ c E K _ hg.out hK2).mono ?_
  rintro e w1 ⟨rfl, hbb1⟩
  have hg1 := hide (hg.out.keep (Agree.below hbb1 hK2) (fun b hb => hb))
  have hK3 := hide (show ∀ b, K b → b < w1.heap.size from fun b hb => Nat.lt_of_lt_of_le (hK2 b hb) hbb1.size)
  have hs1 : w.heap.size + 2 ≤ w1.heap.size := by have := hbb1.size; simpa using this
  replace k0 := k0.below hbb1 k0.lt
  replace k1 := k1.below hbb1 k1.lt
  have hbb2 := hB.trans (hbb1.mono hB.size)
  clear hg hbb1 hB hK2
  have c0 := Blk.n0 k0
  have c1 := Blk.n1 k0
  go_wp2_with fail
  refine (new12_any n hn _).mono ?_
  rintro e w2 ⟨g, hgs, rfl, kR, hbb3⟩
  clear c0 c1
  have hg2 := hide (hg1.out.keep (Agree.below hbb3 hK3.out) (fun b hb => hb))
  have k0' := k0.below hbb3 k0.lt
  have k1' := k1.below hbb3 k1.lt
  have hbb4 := hbb2.trans (hbb3.mono hbb2.size)
  have hs2 : w1.heap.size ≤ w2.heap.size := hbb3.size
  have hgl := kR.lt
  clear hbb3 hbb2 k0 k1 hg1
  have k2 : Blk (w2.alloc (.cells #[.int .i64 n, .slice (some ⟨g, 0, none⟩) n n] 56)) w2.heap.size 56 #[.int .i64 n, .slice (some ⟨g, 0, none⟩) n n] := Blk.new _ _ _
  have m0 := k0'.alloc (.cells #[.int .i64 n, .slice (some ⟨g, 0, none⟩) n n] 56)
  have m1 := k1'.alloc (.cells #[.int .i64 n, .slice (some ⟨g, 0, none⟩) n n] 56)
  have mR := kR.alloc (.cells #[.int .i64 n, .slice (some ⟨g, 0, none⟩) n n] 56)
  have hK4 := hide (show ∀ b, K b → b < w2.heap.size from fun b hb => Nat.lt_of_lt_of_le (hK3.out b hb) hs2)
  have hg3 := hide (hg2.out.keep (Agree.alloc hK4.out (.cells #[.int .i64 n, .slice (some ⟨g, 0, none⟩) n n] 56)) (fun b hb => hb))
  have hbb5 := hbb4.alloc (by omega) (.cells #[.int .i64 n, .slice (some ⟨g, 0, none⟩) n n] 56)
  have hs3 : (w2.alloc (.cells #[.int .i64 n, .slice (some ⟨g, 0, none⟩) n n] 56)).heap.size = w2.heap.size + 1 := by simp
  have c1 := Blk.n1 m0
  clear hbb4 kR k0' k1' hg2
  have hsrc := hide (fun i (hi : i < (rowsG n E).length) => (U64S.at_ hg3.out.sl hi))
  have hcur : (rowsB n noE).size = n := by simp [rowsB, rowsG_length]
  replace hcur := hide hcur
  go_wp2_with (refine wpList_copy_whole (fun x : Nat => Value.int .u64 x) rfl (.tmp 41) (.tmp 43) 54 54 rfl 145 Tryz.underlying54 sizeU12 g n n c A rfl rfl (rowsB n noE) 145 mR hcur.out (rowsG n E) (rowsG_length n E) (fun i hi => by obtain ⟨b, off, hA, _, hc⟩ := hsrc.out i hi; exact ⟨b, off, hA, hc⟩) (fun x _ => rfl) ?_; intro w4 kR4 hg4)
  have kR5 : Blk w4 g 145 (rowsB n E) := kR4
  have k24 := k2.grown hg4 (by simp; omega)
  have k14 := m1.grown hg4 (by simp; omega)
  have hb4 := below_grown hbb5 hg4 hbb5.size (by intro k hk; injection hk with hk; omega)
  have hs4 := hg4.size
  rw [hs3] at hs4
  have d1 := k24.cell 1
  have d0 := k24.cell 0
  have j0 := k14.cell 0
  have j1 := k14.cell 1
  have jf := k14.frozen 0
  have jf1 := k14.frozen 1
  have e0 := kR5.cell a
  rw [rowsB_at ha] at e0
  simp only [gA, gZ, gS] at d1 d0 j0 j1
  have f0 := kR5.frozen a
  have h64 := hide (setB_64 (p := E a) hn)
  have hi1 : (0 : Int) ≤ (a : Int) := Int.natCast_nonneg _
  have hi2 : (a : Int) < (n : Int) := by omega
  have hadd := hide (rowsB_add (E := E) ha hb hn)
  clear kR4 mR k2 m0 m1 hbb5 hg4 hg3 hsrc c1 hcur
  refine wp_region_still_tail 11 (by kernel_rfl) (by kernel_rfl) ?_
  simp only [List.take_succ_cons, List.take_zero, List.drop_succ_cons, List.drop_zero]
  repeat still_step
  still_call ((with10_any _ h64.out b _).mono fun _ _ h => ⟨h.1, h.2.symm⟩)
  repeat still_step
  refine wpStill_nil ?_
  change wpList _ _ _ _ _ w4.drew
  go_wp2
  have n1 : g ≠ w.heap.size + 1 := by omega
  have n2 : w.heap.size + 1 ≠ g := by omega
  have kF0 := (((kR5.set_ a (.int .u64 (withB (setB (E a) n) (b : Int) : Nat))).far (p := ⟨w.heap.size + 1, 0, none⟩) n1 (.int .i64 n)).far (p := ⟨w.heap.size + 1, 1, none⟩) n1 (.slice (some ⟨g, 0, none⟩) n n)).drew
  rw [hadd.out] at kF0
  have hF := ((((hb4.setCell (p := ⟨g, a, none⟩) (by simp; omega) (.int .u64 (withB (setB (E a) n) (b : Int) : Nat))).setCell (p := ⟨w.heap.size + 1, 0, none⟩) (by simp) (.int .i64 n)).setCell (p := ⟨w.heap.size + 1, 1, none⟩) (by simp) (.slice (some ⟨g, 0, none⟩) n n))).drew
  exact bodyPost_ret (v := .tuple #[.agg #[.int .i64 n, .slice (some ⟨g, 0, none⟩) n n], .int .i64 0]) (by simp [results, Tryz.results145, go_sem, j0, j1, n1, n2]) rfl ⟨g, by omega, rfl, kF0, hF⟩
end Go.Proofs.YtjomijnbnbideaaGreatDoor

namespace Go.Proofs.YtjomijnbnbideaaGreatDoor
open Go.RowKit Go.Inq
set_option maxHeartbeats 4000000
attribute [local go_sem ↓] Go.wp_at_zero Go.wp_at_succ

def partE (k : Nat) (E : Edges) : Edges := fun a b => decide (a < k) && E a b
theorem partE_zero (E : Edges) : partE 0 E = noE := by funext a b; simp [partE, noE]
theorem partE_all {n : Nat} {E : Edges} {a b : Nat} (ha : a < n) (_ : b < n) : partE n E a b = E a b := by simp [partE, ha]
theorem partE_step {n k : Nat} {E : Edges} {x : Nat} (hk : k < n) (hx : x = setB (E k) n) : (rowsB n (partE k E)).setIfInBounds k (.int .u64 (x : Nat)) = rowsB n (partE (k + 1) E) := by
  rw [rowsB_set hk hx]
  refine rowsB_congr fun a b ha hb => ?_
  by_cases e : a = k
  · subst e; simp [partE]
  · have : decide (a < k + 1) = decide (a < k) := by simp; omega
    simp [partE, e, this]
set_option maxRecDepth 100000 in
theorem union12_any (n : Nat) (A A' : Option Addr) (c c' : Nat) (E F : Edges) (K : Nat → Prop) (w : World) (h : GrS w K n A c E) (h' : GrS w K n A' c' F) (hK : ∀ b, K b → b < w.heap.size) :
    Calls Tryz.prog 141 #[.agg #[.int .i64 n, .slice A n c], .agg #[.int .i64 n, .slice A' n c']] w (OutG w n (orE E F)) := by
  obtain ⟨W0, hW0⟩ : ∃ W0, ((w.alloc (.cells #[.int .i64 n, .slice A n c] 56)).alloc (.cells #[.int .i64 n, .slice A' n c'] 56)).alloc (.cells #[.int .i64 0, .slice none 0 0] 56) = W0 := ⟨_, rfl⟩
  have hB : Below w.heap.size w W0 := by rw [← hW0]; exact (hB_box.alloc (by simp) _).alloc (by simp; omega) _
  have hs0 : W0.heap.size = w.heap.size + 3 := by rw [← hW0]; simp
  have k0 : Blk W0 w.heap.size 56 #[.int .i64 n, .slice A n c] := by rw [← hW0]; exact ((Blk.new _ _ _).alloc _).alloc _
  have k1 : Blk W0 (w.heap.size + 1) 56 #[.int .i64 n, .slice A' n c'] := by
    rw [← hW0]
    have := (Blk.new (w.alloc (.cells #[.int .i64 n, .slice A n c] 56)) 56 #[.int .i64 n, .slice A' n c']).alloc (.cells #[.int .i64 0, .slice none 0 0] 56)
    simpa using this
  have k2 : Blk W0 (w.heap.size + 1 + 1) 56 #[.int .i64 0, .slice none 0 0] := by
    rw [← hW0]
    have := Blk.new ((w.alloc (.cells #[.int .i64 n, .slice A n c] 56)).alloc (.cells #[.int .i64 n, .slice A' n c'] 56)) 56 #[.int .i64 0, .slice none 0 0]
    simpa using this
  have hg := hide (h.keep (Agree.below hB hK) (fun b hb => hb))
  have hg' := hide (h'.keep (Agree.below hB hK) (fun b hb => hb))
  have hn := h.n64
  replace hK := hide hK
  have hKW : Hid (∀ b, K b → b < W0.heap.size) := hide fun b hb => by have := hK.out b hb; omega
  clear h h'
  replace hs0 := hide hs0
  go_enter Tryz.func141, Tryz.ntmps141
  have c0 := Blk.n0 k0
  have c1 := Blk.n1 k0
  have e0 := Blk.n0 k1
  have e1 := Blk.n1 k1
  go_wp2_with fail
  clear hW0 c0 c1 e0 e1
  refine (like12_any n A A' c c' E F K _ hg.out hg'.out hKW.out).mono ?_
  rintro e w1 ⟨rfl, hb1⟩
  have hs1 : w.heap.size + 3 ≤ w1.heap.size := by have := hb1.size; have := hs0.out; omega
  have hga := hide (hg.out.keep (Agree.below hb1 hKW.out) (fun b hb => hb))
  have hgb := hide (hg'.out.keep (Agree.below hb1 hKW.out) (fun b hb => hb))
  replace k0 := k0.below hb1 k0.lt
  replace k1 := k1.below hb1 k1.lt
  replace k2 := k2.below hb1 k2.lt
  have hb2 := hB.trans (hb1.mono hB.size)
  clear hg hg' hb1 hB hKW hs0
  have c0 := Blk.n0 k0
  go_wp2_with fail
  refine (new12_any n hn _).mono ?_
  rintro e w2 ⟨g, hgs, rfl, kR, hb3⟩
  have hK1 : ∀ b, K b → b < w1.heap.size := fun b hb => by have := hK.out b hb; omega
  replace hga := hide (hga.out.keep (Agree.below hb3 hK1) (fun b hb => hb))
  replace hgb := hide (hgb.out.keep (Agree.below hb3 hK1) (fun b hb => hb))
  replace k0 := k0.below hb3 k0.lt
  replace k1 := k1.below hb3 k1.lt
  replace k2 := k2.below hb3 k2.lt
  replace hb2 := hb2.trans (hb3.mono hb2.size)
  have hs2 : w1.heap.size ≤ w2.heap.size := hb3.size
  have hgl := kR.lt
  clear hb3 hK1 c0
  obtain ⟨W3, hW3⟩ : ∃ W3, w2.alloc (.cells #[.int .i64 n, .slice (some ⟨g, 0, none⟩) n n] 56) = W3 := ⟨_, rfl⟩
  have k3 := Blk.newEq hW3
  have hs3 := size_allocEq hW3
  replace k0 := k0.allocEq hW3
  replace k1 := k1.allocEq hW3
  replace k2 := k2.allocEq hW3
  replace kR := kR.allocEq hW3
  have hb5 := below_allocEq hb2 hW3 (by omega)
  have hKw : ∀ b, K b → b < w2.heap.size := fun b hb => by have := hK.out b hb; omega
  replace hga := hide (hga.out.keep (Agree.allocEq hW3 hKw) (fun b hb => hb))
  replace hgb := hide (hgb.out.keep (Agree.allocEq hW3 hKw) (fun b hb => hb))
  replace hs3 := hide hs3
  clear hb2 hKw
  have d1 := Blk.n1 k3
  go_wp2_with fail
  clear d1
  have hz := hide (partE_zero (orE E F))
  go_loopw [23] (fun s23 wr => ∃ k : Nat, k ≤ n ∧ s23 = .int .i64 k ∧ Blk wr g 145 (rowsB n (partE k (orE E F))) ∧ W3.grownBy wr (some g)) (fun s23 _ => n - (intOf s23).toNat)
  case atStart => exact ⟨0, Nat.zero_le _, by go_num, by rw [hz.out]; exact kR, World.grownBy.refl _ _⟩
  case round =>
    obtain ⟨k, hk, rfl, kRw, hgw⟩ := hrel
    have hi1 : (0 : Int) ≤ (k : Int) := Int.natCast_nonneg _
    have m0 := k0.grown hgw (by simp; omega)
    have m1 := k1.grown hgw (by simp; omega)
    have m3 := k3.grown hgw (by simp; omega)
    have hszw := hgw.size
    by_cases hlt : k < n
    · have hi2 : (k : Int) < (n : Int) := by omega
      have hKg : ∀ b, K b → b < g := fun b hb => by have := hK.out b hb; omega
      have hgL : g ≤ W3.heap.size := by have := hs3.out; omega
      obtain ⟨ab, ao, rfl, _, hca⟩ := (hga.out.keep (Agree.ofGrown hgw hKg hgL) (fun b hb => hb)).at_ hlt
      obtain ⟨bb, bo, rfl, _, hcb⟩ := (hgb.out.keep (Agree.ofGrown hgw hKg hgL) (fun b hb => hb)).at_ hlt
      have hstep := hide (partE_step (E := orE E F) hlt (setB_or (p := E k) (q := F k) (n := n)))
      have h64a := hide (setB_64 (p := E k) hn)
      have h64b := hide (setB_64 (p := F k) hn)
      have hj := hide (joinL_two (setB (E k) n) (setB (F k) n))
      have c1 := Blk.n1 m0
      have e1 := Blk.n1 m1
      have d1 := Blk.n1 m3
      have f0 := kRw.frozen k
      have r0 := kRw.cell k
      rw [rowsB_at hlt] at r0
      have hglw := kRw.lt
      generalize setB (E k) n = x at *
      generalize setB (F k) n = y at *
      have d1n := Blk.n1 (m3.alloc (.cells #[.int .u64 (x : Nat), .int .u64 (y : Nat)] 145))
      clear k0 k1 k3 m0 m1 m3 hKg hgL hga hgb
      go_wp2_with fail
      refine wp_region_alts [0, 2, 3, 4, 5, 6, 7, 8, 9, 10, 11, 12] [1, 13, 14, 15, 16] [[1, 13, 14, 15, 16], [13, 1, 14, 15, 16], [13, 14, 1, 15, 16]] (by kernel_rfl) (by kernel_rfl) (fun _ _ d _ _ h => by cases d <;> exact h) ?_
      simp only [List.filterMap_cons, List.filterMap_nil, gZ, gS]
      repeat still_step
      refine wpStill_nil ?_
      have kN := hide (U64S.of_blk (l := [x, y]) (K := fun _ => True) ((Blk.new wr 145 #[.int .u64 (x : Nat), .int .u64 (y : Nat)]).drew) trivial)
      have hxy := hide (show ∀ z ∈ [x, y], z < 18446744073709551616 from by intro z hz; simp at hz; rcases hz with rfl | rfl; exact h64a.out; exact h64b.out)
      clear h64a h64b
      intro i hi
      simp only [List.filterMap_cons, List.head?_cons, List.filterMap_nil, List.mem_cons, List.not_mem_nil, or_false, or_self] at hi
      obtain rfl | rfl : i = 1 ∨ i = 13 := by omega
      · refine wpOp_list rfl ?_
        simp only [tailsOf, List.filterMap_cons, List.filterMap_nil, if_true, if_false, reduceIte, Nat.reduceEqDiff, List.length_cons, List.length_nil, Nat.reduceAdd]
        go_wp2_with fail
        refine wpAlt_one _ _ _ _ rfl ?_
        simp only [List.filterMap_cons, List.filterMap_nil, gA, gZ, gS]
        go_wp2_with fail
        refine (join10_any (some ⟨wr.heap.size, 0, none⟩) 2 2 [x, y] (fun _ => True) _ rfl kN.out hxy.out (by omega)).mono ?_
        rintro e w5 ⟨rfl, rfl⟩
        rw [hj.out]
        go_wp2_with fail
        go_wp2
        go_roundw
        case rel => exact ⟨k + 1, by omega, by go_num, by rw [← hstep.out]; exact (kRw.set_ k _).alloc _, grown_trans (grown_trans (grown_trans hgw (grown_set g k _)) (World.grownBy_alloc _ _ _)) grown_drew⟩
        case measure => simp [intOf]; omega
      · refine wpOp_list rfl ?_
        simp only [tailsOf, List.filterMap_cons, List.filterMap_nil, if_true, if_false, reduceIte, Nat.reduceEqDiff, List.length_cons, List.length_nil, Nat.reduceAdd]
        go_wp2_with fail
        intro i hi
        simp only [List.filterMap_cons, List.head?_cons, List.filterMap_nil, List.mem_cons, List.not_mem_nil, or_false, or_self] at hi
        obtain rfl | rfl : i = 1 ∨ i = 14 := by omega
        · refine wpOp_list rfl ?_
          simp only [tailsOf, List.filterMap_cons, List.filterMap_nil, if_true, if_false, reduceIte, Nat.reduceEqDiff, List.length_cons, List.length_nil, Nat.reduceAdd]
          go_wp2_with fail
          refine wpAlt_one _ _ _ _ rfl ?_
          simp only [List.filterMap_cons, List.filterMap_nil, gA, gZ, gS]
          go_wp2_with fail
          refine (join10_any (some ⟨wr.heap.size, 0, none⟩) 2 2 [x, y] (fun _ => True) _ rfl kN.out hxy.out (by omega)).mono ?_
          rintro e w5 ⟨rfl, rfl⟩
          rw [hj.out]
          go_wp2_with fail
          go_wp2
          go_roundw
          case rel => exact ⟨k + 1, by omega, by go_num, by rw [← hstep.out]; exact (kRw.set_ k _).alloc _, grown_trans (grown_trans (grown_trans hgw (grown_set g k _)) (World.grownBy_alloc _ _ _)) grown_drew⟩
          case measure => simp [intOf]; omega
        · refine wpOp_list rfl ?_
          simp only [tailsOf, List.filterMap_cons, List.filterMap_nil, if_true, if_false, reduceIte, Nat.reduceEqDiff, List.length_cons, List.length_nil, Nat.reduceAdd]
          go_wp2_with fail
          refine (join10_any (some ⟨wr.heap.size, 0, none⟩) 2 2 [x, y] (fun _ => True) _ rfl kN.out hxy.out (by omega)).mono ?_
          rintro e w5 ⟨rfl, rfl⟩
          rw [hj.out]
          go_wp2_with fail
          refine wpAlt_one _ _ _ _ rfl ?_
          simp only [List.filterMap_cons, List.filterMap_nil, gA, gZ, gS]
          go_wp2
          go_roundw
          case rel => exact ⟨k + 1, by omega, by go_num, by rw [← hstep.out]; exact (kRw.set_ k _).alloc _, grown_trans (grown_trans (grown_trans hgw (grown_set g k _)) (World.grownBy_alloc _ _ _)) grown_drew⟩
          case measure => simp [intOf]; omega
    · obtain rfl : k = n := by omega
      have hall := hide (rowsB_congr (n := k) (E := partE k (orE E F)) (F := orE E F) (fun a b ha hb => partE_all ha hb))
      have m2 := k2.grown hgw (by simp; omega)
      have m3 := k3.grown hgw (by simp; omega)
      have d0 := Blk.n0 m3
      have d1 := Blk.n1 m3
      have j0 := Blk.n0 m2
      have j1 := Blk.n1 m2
      have jf := m2.frozen 0
      have jf1 := m2.frozen 1
      have hbF := below_grown hb5 hgw hb5.size (by intro k hk; injection hk with hk; omega)
      rw [hall.out] at kRw
      go_wp2
      have n1 : g ≠ w.heap.size + 1 + 1 := by omega
      have kF0 := ((kRw.far (p := ⟨w.heap.size + 1 + 1, 0, none⟩) n1 (.int .i64 k)).far (p := ⟨w.heap.size + 1 + 1, 1, none⟩) n1 (.slice (some ⟨g, 0, none⟩) k k))
      have hF := ((hbF.setCell (p := ⟨w.heap.size + 1 + 1, 0, none⟩) (by simp; omega) (.int .i64 k)).setCell (p := ⟨w.heap.size + 1 + 1, 1, none⟩) (by simp; omega) (.slice (some ⟨g, 0, none⟩) k k))
      exact bodyPost_ret (v := .tuple #[.agg #[.int .i64 k, .slice (some ⟨g, 0, none⟩) k k], .int .i64 0]) (by simp [results, Tryz.results141, go_sem, j0, j1]) rfl ⟨g, by omega, rfl, kF0, hF⟩
end Go.Proofs.YtjomijnbnbideaaGreatDoor

namespace Go.Proofs.YtjomijnbnbideaaGreatDoor
open Go.RowKit Go.Inq
set_option maxHeartbeats 4000000
attribute [local go_sem ↓] Go.wp_at_zero Go.wp_at_succ

def encP (p : Nat × Nat) : List Value := [.int .i64 (p.1 : Nat), .int .i64 (p.2 : Nat)]
theorem encP_one : ∀ (x : Nat × Nat), ∀ u ∈ encP x, u.oneCell' = true := by
  intro x u hu
  simp [encP] at hu
  rcases hu with rfl | rfl <;> rfl
def edgesTo (n : Nat) (E : Edges) (k : Nat) : List (Nat × Nat) := ((List.range k).map fun a => ((List.range n).filter (E a)).map fun b => (a, b)).flatten
theorem edgesTo_step (n : Nat) (E : Edges) (k : Nat) : edgesTo n E (k + 1) = edgesTo n E k ++ ((List.range n).filter (E k)).map fun b => (k, b) := by
  unfold edgesTo
  rw [List.range_succ, List.map_append, List.flatten_append]; simp
theorem edgesTo_len (n : Nat) (E : Edges) : ∀ k, (edgesTo n E k).length ≤ k * n
  | 0 => by simp [edgesTo]
  | k + 1 => by
    have h := edgesTo_len n E k
    have h2 : ((List.range n).filter (E k)).length ≤ n := Nat.le_trans (List.length_filter_le _ _) (by simp)
    rw [edgesTo_step, List.length_append, List.length_map, Nat.add_mul]
    omega
theorem infoP12 : (Tryz.prog.info? 232).map (fun i => (i.zero, i.size, i.bytes)) = some (some (.agg #[.int .i64 0, .int .i64 0]), 2, 16) := by kernel_rfl
def OwnP (w : World) (base : Nat) (v : Value) (l : List (Nat × Nat)) : Prop := w.ownsRow base 232 2 v l.length (l.map encP).flatten
def OutP (w : World) (l : List (Nat × Nat)) (e : Ending) (w' : World) : Prop := ∃ v, e = .returned v ∧ OwnP w' w.heap.size v l ∧ Below w.heap.size w w'
theorem OwnP.form {w : World} {base : Nat} {v : Value} {l : List (Nat × Nat)} (h : OwnP w base v l) : ∃ A c, v = .slice A l.length c := own_slice h
theorem OwnP.nil (w : World) (base : Nat) : OwnP w base (.slice none 0 0) [] := World.ownsRow_nil _ _ _ _
theorem OwnP.at_ {w : World} {base : Nat} {A : Option Addr} {m c : Nat} {l : List (Nat × Nat)} (h : OwnP w base (.slice A m c) l) {i : Nat} (hi : i < l.length) :
    ∃ b off, A = some ⟨b, off, none⟩ ∧ base ≤ b ∧ b < w.heap.size ∧ w.cell? ⟨b, off + i * 2, none⟩ = some (.int .i64 (l[i].1 : Nat)) ∧ w.cell? ⟨b, off + i * 2 + 1, none⟩ = some (.int .i64 (l[i].2 : Nat)) := by
  have hs : SlR 2 (Flat encP) w (fun b => base ≤ b ∧ b < w.heap.size) (.slice A m c) l := SlR.of_flat h rfl (fun _ => rfl) (fun g h1 h2 => ⟨h1, h2⟩)
  obtain ⟨b, off, cs, hA, hK, _, hR, hc⟩ := SlR.at_ hs hi
  unfold Flat at hR
  subst hR
  exact ⟨b, off, hA, hK.1, hK.2, hc 0 _ rfl, hc 1 _ rfl⟩
set_option maxRecDepth 100000 in
theorem edges12_any (n : Nat) (A : Option Addr) (c : Nat) (E : Edges) (K : Nat → Prop) (w : World) (h : GrS w K n A c E) (hK : ∀ b, K b → b < w.heap.size) (hT : TabB w) :
    Calls Tryz.prog 173 #[.agg #[.int .i64 n, .slice A n c]] w (OutP w (edgesG n E)) := by
  obtain ⟨ip, hip, hi1, hi2, hi3⟩ := info_parts infoP12
  obtain ⟨W0, hW0⟩ : ∃ W0, w.alloc (.cells #[.int .i64 n, .slice A n c] 56) = W0 := ⟨_, rfl⟩
  have hB := below_allocEq (Below.refl w.heap.size w) hW0 (Nat.le_refl _)
  have k0 := Blk.newEq hW0
  have hs0 := size_allocEq hW0
  have hg := hide (h.keep (Agree.below hB hK) (fun b hb => hb))
  have hKW : Hid (∀ b, K b → b < W0.heap.size) := hide fun b hb => by have := hK b hb; omega
  have hn := h.n64
  replace hK := hide hK
  replace h := hide h
  have c0 := Blk.n0 k0
  have c1 := Blk.n1 k0
  replace hs0 := hide hs0
  go_enter Tryz.func173, Tryz.ntmps173
  go_wp2_with fail
  clear hW0 c0 c1
  refine (right12_any n A c E K _ hg.out hKW.out).mono ?_
  rintro e w1 ⟨rfl, hb1⟩
  replace hg := hide (hg.out.keep (Agree.below hb1 hKW.out) (fun b hb => hb))
  replace k0 := k0.below hb1 k0.lt
  have hbA := hB.trans (hb1.mono hB.size)
  have hz1 := hbA.size
  clear hb1 hB hKW hs0
  have c1 := Blk.n1 k0
  go_wp2_with fail
  clear c1
  go_loopw [3, 14] (fun s3 s14 wr => ∃ k : Nat, k ≤ n ∧ s14 = .int .i64 k ∧ OwnP wr w.heap.size s3 (edgesTo n E k) ∧ Below w.heap.size w wr) (fun _ s14 _ => n - (intOf s14).toNat)
  case atStart => exact ⟨0, Nat.zero_le _, by go_num, OwnP.nil _ _, hbA⟩
  case round =>
    obtain ⟨Wo, rfl⟩ : ∃ Wo, Wo = wr := ⟨_, rfl⟩
    obtain ⟨k, hk, rfl, hown, hb⟩ := hrel
    have hi1' : (0 : Int) ≤ (k : Int) := Int.natCast_nonneg _
    by_cases hlt : k < n
    · have hi2' : (k : Int) < (n : Int) := by omega
      obtain ⟨b, off, rfl, _, hc⟩ := (h.out.keep (Agree.below hb hK.out) (fun b h => h)).at_ hlt
      have hT2 := hT.below hb
      have h64 := hide (setB_64 (p := E k) hn)
      have hst := hide (edgesTo_step n E k)
      have hlm := hide (edgesTo_len n E k)
      have hkn := hide (show k * n ≤ 64 * 64 from Nat.mul_le_mul (by omega) hn)
      have hszr := hb.size
      go_wp2_with fail
      refine (list10_any _ h64.out _ hT2).mono ?_
      rintro e wl ⟨v, rfl, hl, hbl⟩
      rw [listB_setB hn] at hl
      have hLn : ((List.range n).filter (E k)).length ≤ n := Nat.le_trans (List.length_filter_le _ _) (by simp)
      generalize (List.range n).filter (E k) = L at *
      obtain ⟨Al, cl, hv⟩ := hl.form
      rw [intsN_len] at hv
      subst hv
      have hbl2 := hb.trans (hbl.mono hszr)
      have hszl := hbl.size
      have hLS := hide (hl.sl (K := fun b => Wo.heap.size ≤ b ∧ b < wl.heap.size) (fun g h1 h2 => ⟨h1, h2⟩))
      obtain ⟨As, cs, rfl⟩ := hown.form
      have hown2 : OwnP wl w.heap.size _ (edgesTo n E k) := own_below hown hbl (Nat.le_refl _)
      have hlt2 := hide (fun g (hg : (Value.slice As (edgesTo n E k).length cs).ownBlock = some g) => (hown.lt g hg).2)
      clear hl hbl hb hown hc hT2
      go_wp2_with fail
      go_loopw [3, 22] (fun s3 s22 wq => ∃ j : Nat, j ≤ L.length ∧ s22 = .int .i64 j ∧ OwnP wq w.heap.size s3 (edgesTo n E k ++ (L.take j).map fun b => (k, b)) ∧ Below w.heap.size w wq ∧ Agree (fun b => Wo.heap.size ≤ b ∧ b < wl.heap.size) wl wq ∧ wl.heap.size ≤ wq.heap.size ∧ Hid (∀ g, s3.ownBlock = some g → g < Wo.heap.size ∨ wl.heap.size ≤ g)) (fun _ s22 _ => L.length - (intOf s22).toNat)
      case atStart => exact ⟨0, Nat.zero_le _, by go_num, by simpa using hown2, hbl2, Agree.refl _ _, Nat.le_refl _, hide fun g hg => .inl (hlt2.out g hg)⟩
      case round =>
        clear hown2 hbl2 hlt2
        obtain ⟨j, hj, rfl, hown, hb, hag, hszq, hfar⟩ := hrel
        have hj1 : (0 : Int) ≤ (j : Int) := Int.natCast_nonneg _
        by_cases hjl : j < L.length
        · have hj2 : (j : Int) < (L.length : Int) := by omega
          obtain ⟨bl, ol, rfl, _, hcl⟩ := (hLS.out.keep hag (fun b h => h)).at_ (i := j) (by rw [intsN_len]; exact hjl)
          rw [intsN_at hjl] at hcl
          have htk := hide (take_snoc' hjl)
          have hsz2 := hb.size
          have hlen : ((edgesTo n E k ++ (L.take j).map fun b => (k, b))).length ≤ 5000 := by
            have h1 := hlm.out
            have h2 := hkn.out
            rw [List.length_append, List.length_map, List.length_take]
            omega
          obtain ⟨Av, cv, rfl⟩ := hown.form
          generalize hM : (edgesTo n E k ++ (L.take j).map fun b => (k, b)) = M at *
          have hM2 : Hid (edgesTo n E k ++ (L.take (j + 1)).map (fun b => (k, b)) = M ++ [(k, L[j])]) := hide (by rw [htk.out, List.map_append, ← List.append_assoc, hM]; rfl)
          generalize L[j] = y at *
          clear hM htk hlm hkn
          replace hown := hide hown
          go_wp2_with (at_builtin; refine wpList_push (enc := encP) rfl (.tmp 26) (.tmp 30) 229 rfl w.heap.size 232 ip _ 2 16 Tryz.underlying229 hip hi1 hi2 hi3 rfl (by decide) (.slice Av M.length cv) M rfl hown.out (fun _ => rfl) (k, y) _ rfl rfl encP_one (by simp [maxLen]; omega) (by omega) hsz2 w w.heap.size (Nat.le_refl _) hb ?_; intro v1 w5 hown1 hg1 hb1 hat1)
          have hag2 : Agree (fun b => Wo.heap.size ≤ b ∧ b < wl.heap.size) wl w5 := (hag.trans (Agree.alloc (fun b hb => by omega) _)).trans (Agree.grown hg1 fun b hb => ⟨by simp; omega, fun e => by have := hfar.out b e.symm; omega⟩)
          have hsz5 := hg1.size
          simp only [World.size_alloc] at hsz5
          go_wp2
          go_roundw
          case rel => exact ⟨j + 1, by omega, by go_num, by rw [hM2.out]; exact hown1, hb1, hag2, by omega, hide fun g hg => by
            rcases hat1 with e | e
            · rw [e] at hg; exact hfar.out g hg
            · rw [e] at hg; injection hg with hg; omega⟩
          case measure => simp [intOf]; omega
        · obtain rfl : j = L.length := by omega
          have hM : edgesTo n E k ++ (L.take L.length).map (fun b => (k, b)) = edgesTo n E (k + 1) := by rw [List.take_length, hst.out]
          rw [hM] at hown
          go_wp2
          go_roundw
          case rel => exact ⟨k + 1, by omega, by go_num, hown, hb⟩
          case measure => simp [intOf]; omega
    · obtain rfl : k = n := by omega
      go_wp2
      go_ret
      exact ⟨_, rfl, hown, hb⟩
end Go.Proofs.YtjomijnbnbideaaGreatDoor

namespace Go.Proofs.YtjomijnbnbideaaGreatDoor
open Go.RowKit Go.Inq
set_option maxHeartbeats 4000000
attribute [local go_sem ↓] Go.wp_at_zero Go.wp_at_succ

theorem turn_step (l : List (Nat × Nat)) (a b : Nat) : turnE (ofL (l ++ [(a, b)])) = orE (turnE (ofL l)) (oneE b a) := by
  rw [ofL_snoc]
  funext x y
  simp [turnE, orE, oneE, Bool.and_comm]
theorem turn_nil : turnE (ofL []) = noE := by funext x y; simp [turnE, ofL, noE]
theorem turn_all {n : Nat} {E : Edges} {a b : Nat} (ha : a < n) (hb : b < n) : turnE (ofL (edgesG n E)) a b = turnE E a b := by
  unfold turnE ofL
  rw [Bool.eq_iff_iff, List.contains_iff_mem, edgesG_mem]
  exact ⟨fun h => h.2.2, fun h => ⟨hb, ha, h⟩⟩
set_option maxRecDepth 100000 in
theorem turn12_any (n : Nat) (A : Option Addr) (c : Nat) (E : Edges) (K : Nat → Prop) (w : World) (h : GrS w K n A c E) (hK : ∀ b, K b → b < w.heap.size) (hT : TabB w) :
    Calls Tryz.prog 112 #[.agg #[.int .i64 n, .slice A n c]] w (OutG w n (turnE E)) := by
  obtain ⟨W0, hW0⟩ : ∃ W0, (w.alloc (.cells #[.int .i64 n, .slice A n c] 56)).alloc (.cells #[.int .i64 0, .slice none 0 0] 56) = W0 := ⟨_, rfl⟩
  have sW := size_two hW0
  have hB := below_two hW0
  have k0 := Blk.two1 hW0
  have k1 := Blk.two2 hW0
  have hg := hide (h.keep (Agree.below hB hK) (fun b hb => hb))
  have hKW : Hid (∀ b, K b → b < W0.heap.size) := hide fun b hb => by have := hK b hb; omega
  have hn := h.n64
  have hs0 : Hid (W0.heap.size = w.heap.size + 2) := hide (by omega)
  replace hK := hide hK
  clear h sW
  have c0 := Blk.n0 k0
  have c1 := Blk.n1 k0
  go_enter Tryz.func112, Tryz.ntmps112
  go_wp2_with fail
  clear hW0 c0 c1
  refine (right12_any n A c E K _ hg.out hKW.out).mono ?_
  rintro e w1 ⟨rfl, hb1⟩
  have hs1 : w.heap.size + 2 ≤ w1.heap.size := by have := hb1.size; have := hs0.out; omega
  replace hg := hide (hg.out.keep (Agree.below hb1 hKW.out) (fun b hb => hb))
  replace k0 := k0.below hb1 k0.lt
  replace k1 := k1.below hb1 k1.lt
  have hb2 := hB.trans (hb1.mono hB.size)
  clear hb1 hB hKW hs0
  have c0 := Blk.n0 k0
  go_wp2_with fail
  refine (new12_any n hn _).mono ?_
  rintro e w2 ⟨g, hgs, rfl, kR, hb3⟩
  have hK1 : ∀ b, K b → b < w1.heap.size := fun b hb => by have := hK.out b hb; omega
  replace hg := hide (hg.out.keep (Agree.below hb3 hK1) (fun b hb => hb))
  replace k0 := k0.below hb3 k0.lt
  replace k1 := k1.below hb3 k1.lt
  replace hb2 := hb2.trans (hb3.mono hb2.size)
  have hs2 : w1.heap.size ≤ w2.heap.size := hb3.size
  have hgl := kR.lt
  clear hb3 hK1 c0
  obtain ⟨W3, hW3⟩ : ∃ W3, w2.alloc (.cells #[.int .i64 n, .slice (some ⟨g, 0, none⟩) n n] 56) = W3 := ⟨_, rfl⟩
  have k3 := Blk.newEq hW3
  have hs3 := size_allocEq hW3
  replace k0 := k0.allocEq hW3
  replace k1 := k1.allocEq hW3
  replace kR := kR.allocEq hW3
  have hb5 := below_allocEq hb2 hW3 (by omega)
  have hKw : ∀ b, K b → b < w2.heap.size := fun b hb => by have := hK.out b hb; omega
  replace hg := hide (hg.out.keep (Agree.allocEq hW3 hKw) (fun b hb => hb))
  have hKx : Hid (∀ b, K b → b < W3.heap.size) := hide fun b hb => by have := hK.out b hb; omega
  have hT3 := hT.below hb5
  replace hs3 := hide hs3
  clear hb2 hKw
  have c0 := Blk.n0 k0
  have c1 := Blk.n1 k0
  go_wp2_with fail
  refine (edges12_any n A c E K _ hg.out hKx.out hT3).mono ?_
  rintro e w4 ⟨v, rfl, hM, hb4⟩
  have hMl : (edgesG n E).length ≤ 64 * 64 := Nat.le_trans (edgesTo_len n E n) (Nat.mul_le_mul hn hn)
  have hMm := hide (fun x (hx : x ∈ edgesG n E) => (edgesG_mem (a := x.1) (b := x.2)).1 hx)
  have hall := hide (rowsB_congr (n := n) (E := turnE (ofL (edgesG n E))) (F := turnE E) (fun a b ha hb => turn_all ha hb))
  generalize edgesG n E = M at *
  replace k1 := k1.below hb4 k1.lt
  replace k3 := k3.below hb4 k3.lt
  replace kR := kR.below hb4 kR.lt
  have hgW : g < W3.heap.size := by have := hs3.out; omega
  have hg2 : w2.heap.size < W3.heap.size := by have := hs3.out; omega
  have hz4 := hb4.size
  have hb6 := hb5.trans (hb4.mono hb5.size)
  obtain ⟨Av, cv, rfl⟩ := hM.form
  replace hM := hide hM
  clear hb4 hb5 hT3 c0 c1 hKx hg hW3 k0
  go_wp2_with fail
  have hz := hide turn_nil
  go_loopw [21] (fun s21 wr => ∃ k : Nat, k ≤ M.length ∧ s21 = .int .i64 k ∧ Blk wr g 145 (rowsB n (turnE (ofL (M.take k)))) ∧ w4.grownBy wr (some g)) (fun s21 _ => M.length - (intOf s21).toNat)
  case atStart => exact ⟨0, Nat.zero_le _, by go_num, by rw [List.take_zero, hz.out]; exact kR, World.grownBy.refl _ _⟩
  case round =>
    obtain ⟨k, hk, rfl, kRw, hgw⟩ := hrel
    have hi1 : (0 : Int) ≤ (k : Int) := Int.natCast_nonneg _
    have hszw := hgw.size
    have m3 := k3.grown hgw (by simp; omega)
    by_cases hlt : k < M.length
    · have hi2 : (k : Int) < (M.length : Int) := by omega
      obtain ⟨eb, eo, rfl, hE1, hE2, x0, x1⟩ := hM.out.at_ hlt
      replace x0 := hgw.cell x0 (by simp; omega)
      replace x1 := hgw.cell x1 (by simp; omega)
      have htk := hide (take_snoc' hlt)
      obtain ⟨ha, hb, _⟩ := hMm.out _ (List.getElem_mem hlt)
      generalize M[k] = p at *
      obtain ⟨a, b⟩ := p
      dsimp only at *
      have hstep := hide (rowsB_add (E := turnE (ofL (M.take k))) hb ha hn)
      have hto := hide (turn_step (M.take k) a b)
      have h64 := hide (setB_64 (p := turnE (ofL (M.take k)) b) hn)
      have m3a := m3.alloc (.cells #[.int .i64 a, .int .i64 b] 232)
      have kRa := kRw.alloc (.cells #[.int .i64 a, .int .i64 b] 232)
      have d1 := m3a.cell 1
      have r0 := kRa.cell b
      rw [rowsB_at hb] at r0
      have f0 := kRa.frozen b
      simp only [gA, gZ, gS] at d1
      have hj1 : (0 : Int) ≤ (b : Int) := Int.natCast_nonneg _
      have hj2 : (b : Int) < (n : Int) := by omega
      have hglw := kRw.lt
      have hgb := grown_trans hgw (World.grownBy_alloc wr (.cells #[.int .i64 a, .int .i64 b] 232) (some g))
      have kE := Blk.new wr 232 #[.int .i64 a, .int .i64 b]
      have y0 := Blk.n0 kE
      have y1 := Blk.n1 kE
      go_wp2_with fail
      generalize wr.alloc (.cells #[.int .i64 a, .int .i64 b] 232) = Wb at *
      refine wp_region_still_tail 14 (by kernel_rfl) (by kernel_rfl) ?_
      simp only [List.take_succ_cons, List.take_zero, List.drop_succ_cons, List.drop_zero]
      repeat still_step
      still_call ((with10_any _ h64.out a _).mono fun _ _ h => ⟨h.1, h.2.symm⟩)
      repeat still_step
      refine wpStill_nil ?_
      change wpList _ _ _ _ _ Wb.drew
      go_wp2
      go_roundw
      case rel => exact ⟨k + 1, by omega, by go_num, by rw [htk.out, hto.out, ← hstep.out]; exact kRa.set_ b _, grown_trans (grown_trans hgb (grown_set g b _)) grown_drew⟩
      case measure => simp [intOf]; omega
    · obtain rfl : k = M.length := by omega
      rw [List.take_length, hall.out] at kRw
      have m2 := k1.grown hgw (by simp; omega)
      have d0 := Blk.n0 m3
      have d1 := Blk.n1 m3
      have j0 := Blk.n0 m2
      have j1 := Blk.n1 m2
      have jf := m2.frozen 0
      have jf1 := m2.frozen 1
      have hbF := below_grown hb6 hgw hb6.size (by intro k hk; injection hk with hk; omega)
      go_wp2
      have n1 : g ≠ w.heap.size + 1 := by omega
      have kF0 := ((kRw.far (p := ⟨w.heap.size + 1, 0, none⟩) n1 (.int .i64 n)).far (p := ⟨w.heap.size + 1, 1, none⟩) n1 (.slice (some ⟨g, 0, none⟩) n n))
      have hF := ((hbF.setCell (p := ⟨w.heap.size + 1, 0, none⟩) (by simp) (.int .i64 n)).setCell (p := ⟨w.heap.size + 1, 1, none⟩) (by simp) (.slice (some ⟨g, 0, none⟩) n n))
      exact bodyPost_ret (v := .tuple #[.agg #[.int .i64 n, .slice (some ⟨g, 0, none⟩) n n], .int .i64 0]) (by simp [results, Tryz.results112, go_sem, j0, j1]) rfl ⟨g, by omega, rfl, kF0, hF⟩
end Go.Proofs.YtjomijnbnbideaaGreatDoor
