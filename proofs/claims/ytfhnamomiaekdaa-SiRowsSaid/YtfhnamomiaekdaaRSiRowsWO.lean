/-
  Walks: SiSer.
-/
import Derived.Test.YtfhnamomiaekdaaRSiRowsWN
import Derived.Test.YtfhnamomiaekdaaR01
import Derived.Test.YtfhnamomiaekdaaRSiRowsWF
set_option linter.unusedVariables false
set_option linter.unusedSimpArgs false
namespace Go.Proofs.Ytfhnamomiaekdaa
open Go.RowKit Go.Inq
set_option maxHeartbeats 8000000
attribute [local go_sem ↓] Go.wp_at_zero Go.wp_at_succ

theorem fitS_rows {H : List Txn} {π : List Int} (hp : π.length ≤ 1000000) : FitS (rowsL H π) := by
  unfold rowsL
  split
  · next h =>
    have := keysL_16len h.1
    refine ⟨by rw [List.length_map]; omega, fun r hr => ?_⟩
    obtain ⟨k, hk, rfl⟩ := List.mem_map.1 hr
    exact Nat.le_trans (List.length_filter_le _ _) hp
  · exact ⟨by simp, fun r hr => by cases hr⟩
theorem serC_split {H : List Txn} {π : List Int} (h : serC H π = true) : rightS H (rowsL H π) = true ∧ checkS H (rowsL H π) = true := by
  unfold serC at h
  rw [Bool.and_eq_true] at h
  exact ⟨rowsL_right h.1 (check_perm h.2), ser_si h.1 h.2⟩
set_option maxRecDepth 100000 in
theorem siSer_any (A : Option Addr) (c : Nat) (H : List Txn) (Ap : Option Addr) (cp : Nat) (π : List Int) (w : World) (h : TxnS w (Old w) (.slice A H.length c) H) (hn : H.length ≤ maxLen) (hns : ∀ t ∈ H, t.writes.length ≤ maxLen ∧ t.reads.length ≤ maxLen) (hπ : IntS w (Old w) (.slice Ap π.length cp) π) (hpl : π.length ≤ maxLen) :
    Calls Try.prog 3 #[.agg #[.slice A H.length c], .slice Ap π.length cp] w fun e w' => e = .returned (.bool true) ∧ Below w.heap.size w w' := by
  have hA : Below w.heap.size w (w.alloc (.cells #[.slice A H.length c] 24)) := (Below.refl _ _).alloc (Nat.le_refl _) _
  have hT0 := h.below hA
  have hP0 := hπ.below hA
  have kh : Blk (w.alloc (.cells #[.slice A H.length c] 24)) w.heap.size 24 #[.slice A H.length c] := Blk.new _ _ _
  replace hn := hide hn
  replace hns := hide hns
  replace h := hide h
  replace hπ := hide hπ
  replace hpl := hide hpl
  go_enter Try.func3, Try.ntmps3
  go_wp2_with fail
  generalize w.alloc (.cells #[.slice A H.length c] 24) = W0 at *
  refine (awake21_any W0).mono ?_
  rintro e w1 ⟨rfl, hb1⟩
  have hb := hA.trans (hb1.mono hA.size)
  have hT1 := hT0.below hb1
  have hP1 := hP0.below hb1
  replace kh := kh.below hb1 kh.lt
  have c0 := kh.cell 0
  simp only [List.getElem?_toArray, List.getElem?_cons_zero] at c0
  clear hT0 hP0 hA hb1
  go_wp2_with fail
  refine (few8n_any 40 A c H w1 hT1 hn.out hns.out).mono ?_
  rintro e w2 ⟨rfl, hb2⟩
  replace hb := hb.trans (hb2.mono hb.size)
  have hT2 := hide (hT1.below hb2)
  have hP2 := hide (hP1.below hb2)
  replace kh := kh.below hb2 kh.lt
  clear hT1 hP1 hb2 c0 hn hns
  cases hf : fewN 40 H with
  | false =>
    go_wp2
    go_ret
    exact ⟨rfl, hb⟩
  | true =>
    have hsm := hide (fewN_small (Nat.le_refl _) hf)
    clear hf
    by_cases hlp : 40 < π.length
    · have hq : decide ((π.length : Int) > 40) = true := decide_eq_true (by omega)
      have hq2 : decide (40 < π.length) = true := decide_eq_true hlp
      clear hlp
      go_wp2
      go_ret
      exact ⟨rfl, hb⟩
    · have hq : decide ((π.length : Int) > 40) = false := decide_eq_false (by omega)
      have hq2 : decide (40 < π.length) = false := decide_eq_false hlp
      have hp4 : π.length ≤ 1000000 := by omega
      have hfr := hide (fitS_rows (H := H) hp4)
      have hor := hide (rowsL_or H π)
      have hspl := hide (fun e => serC_split (H := H) (π := π) e)
      clear hlp
      have c0 := kh.cell 0
      simp only [List.getElem?_toArray, List.getElem?_cons_zero] at c0
      go_wp2_with fail
      clear hq hq2
      refine (rowsS_any A c H Ap cp π w2 hT2.out hsm.out hP2.out hp4).mono ?_
      rintro e w3 ⟨vr, rfl, hR, hb3⟩
      obtain ⟨R, hRe⟩ : ∃ R, rowsL H π = R := ⟨_, rfl⟩
      rw [hRe] at hR hfr hor hspl
      replace hRe := hide hRe
      obtain ⟨Ar, cr, rfl⟩ := hR.form
      have hRS := hR.old
      have hT3 := hT2.out.below hb3
      have hP3 := hP2.out.below hb3
      have hb4 := hb.trans (hb3.mono hb.size)
      replace kh := kh.below hb3 kh.lt
      have c0 := kh.cell 0
      simp only [List.getElem?_toArray, List.getElem?_cons_zero] at c0
      clear hR hb3 hb hT2 hP2
      go_wp2_with fail
      refine (serC_any A c H Ap cp π w3 hT3 hsm.out hP3 hp4).mono ?_
      rintro e w5 ⟨rfl, hb5⟩
      have hT5 := hT3.below hb5
      have hR5 := hRS.below hb5
      have hb6 := hb4.trans (hb5.mono hb4.size)
      replace kh := kh.below hb5 kh.lt
      have c0 := kh.cell 0
      simp only [List.getElem?_toArray, List.getElem?_cons_zero] at c0
      clear hT3 hP3 hRS hb4 hb5
      cases hs : serC H π with
      | false =>
        clear hspl hs
        by_cases hR0 : R.length = 0
        · have hq : ((R.length : Int) == 0) = true := by rw [hR0]; rfl
          clear hR0
          go_wp2
          go_ret
          exact ⟨rfl, hb6⟩
        · have hq : ((R.length : Int) == 0) = false := by rw [beq_eq_false_iff_ne]; omega
          have hrs : rightS H R = true := by rcases hor.out with e | e <;> simp_all
          clear hR0
          go_wp2_with fail
          refine (rightS_any A c H Ar cr R w5 hT5 hsm.out hR5 hfr.out).mono ?_
          rintro e w7 ⟨rfl, hb7⟩
          rw [hrs]
          go_wp2
          go_ret
          exact ⟨rfl, hb6.trans (hb7.mono hb6.size)⟩
      | true =>
        obtain ⟨hrs, hcs⟩ := hspl.out hs
        clear hspl hs
        go_wp2_with fail
        refine (rightS_any A c H Ar cr R w5 hT5 hsm.out hR5 hfr.out).mono ?_
        rintro e w7 ⟨rfl, hb7⟩
        rw [hrs]
        have hT7 := hT5.below hb7
        have hR7 := hR5.below hb7
        have hb8 := hb6.trans (hb7.mono hb6.size)
        replace kh := kh.below hb7 kh.lt
        have c0 := kh.cell 0
        simp only [List.getElem?_toArray, List.getElem?_cons_zero] at c0
        go_wp2_with fail
        refine (checkS_any A c H Ar cr R w7 hT7 hsm.out hR7 hfr.out).mono ?_
        rintro e w9 ⟨rfl, hb9⟩
        rw [hcs]
        go_wp2
        go_ret
        exact ⟨rfl, hb8.trans (hb9.mono hb8.size)⟩
end Go.Proofs.Ytfhnamomiaekdaa

namespace Go.Proofs.Ytfhnamomiaekdaa
open Go.RowKit Go.Inq
set_option maxHeartbeats 1000000

theorem encC_set : ∀ (l : List Cho) (i : Nat) (d : Cho), i < l.length → ((((l.map encC).flatten.set (i * 3) (.int .i64 d.key)).set (i * 3 + 1) (.int .i64 d.a)).set (i * 3 + 2) (.int .i64 d.b)) = ((l.set i d).map encC).flatten
  | [], i, d, h => by simp at h
  | x :: l, 0, d, h => by simp [encC]
  | x :: l, i + 1, d, h => by
    have ih := encC_set l i d (by simpa using h)
    rw [show (i + 1) * 3 = i * 3 + 1 + 1 + 1 by omega]
    simp only [List.map_cons, List.flatten_cons, encC, List.cons_append, List.nil_append, List.set_cons_succ]
    rw [← ih]
/-- A store of a choice. -/
def setC (w : World) (g i : Nat) (d : Cho) : World := ((w.setCell ⟨g, i * 3, none⟩ (.int .i64 d.key)).setCell ⟨g, i * 3 + 1, none⟩ (.int .i64 d.a)).setCell ⟨g, i * 3 + 2, none⟩ (.int .i64 d.b)
theorem setC_below {B : Nat} {w X : World} {g i : Nat} {d : Cho} (h : Below B w X) (hp : B ≤ g) : Below B w (setC X g i d) := ((h.setCell (p := ⟨g, i * 3, none⟩) hp _).setCell (p := ⟨g, i * 3 + 1, none⟩) hp _).setCell (p := ⟨g, i * 3 + 2, none⟩) hp _
theorem setC_far {X : World} {g i q : Nat} {d : Cho} {t : TypeId} {cs : Array Value} (h : Blk X q t cs) (hn : q ≠ g) : Blk (setC X g i d) q t cs := ((h.far (p := ⟨g, i * 3, none⟩) hn _).far (p := ⟨g, i * 3 + 1, none⟩) hn _).far (p := ⟨g, i * 3 + 2, none⟩) hn _
theorem OwnC.store {w : World} {base : Nat} {A : Option Addr} {n c : Nat} {l : List Cho} (h : OwnC w base (.slice A n c) l) {i : Nat} (hi : i < l.length) :
    ∃ g cs, A = some ⟨g, 0, none⟩ ∧ base ≤ g ∧ g < w.heap.size ∧ Blk w g 44 cs ∧ cs[i * 3]? = some (.int .i64 l[i].key) ∧ cs[i * 3 + 1]? = some (.int .i64 l[i].a) ∧ cs[i * 3 + 2]? = some (.int .i64 l[i].b) ∧ ∀ d, OwnC (setC w g i d) base (.slice A n c) (l.set i d) := by
  have hat := (OwnC.sl (K := fun _ => True) h (fun _ _ _ => trivial)).at_ hi
  have h0 := h
  rcases h.2 with ⟨_, h4⟩ | ⟨g, cap, cur, hv, hg, hh, h6, h7, h8, h9⟩
  · omega
  · simp only [Value.slice.injEq] at hv
    obtain ⟨rfl, hn, rfl⟩ := hv
    have hk : Blk w g 44 cur := hh
    obtain ⟨b, off, e, -, c0, c1, c2⟩ := hat
    injection e with e
    injection e with e1 e2
    subst e1 e2
    rw [Nat.zero_add] at c0 c1 c2
    rw [hk.cell] at c0 c1 c2
    refine ⟨g, cur, rfl, hg, hk.lt, hk, c0, c1, c2, fun d => ?_⟩
    have hb2 := ((hk.set_ (i * 3) (.int .i64 d.key)).set_ (i * 3 + 1) (.int .i64 d.a)).set_ (i * 3 + 2) (.int .i64 d.b)
    refine ⟨?_, .inr ⟨g, c, _, by simp only [Value.slice.injEq, List.length_set]; exact ⟨trivial, hn, trivial⟩, hg, hb2, by rw [List.length_set]; exact h6, h7, by simpa using h8, ?_⟩⟩
    · rw [← encC_set l i d hi, List.length_set, List.length_set, List.length_set, List.length_set]
      exact h.1
    · rw [List.length_set, ← encC_set l i d hi, ← h9]
      simp only [Array.toList_setIfInBounds, List.take_set]
/-- One choice's numbers, turned. -/
def turnW (w : World) (g i : Nat) (a b : Value) : World := (w.setCell ⟨g, i * 3 + 1, none⟩ a).setCell ⟨g, i * 3 + 2, none⟩ b
theorem turnW_below {B : Nat} {w X : World} {g i : Nat} {a b : Value} (h : Below B w X) (hp : B ≤ g) : Below B w (turnW X g i a b) := (h.setCell (p := ⟨g, i * 3 + 1, none⟩) hp _).setCell (p := ⟨g, i * 3 + 2, none⟩) hp _
theorem turnW_far {X : World} {g i q : Nat} {a b : Value} {t : TypeId} {cs : Array Value} (h : Blk X q t cs) (hn : q ≠ g) : Blk (turnW X g i a b) q t cs := (h.far (p := ⟨g, i * 3 + 1, none⟩) hn _).far (p := ⟨g, i * 3 + 2, none⟩) hn _
theorem OwnC.turn {w : World} {base : Nat} {A : Option Addr} {n c : Nat} {l : List Cho} (h : OwnC w base (.slice A n c) l) {i : Nat} (hi : i < l.length) :
    ∃ g cs, A = some ⟨g, 0, none⟩ ∧ base ≤ g ∧ g < w.heap.size ∧ Blk w g 44 cs ∧ cs[i * 3]? = some (.int .i64 l[i].key) ∧ cs[i * 3 + 1]? = some (.int .i64 l[i].a) ∧ cs[i * 3 + 2]? = some (.int .i64 l[i].b) ∧ ∀ x y, OwnC (turnW w g i (.int .i64 x) (.int .i64 y)) base (.slice A n c) (l.set i ⟨l[i].key, x, y⟩) := by
  have hat := (OwnC.sl (K := fun _ => True) h (fun _ _ _ => trivial)).at_ hi
  have h0 := h
  rcases h.2 with ⟨_, h4⟩ | ⟨g, cap, cur, hv, hg, hh, h6, h7, h8, h9⟩
  · omega
  · simp only [Value.slice.injEq] at hv
    obtain ⟨rfl, hn, rfl⟩ := hv
    have hk : Blk w g 44 cur := hh
    obtain ⟨b, off, e, -, c0, c1, c2⟩ := hat
    injection e with e
    injection e with e1 e2
    subst e1 e2
    rw [Nat.zero_add] at c0 c1 c2
    rw [hk.cell] at c0 c1 c2
    refine ⟨g, cur, rfl, hg, hk.lt, hk, c0, c1, c2, fun x y => ?_⟩
    have hb2 := (hk.set_ (i * 3 + 1) (.int .i64 x)).set_ (i * 3 + 2) (.int .i64 y)
    have hsame : cur.setIfInBounds (i * 3) (.int .i64 l[i].key) = cur := by
      refine Array.ext (by simp) fun j h1 h2 => ?_
      rw [Array.getElem_setIfInBounds]
      split
      · rename_i e
        subst e
        have := Array.getElem?_eq_getElem h2
        rw [c0] at this
        injection this
      · rfl
    refine ⟨?_, .inr ⟨g, c, _, by simp only [Value.slice.injEq, List.length_set]; exact ⟨trivial, hn, trivial⟩, hg, hb2, by rw [List.length_set]; exact h6, h7, by simpa using h8, ?_⟩⟩
    · rw [← encC_set l i ⟨l[i].key, x, y⟩ hi, List.length_set, List.length_set, List.length_set, List.length_set]
      exact h.1
    · rw [List.length_set, ← encC_set l i ⟨l[i].key, x, y⟩ hi, ← h9]
      simp only [Array.toList_setIfInBounds, List.take_set]
      have : cur.toList.set (i * 3) (.int .i64 l[i].key) = cur.toList := by
        have := congrArg Array.toList hsame
        simpa using this
      have ht : (List.take (l.length * 3) cur.toList).set (i * 3) (.int .i64 l[i].key) = List.take (l.length * 3) cur.toList := by rw [← List.take_set, this]
      rw [ht, ← List.take_set]
end Go.Proofs.Ytfhnamomiaekdaa
