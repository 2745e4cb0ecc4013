/-
  Walks: layer 30's reference: a step.
-/
import Derived.Test.YtfodlklpfffaaaaGreatDoorC12
import Derived.Test.YtfodlklpfffaaaaGreatDoorC18
import Derived.Test.YtfodlklpfffaaaaGreatDoorC19
import Derived.Test.YtfodlklpfffaaaaGreatDoorC27
import Derived.Test.YtfodlklpfffaaaaGreatDoorC29
import Derived.Test.YtfodlklpfffaaaaGreatDoorC33
set_option linter.unusedVariables false
set_option linter.unusedSimpArgs false
namespace Go.Proofs.YtfodlklpfffaaaaGreatDoor
open Go.RowKit Go.Inq
set_option maxHeartbeats 8000000
attribute [local go_sem ↓] Go.wp_at_zero Go.wp_at_succ

/-- What a step tells. -/
def RStepOut (w : World) (r : Wd × Int × List Int) (e : Ending) (w' : World) : Prop :=
  ∃ v vo, e = .returned (.tuple #[v, .agg #[.int .i64 r.2.1, vo, .slice none 0 0, .slice none 0 0]]) ∧ WdS w' (Old w') v r.1 ∧ IntS w' (Old w') vo r.2.2 ∧ Below w.heap.size w w'
theorem nodup_len : ∀ (n : Nat) (l : List Nat), l.Nodup → (∀ x ∈ l, x < n) → l.length ≤ n
  | 0, l, _, h => by
    cases l with
    | nil => simp
    | cons a r => exact absurd (h a (by simp)) (by omega)
  | n + 1, l, hn, h => by
    by_cases hm : n ∈ l
    · have h1 := nodup_len n (l.erase n) (hn.erase n) fun x hx => by
        have hx2 := (hn.mem_erase_iff).1 hx
        have := h x hx2.2
        have := hx2.1
        omega
      rw [List.length_erase_of_mem hm] at h1
      omega
    · have h1 := nodup_len n l hn fun x hx => by
        have := h x hx
        have : x ≠ n := fun e => hm (e ▸ hx)
        omega
      omega
theorem perm_of {l : List Int} {n : Nat} (hl : l.length = n) (h : ∀ i (hi : i < l.length), 0 ≤ l[i] ∧ l[i] < (n : Int) ∧ (l.take i).contains l[i] = false) : permB l n = true := by
  have hnd : (l.map Int.toNat).Nodup := by
    rw [List.nodup_iff_pairwise_ne, List.pairwise_iff_getElem]
    intro i j hi hj hij e
    simp only [List.getElem_map] at e
    simp at hi hj
    have h1 := h i hi
    have h2 := h j hj
    have : (l.take j).contains l[j] = true := by
      rw [List.contains_iff_mem]
      exact List.mem_take_iff_getElem.2 ⟨i, by omega, by omega⟩
    rw [h2.2.2] at this
    cases this
  unfold permB
  rw [decide_eq_true hl, Bool.true_and, List.all_eq_true]
  intro k hk
  have hk := List.mem_range.1 hk
  rw [List.contains_iff_mem]
  have hin : k ∈ l.map Int.toNat := by
    refine Classical.byContradiction fun hno => ?_
    have h1 := nodup_len n (k :: l.map Int.toNat) (List.nodup_cons.2 ⟨hno, hnd⟩) fun x hx => by
      rw [List.mem_cons] at hx
      rcases hx with rfl | hx
      · exact hk
      · obtain ⟨y, hy, rfl⟩ := List.mem_map.1 hx
        obtain ⟨i, hi, rfl⟩ := List.getElem_of_mem hy
        have := h i hi
        omega
    simp at h1
    omega
  obtain ⟨y, hy, e⟩ := List.mem_map.1 hin
  obtain ⟨i, hi, rfl⟩ := List.getElem_of_mem hy
  have := h i hi
  rw [show (k : Int) = l[i] by omega]
  exact hy
theorem perm_lng {H : List Txn} {s : Wd} {m : Nat} {x : Int} {r : List Int} (hr : rightW H s = true) (hm : s.left.length = m + 1) (hp : s.path.length = m) (hrow : s.left[m]'(by omega) = x :: r) (hn : m + 1 = H.length) : permB (s.path ++ [x]) H.length = true := by
  have h0 : s.left ≠ [] := fun e => by rw [e] at hm; simp at hm
  rw [rightW_eq] at hr
  simp only [Bool.and_eq_true] at hr
  obtain ⟨⟨-, h1⟩, h2⟩ := hr
  rw [if_neg h0, Bool.and_eq_true] at h2
  unfold pathW at h1
  unfold leftW at h2
  rw [List.all_eq_true] at h1
  have h3 := List.all_eq_true.1 h2.2 m (List.mem_range.2 (by omega))
  simp only [List.getD_eq_getElem?_getD, List.getElem?_eq_getElem (show m < s.left.length by omega), Option.getD_some, hrow, Bool.and_eq_true] at h3
  refine perm_of (by simp [hp, hn]) fun i hi => ?_
  by_cases hil : i < s.path.length
  · have h4 := h1 i (List.mem_range.2 hil)
    simp only [List.getD_eq_getElem?_getD, List.getElem?_eq_getElem hil, Option.getD_some] at h4
    have h5 := freshW_len h4 (x := s.path[i]) (by simp)
    rw [List.getElem_append_left hil, List.take_append_of_le_length (by omega)]
    exact h5
  · have : i = s.path.length := by simp at hi; omega
    subst this
    have h5 := freshW_len h3.2 (x := x) (by simp)
    rw [List.getElem_append_right (Nat.le_refl _)]
    simp only [Nat.sub_self, List.getElem_cons_zero]
    rw [List.take_append_of_le_length (Nat.le_refl _)]
    rw [← hp] at h5
    exact h5
/-- A step under way, its next number taken. -/
structure MidR (w wz : World) (A : Option Addr) (c : Nat) (H : List Txn) (wn : Nat) (cut : Bool) (path : List Int) (left2 : List (List Int)) (lng : List Int) (m base base6 p : Nat) (Ao : Option Addr) (co : Nat) (AL : Option Addr) (cL : Nat) (A7 : Option Addr) (c7 : Nat) : Prop where
  below : Below w.heap.size w wz
  b0 : Blk wz w.heap.size 24 #[.slice A H.length c]
  b2 : Blk wz (w.heap.size + 1 + 1) 32 #[.int .i64 0, .bool false, .slice none 0 0, .slice none 0 0]
  b3 : Blk wz (w.heap.size + 1 + 1 + 1) 43 #[.int .i64 0, .slice none 0 0, .slice none 0 0, .slice none 0 0]
  b4 : Blk wz p 32 #[.int .i64 (wn : Int), .bool cut, .slice Ao m co, .slice AL (m + 1) cL]
  rows : LeftO wz base (.slice AL (m + 1) cL) left2
  pat : OwnI wz base (.slice Ao m co) path
  lng : OwnI wz base6 (.slice A7 (m + 1) c7) lng
  l1 : w.heap.size + 4 ≤ base
  l2 : base ≤ p
  l3 : p < base6
  l4 : base6 ≤ wz.heap.size
theorem MidR.step {w wz wy : World} {A : Option Addr} {c : Nat} {H : List Txn} {wn : Nat} {cut : Bool} {path : List Int} {left2 : List (List Int)} {lng : List Int} {m base base6 p : Nat} {Ao : Option Addr} {co : Nat} {AL : Option Addr} {cL : Nat} {A7 : Option Addr} {c7 : Nat}
    (h : MidR w wz A c H wn cut path left2 lng m base base6 p Ao co AL cL A7 c7) (hb : Below wz.heap.size wz wy) : MidR w wy A c H wn cut path left2 lng m base base6 p Ao co AL cL A7 c7 :=
  { below := h.below.trans (hb.mono (by have := h.l1; have := h.l2; have := h.l3; have := h.l4; omega))
    b0 := h.b0.below hb h.b0.lt
    b2 := h.b2.below hb h.b2.lt
    b3 := h.b3.below hb h.b3.lt
    b4 := h.b4.below hb h.b4.lt
    rows := h.rows.below hb (Nat.le_refl _)
    pat := own_below h.pat hb (Nat.le_refl _)
    lng := own_below h.lng hb (Nat.le_refl _)
    l1 := h.l1
    l2 := h.l2
    l3 := h.l3
    l4 := Nat.le_trans h.l4 hb.size }
theorem set_last {α : Type} {l : List α} {m : Nat} (h : l.length = m + 1) (x : α) : l.set m x = l.dropLast ++ [x] := by
  refine List.ext_getElem (by simp [h]) fun i h1 h2 => ?_
  rw [List.getElem_set]
  by_cases e : m = i
  · subst e
    rw [if_pos rfl, List.getElem_append_right (by simp [h])]
    simp
  · rw [if_neg e, List.getElem_append_left (by simp [h] at h1 h2 ⊢; omega), List.getElem_dropLast]
theorem rightW_nil_path {H : List Txn} {s : Wd} (hr : rightW H s = true) (h : s.left = []) : s.path = [] := by
  rw [rightW_eq] at hr
  simp only [Bool.and_eq_true] at hr
  have h2 := hr.2
  rw [if_pos h] at h2
  exact of_decide_eq_true h2
/-- Blocks of what came in. -/
theorem old_keep {w X Y : World} (h : Below w.heap.size w X) (hs : w.heap.size ≤ X.heap.size) {p q : Nat} (hk : ∀ K : Nat → Prop, ¬ K p → ¬ K q → Agree K X Y) (hp : w.heap.size ≤ p) (hq : w.heap.size ≤ q) : Agree (Old w) w Y :=
  (Agree.below h fun _ h => h).trans (hk (Old w) (fun h => by have h2 : p < w.heap.size := h; omega) (fun h => by have h2 : q < w.heap.size := h; omega))
set_option maxRecDepth 100000 in
theorem rstep30_any (A : Option Addr) (c : Nat) (H : List Txn) (level : Int) (v : Value) (s : Wd) (w : World) (h : TxnS w (Old w) (.slice A H.length c) H) (hn : SmallH H) (hv : WdS w (Old w) v s) (hs : SmallWd s) (hll : s.left.length ≤ 800000) :
    Calls Tryz.prog 10 #[.agg #[.slice A H.length c], .int .i64 level, v] w (RStepOut w (stepW H level s)) := by
  obtain ⟨ii, hii, hi1, hi2, hi3⟩ := info_parts infoI10
  obtain ⟨il, hil, hl1, hl2, hl3⟩ := info_parts infoS30
  obtain ⟨Ap, cp, Al, cl, rfl, hP, hL⟩ := hv.form
  have hs1 := hs.1
  have hs2 := hs.2.1
  replace hv := hide hv
  replace hs := hide hs
  replace hn := hide hn
  replace h := hide h
  clear hP hL
  obtain ⟨W0, hW0⟩ : ∃ W0, (((w.alloc (.cells #[.slice A H.length c] 24)).alloc (.cells #[.int .i64 s.width, .bool s.cut, .slice Ap s.path.length cp, .slice Al s.left.length cl] 32)).alloc (.cells #[.int .i64 0, .bool false, .slice none 0 0, .slice none 0 0] 32)).alloc (.cells #[.int .i64 0, .slice none 0 0, .slice none 0 0, .slice none 0 0] 43) = W0 := ⟨_, rfl⟩
  have hs0 : W0.heap.size = w.heap.size + 4 := by rw [← hW0]; simp
  have hB : Below w.heap.size w W0 := by rw [← hW0]; exact ((((Below.refl _ w).alloc (Nat.le_refl _) _).alloc (by simp) _).alloc (by simp; omega) _).alloc (by simp; omega) _
  have m0 : Blk W0 w.heap.size 24 #[.slice A H.length c] := by rw [← hW0]; exact (((Blk.new _ _ _).alloc _).alloc _).alloc _
  have m1 : Blk W0 (w.heap.size + 1) 32 #[.int .i64 s.width, .bool s.cut, .slice Ap s.path.length cp, .slice Al s.left.length cl] := by
    rw [← hW0]
    have := Blk.new (w.alloc (.cells #[.slice A H.length c] 24)) 32 #[.int .i64 s.width, .bool s.cut, .slice Ap s.path.length cp, .slice Al s.left.length cl]
    simp only [World.size_alloc] at this
    exact (this.alloc _).alloc _
  have m2 : Blk W0 (w.heap.size + 1 + 1) 32 #[.int .i64 0, .bool false, .slice none 0 0, .slice none 0 0] := by
    rw [← hW0]
    have := Blk.new ((w.alloc (.cells #[.slice A H.length c] 24)).alloc (.cells #[.int .i64 s.width, .bool s.cut, .slice Ap s.path.length cp, .slice Al s.left.length cl] 32)) 32 #[.int .i64 0, .bool false, .slice none 0 0, .slice none 0 0]
    simp only [World.size_alloc] at this
    exact this.alloc _
  have m3 : Blk W0 (w.heap.size + 1 + 1 + 1) 43 #[.int .i64 0, .slice none 0 0, .slice none 0 0, .slice none 0 0] := by
    rw [← hW0]
    have := Blk.new (((w.alloc (.cells #[.slice A H.length c] 24)).alloc (.cells #[.int .i64 s.width, .bool s.cut, .slice Ap s.path.length cp, .slice Al s.left.length cl] 32)).alloc (.cells #[.int .i64 0, .bool false, .slice none 0 0, .slice none 0 0] 32)) 43 #[.int .i64 0, .slice none 0 0, .slice none 0 0, .slice none 0 0]
    simp only [World.size_alloc] at this
    exact this
  have hT0 := hide (h.out.below hB)
  have hv0 := hide (hv.out.below hB)
  have c0 := m0.cell 0
  have q1 := m1.cell 0
  have q2 := m1.cell 1
  have q3 := m1.cell 2
  have q4 := m1.cell 3
  simp only [List.getElem?_toArray, List.getElem?_cons_zero, List.getElem?_cons_succ] at q1 q2 q3 q4 c0
  go_enter Tryz.func10, Tryz.ntmps10
  go_upto_region 1 with fail
  clear hW0
  go_wp2_with fail
  clear q1 q2 q3 q4 c0
  refine (rright30_any A c H _ s _ hT0.out hn.out hv0.out hs.out).mono ?_
  rintro e w3 ⟨rfl, hb3⟩
  go_upto_region 2 with fail
  go_cut [32] (fun s32 wz => s32 = .bool (badW H level s) ∧ Below W0.heap.size W0 wz)
  case first =>
    clear m0 m1 m2 m3
    have hbw : Hid (badW H level s = (!rightW H s || (level != 0 && level != 1))) := hide rfl
    generalize badW H level s = bw at *
    generalize rightW H s = rw at *
    cases rw with
    | false =>
      go_wp2
      go_meet
      exact ⟨by rw [hbw.out]; rfl, hb3⟩
    | true =>
      by_cases h0 : level = 0
      · have h0b : (level != 0) = false := by simpa using h0
        clear h0
        go_wp2
        go_meet
        exact ⟨by rw [hbw.out, h0b]; rfl, hb3⟩
      · have h0b : (level != 0) = true := by simpa using h0
        clear h0
        go_wp2
        go_meet
        exact ⟨by rw [hbw.out, h0b]; simp, hb3⟩
  case rest =>
    clear hb3
    obtain ⟨rfl, hb3⟩ := hcut
    clear w3
    obtain ⟨w3, hW3⟩ : ∃ w3, w3 = wc := ⟨_, rfl⟩
    subst hW3
    have hsz3 := hb3.size
    replace m0 := m0.below hb3 m0.lt
    replace m1 := m1.below hb3 m1.lt
    replace m2 := m2.below hb3 m2.lt
    replace m3 := m3.below hb3 m3.lt
    have hb := hB.trans (hb3.mono hB.size)
    have hT3 := hide (hT0.out.below hb3)
    have hv3 := hide (hv0.out.below hb3)
    clear hT0 hv0 hB hb3
    cases hbd : badW H level s with
    | true =>
      have hres := hide (badW_yes hbd)
      replace hbd := hide hbd
      have e01 := (m1).cell 0
      have e11 := (m1).cell 1
      have e21 := (m1).cell 2
      have e31 := (m1).cell 3
      have f01 := (m1).frozen 0
      have f11 := (m1).frozen 1
      have f21 := (m1).frozen 2
      have f31 := (m1).frozen 3
      simp only [List.getElem?_toArray, List.getElem?_cons_zero, List.getElem?_cons_succ] at e01 e11 e21 e31
      have e02 := (m2).cell 0
      have e12 := (m2).cell 1
      have e22 := (m2).cell 2
      have e32 := (m2).cell 3
      have f02 := (m2).frozen 0
      have f12 := (m2).frozen 1
      have f22 := (m2).frozen 2
      have f32 := (m2).frozen 3
      simp only [List.getElem?_toArray, List.getElem?_cons_zero, List.getElem?_cons_succ] at e02 e12 e22 e32
      have e03 := (m3).cell 0
      have e13 := (m3).cell 1
      have e23 := (m3).cell 2
      have e33 := (m3).cell 3
      have f03 := (m3).frozen 0
      have f13 := (m3).frozen 1
      have f23 := (m3).frozen 2
      have f33 := (m3).frozen 3
      simp only [List.getElem?_toArray, List.getElem?_cons_zero, List.getElem?_cons_succ] at e03 e13 e23 e33
      go_upto_region 3 with fail
      have hz2 := set4_blk (a := (.int .i64 s.width)) (b := (.bool s.cut)) (c := (.slice Ap s.path.length cp)) (d := (.slice Al s.left.length cl)) m2
      have hne23 : w.heap.size + 1 + 1 ≠ w.heap.size + 1 + 1 + 1 := by omega
      have m3z := set4_far (a := (.int .i64 s.width)) (b := (.bool s.cut)) (c := (.slice Ap s.path.length cp)) (d := (.slice Al s.left.length cl)) m3 (Ne.symm hne23)
      have hz3 := set4_blk (a := (.int .i64 3)) (b := (.slice none 0 0)) (c := .slice none 0 0) (d := .slice none 0 0) m3z
      have hz22 := set4_far (a := (.int .i64 3)) (b := (.slice none 0 0)) (c := .slice none 0 0) (d := .slice none 0 0) hz2 hne23
      have hzb := set4_below (a := (.int .i64 3)) (b := (.slice none 0 0)) (c := .slice none 0 0) (d := .slice none 0 0) (p := w.heap.size + 1 + 1 + 1) (set4_below (a := (.int .i64 s.width)) (b := (.bool s.cut)) (c := (.slice Ap s.path.length cp)) (d := (.slice Al s.left.length cl)) (p := w.heap.size + 1 + 1) hb (by omega)) (by omega)
      have hzs := (set4_size (X := set4 w3 (w.heap.size + 1 + 1) (.int .i64 s.width) (.bool s.cut) (.slice Ap s.path.length cp) (.slice Al s.left.length cl)) (p := w.heap.size + 1 + 1 + 1) (a := (.int .i64 3)) (b := (.slice none 0 0)) (c := .slice none 0 0) (d := .slice none 0 0)).trans (set4_size (X := w3) (p := w.heap.size + 1 + 1) (a := (.int .i64 s.width)) (b := (.bool s.cut)) (c := (.slice Ap s.path.length cp)) (d := (.slice Al s.left.length cl)))
      have hzk : ∀ K : Nat → Prop, ¬ K (w.heap.size + 1 + 1) → ¬ K (w.heap.size + 1 + 1 + 1) → Agree K w3 (set4 (set4 w3 (w.heap.size + 1 + 1) (.int .i64 s.width) (.bool s.cut) (.slice Ap s.path.length cp) (.slice Al s.left.length cl)) (w.heap.size + 1 + 1 + 1) (.int .i64 3) (.slice none 0 0) (.slice none 0 0) (.slice none 0 0)) := fun K h1 h2 => (set4_agree h1).trans (set4_agree h2)
      have y0 := hz22.cell 0
      have y1 := hz22.cell 1
      have y2 := hz22.cell 2
      have y3 := hz22.cell 3
      have z0 := hz3.cell 0
      have z1 := hz3.cell 1
      have z2 := hz3.cell 2
      have z3 := hz3.cell 3
      simp only [List.getElem?_toArray, List.getElem?_cons_zero, List.getElem?_cons_succ] at y0 y1 y2 y3 z0 z1 z2 z3
      unfold set4 at y0 y1 y2 y3 z0 z1 z2 z3
      clear hz2 hz3 hz22 m3z hne23
      replace hzb := hide hzb
      replace hzs := hide (Nat.le_of_eq hzs.symm)
      replace hzk := hide hzk
      repeat' (first | go_values | go_skip | go_guarded | go_step | go_upon)
      try simp only [Exit.inBlock, Exit.then]
      refine bodyPost_ret (v := .tuple #[.agg #[(.int .i64 s.width), (.bool s.cut), (.slice Ap s.path.length cp), (.slice Al s.left.length cl)], .agg #[(.int .i64 3), (.slice none 0 0), .slice none 0 0, .slice none 0 0]]) (by simp [results, Tryz.results10, go_sem, y0, y1, y2, y3, z0, z1, z2, z3]) rfl ?_
      rw [hres.out]
      exact ⟨_, _, rfl, hv.out.keep (old_keep hb (by omega) hzk.out (by omega) (by omega)) (fun b hb' => Nat.lt_of_lt_of_le hb' (Nat.le_trans (by omega) hzs.out)), IntS.nil _ _ _ _, hzb.out⟩
    | false =>
      obtain ⟨hr, hlev⟩ := badW_no hbd
      replace hbd := hide hbd
      by_cases hH0 : H.length = 0
      · have hH : H = [] := List.eq_nil_of_length_eq_zero hH0
        have hres : Hid (stepW H level s = (s, 1, [])) := hide (by unfold stepW; rw [if_neg (by rw [hr]; rintro (h | h); exact absurd h (by simp); omega), if_pos hH])
        have hH0b : ((H.length : Int) == 0) = true := by simp [hH]
        have c0 := m0.cell 0
        simp only [List.getElem?_toArray, List.getElem?_cons_zero, List.getElem?_cons_succ] at c0
        replace hr := hide hr
        replace hlev := hide hlev
        clear hH hH0
        have e01 := (m1).cell 0
        have e11 := (m1).cell 1
        have e21 := (m1).cell 2
        have e31 := (m1).cell 3
        have f01 := (m1).frozen 0
        have f11 := (m1).frozen 1
        have f21 := (m1).frozen 2
        have f31 := (m1).frozen 3
        simp only [List.getElem?_toArray, List.getElem?_cons_zero, List.getElem?_cons_succ] at e01 e11 e21 e31
        have e02 := (m2).cell 0
        have e12 := (m2).cell 1
        have e22 := (m2).cell 2
        have e32 := (m2).cell 3
        have f02 := (m2).frozen 0
        have f12 := (m2).frozen 1
        have f22 := (m2).frozen 2
        have f32 := (m2).frozen 3
        simp only [List.getElem?_toArray, List.getElem?_cons_zero, List.getElem?_cons_succ] at e02 e12 e22 e32
        have e03 := (m3).cell 0
        have e13 := (m3).cell 1
        have e23 := (m3).cell 2
        have e33 := (m3).cell 3
        have f03 := (m3).frozen 0
        have f13 := (m3).frozen 1
        have f23 := (m3).frozen 2
        have f33 := (m3).frozen 3
        simp only [List.getElem?_toArray, List.getElem?_cons_zero, List.getElem?_cons_succ] at e03 e13 e23 e33
        go_upto_region 6 with fail
        have hz2 := set4_blk (a := (.int .i64 s.width)) (b := (.bool s.cut)) (c := (.slice Ap s.path.length cp)) (d := (.slice Al s.left.length cl)) m2
        have hne23 : w.heap.size + 1 + 1 ≠ w.heap.size + 1 + 1 + 1 := by omega
        have m3z := set4_far (a := (.int .i64 s.width)) (b := (.bool s.cut)) (c := (.slice Ap s.path.length cp)) (d := (.slice Al s.left.length cl)) m3 (Ne.symm hne23)
        have hz3 := set4_blk (a := (.int .i64 1)) (b := (.slice none 0 0)) (c := .slice none 0 0) (d := .slice none 0 0) m3z
        have hz22 := set4_far (a := (.int .i64 1)) (b := (.slice none 0 0)) (c := .slice none 0 0) (d := .slice none 0 0) hz2 hne23
        have hzb := set4_below (a := (.int .i64 1)) (b := (.slice none 0 0)) (c := .slice none 0 0) (d := .slice none 0 0) (p := w.heap.size + 1 + 1 + 1) (set4_below (a := (.int .i64 s.width)) (b := (.bool s.cut)) (c := (.slice Ap s.path.length cp)) (d := (.slice Al s.left.length cl)) (p := w.heap.size + 1 + 1) hb (by omega)) (by omega)
        have hzs := (set4_size (X := set4 w3 (w.heap.size + 1 + 1) (.int .i64 s.width) (.bool s.cut) (.slice Ap s.path.length cp) (.slice Al s.left.length cl)) (p := w.heap.size + 1 + 1 + 1) (a := (.int .i64 1)) (b := (.slice none 0 0)) (c := .slice none 0 0) (d := .slice none 0 0)).trans (set4_size (X := w3) (p := w.heap.size + 1 + 1) (a := (.int .i64 s.width)) (b := (.bool s.cut)) (c := (.slice Ap s.path.length cp)) (d := (.slice Al s.left.length cl)))
        have hzk : ∀ K : Nat → Prop, ¬ K (w.heap.size + 1 + 1) → ¬ K (w.heap.size + 1 + 1 + 1) → Agree K w3 (set4 (set4 w3 (w.heap.size + 1 + 1) (.int .i64 s.width) (.bool s.cut) (.slice Ap s.path.length cp) (.slice Al s.left.length cl)) (w.heap.size + 1 + 1 + 1) (.int .i64 1) (.slice none 0 0) (.slice none 0 0) (.slice none 0 0)) := fun K h1 h2 => (set4_agree h1).trans (set4_agree h2)
        have y0 := hz22.cell 0
        have y1 := hz22.cell 1
        have y2 := hz22.cell 2
        have y3 := hz22.cell 3
        have z0 := hz3.cell 0
        have z1 := hz3.cell 1
        have z2 := hz3.cell 2
        have z3 := hz3.cell 3
        simp only [List.getElem?_toArray, List.getElem?_cons_zero, List.getElem?_cons_succ] at y0 y1 y2 y3 z0 z1 z2 z3
        unfold set4 at y0 y1 y2 y3 z0 z1 z2 z3
        clear hz2 hz3 hz22 m3z hne23
        replace hzb := hide hzb
        replace hzs := hide (Nat.le_of_eq hzs.symm)
        replace hzk := hide hzk
        repeat' (first | go_values | go_skip | go_guarded | go_step | go_upon)
        try simp only [Exit.inBlock, Exit.then]
        refine bodyPost_ret (v := .tuple #[.agg #[(.int .i64 s.width), (.bool s.cut), (.slice Ap s.path.length cp), (.slice Al s.left.length cl)], .agg #[(.int .i64 1), (.slice none 0 0), .slice none 0 0, .slice none 0 0]]) (by simp [results, Tryz.results10, go_sem, y0, y1, y2, y3, z0, z1, z2, z3]) rfl ?_
        rw [hres.out]
        exact ⟨_, _, rfl, hv.out.keep (old_keep hb (by omega) hzk.out (by omega) (by omega)) (fun b hb' => Nat.lt_of_lt_of_le hb' (Nat.le_trans (by omega) hzs.out)), IntS.nil _ _ _ _, hzb.out⟩
      · have hH0b : ((H.length : Int) == 0) = false := by rw [beq_eq_false_iff_ne]; omega
        have hres0 := hide (stepW_main hr hlev hH0)
        obtain ⟨hrH, hw1, hw2, hplH⟩ := rightW_more hr
        have c0 := m0.cell 0
        simp only [List.getElem?_toArray, List.getElem?_cons_zero, List.getElem?_cons_succ] at c0
        replace hr := hide hr
        replace hlev := hide hlev
        replace hrH := hide hrH
        clear hH0
        have hsm := hide (rightW_len (H := H) (s := s) hr.out)
        have hnilp : Hid (s.left = [] → s.path = []) := hide (fun e => by
          have h1 := rightW_nil_path hr.out e
          exact h1)
        have h64 : H.length ≤ 64 := by have := ((rightH_iff H).1 hrH.out).1; omega
        have hs3 := hide hs.out.2.2
        obtain ⟨wn, hwn⟩ : ∃ wn : Nat, s.width = (wn : Int) := ⟨s.width.toNat, by omega⟩
        replace hwn := hide hwn
        have hll9 : s.left.length ≤ 900000 := by omega
        have q1 := m1.cell 0
        have q2 := m1.cell 1
        have q3 := m1.cell 2
        have q4 := m1.cell 3
        simp only [List.getElem?_toArray, List.getElem?_cons_zero, List.getElem?_cons_succ] at q1 q2 q3 q4
        go_wp2_with fail
        clear q1 q2 q3 q4
        refine (rcopied30_any _ s _ hv3.out hs.out hll9).mono ?_
        rintro e w5 ⟨vp, vl, rfl, hOP, hLO, hb5⟩
        obtain ⟨Ao, co, rfl⟩ := hOP.form
        obtain ⟨Ax, cx, rfl⟩ := hLO.form
        replace m0 := m0.below hb5 m0.lt
        replace m1 := m1.below hb5 m1.lt
        replace m2 := m2.below hb5 m2.lt
        replace m3 := m3.below hb5 m3.lt
        replace hb := hb.trans (hb5.mono hb.size)
        have hT5 := hide (hT3.out.below hb5)
        have hsz5 := hb5.size
        clear hb5 hT3 hv3
        go_upto_region 8 with fail
        obtain ⟨W5, hW5⟩ : ∃ W5, w5.alloc (.cells #[.int .i64 s.width, .bool s.cut, .slice Ao s.path.length co, .slice Ax s.left.length cx] 32) = W5 := ⟨_, rfl⟩
        rw [hW5]
        have hBa := below_allocEq (Below.refl w5.heap.size w5) hW5 (Nat.le_refl _)
        have m4 := Blk.newEq hW5
        replace m0 := m0.below hBa m0.lt
        replace m1 := m1.below hBa m1.lt
        replace m2 := m2.below hBa m2.lt
        replace m3 := m3.below hBa m3.lt
        replace hb := hb.trans (hBa.mono hb.size)
        replace hT5 := hide (hT5.out.below hBa)
        replace hOP : OwnI W5 w3.heap.size (.slice Ao s.path.length co) s.path := own_below hOP hBa (Nat.le_refl _)
        replace hLO := hLO.below hBa (Nat.le_refl _)
        have hpl : w3.heap.size ≤ w5.heap.size := hsz5
        have hsw := hBa.size
        clear hBa hW5 c0
        generalize w5.heap.size = p at *
        have hwp : w.heap.size + 4 ≤ w3.heap.size := by omega
        obtain ⟨width, cut, path, left⟩ := s
        dsimp only at *
        replace hwn := hwn.out
        subst hwn
        have c0 := m0.cell 0
        simp only [List.getElem?_toArray, List.getElem?_cons_zero, List.getElem?_cons_succ] at c0
        by_cases hl0 : left = []
        · subst hl0
          obtain rfl : path = [] := hnilp.out rfl
          have hres : Hid (stepW H level ⟨(wn : Int), cut, [], []⟩ = (⟨(wn : Int), cut || decide (wn < (comeW H []).length), [], [(comeW H []).take wn]⟩, 0, [])) := hide (by rw [hres0.out]; simp [stepM, putW])
          have e3 := m4.cell 3
          have e0 := m4.cell 0
          simp only [List.getElem?_toArray, List.getElem?_cons_zero, List.getElem?_cons_succ, List.length_nil] at e3 e0
          have hcm : Calls Tryz.prog 28 #[.agg #[.slice A H.length c], .slice none 0 0, .int .i64 (wn : Int)] W5 (OutCm W5 ((comeW H []).take wn) (decide (wn < (comeW H []).length))) :=
            rcome30_any A c H none 0 [] wn W5 hT5.out hrH.out hn.out (IntS.nil _ _ _ _) (by simp) (by omega)
          replace hcm := hide hcm
          replace hOP := hide hOP
          replace hLO := hide hLO
          have hcl : ((comeW H []).take wn).length ≤ 1000 := by rw [List.length_take]; omega
          generalize (comeW H []).take wn = L at *
          generalize decide (wn < (comeW H []).length) = cb at *
          go_wp2_with fail
          clear e0 e3 c0
          refine hcm.out.mono ?_
          rintro e w6 ⟨v6, rfl, hO6, hb6⟩
          obtain ⟨Av, cv, rfl⟩ := hO6.form
          have m46 := m4.below hb6 m4.lt
          have m26 := m2.below hb6 m2.lt
          have m36 := m3.below hb6 m3.lt
          have hb6' := hb.trans (hb6.mono hb.size)
          have hrow := hide ((hO6.base (base' := w3.heap.size) (by omega)).slK)
          have hLO6 : LeftO w6 w3.heap.size (.slice Ax 0 cx) [] := hLO.out.below hb6 (Nat.le_refl _)
          have hOP6 : OwnI w6 w3.heap.size (.slice Ao 0 co) [] := own_below hOP.out hb6 (Nat.le_refl _)
          have hs6 := hb6.size
          replace hLO6 := hide hLO6
          replace hOP6 := hide hOP6
          clear hcm hO6 hb6 hLO hOP m0 m1 hT5 m4 m2 m3 hb
          have hh1 : ([] : List (List Int)).length + 1 ≤ 1000000 := by simp
          have hszb : w3.heap.size ≤ w6.heap.size := by omega
          have e04 := (m46).cell 0
          have e14 := (m46).cell 1
          have e24 := (m46).cell 2
          have e34 := (m46).cell 3
          have f04 := (m46).frozen 0
          have f14 := (m46).frozen 1
          have f24 := (m46).frozen 2
          have f34 := (m46).frozen 3
          simp only [List.getElem?_toArray, List.getElem?_cons_zero, List.getElem?_cons_succ] at e04 e14 e24 e34
          go_upto_region 11 with (at_builtin; go_loud (refine wpList_pushL rfl (.tmp 56) (.tmp 58) 26 rfl w3.heap.size il _ Tryz.underlying26 hil hl1 hl2 hl3 rfl (.slice Ax 0 cx) [] rfl hLO6.out (.slice Av L.length cv) L hrow.out rfl hh1 hszb w6 (Below.refl _ _) ?_); intro v7 w7 hLO7 hA7 hb7 hat7 hE7; have m47 := hE7 p _ _ m46 (by decide); have e47 := m47.cell 3; have f47 := m47.frozen 3; simp only [List.getElem?_toArray, List.getElem?_cons_zero, List.getElem?_cons_succ] at e47; obtain ⟨A7, c7, rfl⟩ := hLO7.form)
          have m48 := m47.set_ 3 (.slice A7 1 c7)
          simp only [List.setIfInBounds_toArray, List.set_cons_zero, List.set_cons_succ] at m48
          have m28 := (hE7 (w.heap.size + 1 + 1) _ _ m26 (by decide)).far (p := ⟨p, 3, none⟩) (show w.heap.size + 1 + 1 ≠ p by omega) (.slice A7 1 c7)
          have m38 := (hE7 (w.heap.size + 1 + 1 + 1) _ _ m36 (by decide)).far (p := ⟨p, 3, none⟩) (show w.heap.size + 1 + 1 + 1 ≠ p by omega) (.slice A7 1 c7)
          have hLO8 : LeftO _ w3.heap.size (.slice A7 1 c7) [L] := hLO7.set_ (i := 3) m47 (by decide) (hLO7.ne m47 (by decide)) (.slice A7 1 c7)
          have hOP8 := (OwnI.keepK hOP6.out hA7).keepK (IntK.set_ (i := 3) m47 (by decide) (.slice A7 1 c7))
          have hb8 := (hb6'.trans (hb7.mono (by omega))).setCell (p := ⟨p, 3, none⟩) (show w.heap.size ≤ p by omega) (.slice A7 1 c7)
          clear hLO7 hA7 hb7 hat7 hE7 m47 e47 f47 hLO6 hOP6 hrow m26 m36 m46 e04 e14 e24 e34 f04 f14 f24 f34 hb6'
          generalize w7.setCell ⟨p, 3, none⟩ (.slice A7 1 c7) = w8 at *
          have e1 := m48.cell 1
          have g1 := m48.frozen 1
          simp only [List.getElem?_toArray, List.getElem?_cons_zero, List.getElem?_cons_succ] at e1
          have hcu : Hid (∀ b, b = (cut || cb) → Blk (w8.setCell ⟨p, 1, none⟩ (.bool b)) p 32 #[.int .i64 (wn : Int), .bool b, .slice Ao 0 co, .slice A7 1 c7]) := hide (fun b _ => by
            have := m48.set_ 1 (.bool b)
            simpa using this)
          have hwsz : w3.heap.size ≤ w8.heap.size := by have := m48.lt; omega
          cases cut
          · go_upto_region 12 with fail
            clear e1 g1
            have m49 := hcu.out cb (by simp)
            have m2 := m28.far (p := ⟨p, 1, none⟩) (show w.heap.size + 1 + 1 ≠ p by omega) (.bool cb)
            have m3 := m38.far (p := ⟨p, 1, none⟩) (show w.heap.size + 1 + 1 + 1 ≠ p by omega) (.bool cb)
            have hLO9 : LeftO _ w3.heap.size (.slice A7 1 c7) [L] := hLO8.set_ (i := 1) m48 (by decide) (hLO8.ne m48 (by decide)) (.bool cb)
            have hb := hb8.setCell (p := ⟨p, 1, none⟩) (show w.heap.size ≤ p by omega) (.bool cb)
            have hsz9 : w3.heap.size ≤ (w8.setCell ⟨p, 1, none⟩ (.bool cb)).heap.size := by simpa using hwsz
            clear hcu hLO8 hOP8 m48 m28 m38 hb8
            generalize w8.setCell ⟨p, 1, none⟩ (.bool cb) = w9 at *
            have hrow9 := hide (hLO9.rowsB)
            have e0p := m49.cell 0
            have e1p := m49.cell 1
            have e2p := m49.cell 2
            have e3p := m49.cell 3
            simp only [List.getElem?_toArray, List.getElem?_cons_zero, List.getElem?_cons_succ] at e0p e1p e2p e3p
            have e02 := (m2).cell 0
            have e12 := (m2).cell 1
            have e22 := (m2).cell 2
            have e32 := (m2).cell 3
            have f02 := (m2).frozen 0
            have f12 := (m2).frozen 1
            have f22 := (m2).frozen 2
            have f32 := (m2).frozen 3
            simp only [List.getElem?_toArray, List.getElem?_cons_zero, List.getElem?_cons_succ] at e02 e12 e22 e32
            have e03 := (m3).cell 0
            have e13 := (m3).cell 1
            have e23 := (m3).cell 2
            have e33 := (m3).cell 3
            have f03 := (m3).frozen 0
            have f13 := (m3).frozen 1
            have f23 := (m3).frozen 2
            have f33 := (m3).frozen 3
            simp only [List.getElem?_toArray, List.getElem?_cons_zero, List.getElem?_cons_succ] at e03 e13 e23 e33
            clear hLO9 m49
            have hz2 := set4_blk (a := (.int .i64 (wn : Int))) (b := (.bool cb)) (c := (.slice Ao 0 co)) (d := (.slice A7 1 c7)) m2
            have hne23 : w.heap.size + 1 + 1 ≠ w.heap.size + 1 + 1 + 1 := by omega
            have m3z := set4_far (a := (.int .i64 (wn : Int))) (b := (.bool cb)) (c := (.slice Ao 0 co)) (d := (.slice A7 1 c7)) m3 (Ne.symm hne23)
            have hz3 := set4_blk (a := (.int .i64 0)) (b := (.slice none 0 0)) (c := .slice none 0 0) (d := .slice none 0 0) m3z
            have hz22 := set4_far (a := (.int .i64 0)) (b := (.slice none 0 0)) (c := .slice none 0 0) (d := .slice none 0 0) hz2 hne23
            have hzb := set4_below (a := (.int .i64 0)) (b := (.slice none 0 0)) (c := .slice none 0 0) (d := .slice none 0 0) (p := w.heap.size + 1 + 1 + 1) (set4_below (a := (.int .i64 (wn : Int))) (b := (.bool cb)) (c := (.slice Ao 0 co)) (d := (.slice A7 1 c7)) (p := w.heap.size + 1 + 1) hb (by omega)) (by omega)
            have hzs := (set4_size (X := set4 w9 (w.heap.size + 1 + 1) (.int .i64 (wn : Int)) (.bool cb) (.slice Ao 0 co) (.slice A7 1 c7)) (p := w.heap.size + 1 + 1 + 1) (a := (.int .i64 0)) (b := (.slice none 0 0)) (c := .slice none 0 0) (d := .slice none 0 0)).trans (set4_size (X := w9) (p := w.heap.size + 1 + 1) (a := (.int .i64 (wn : Int))) (b := (.bool cb)) (c := (.slice Ao 0 co)) (d := (.slice A7 1 c7)))
            have hzk : ∀ K : Nat → Prop, ¬ K (w.heap.size + 1 + 1) → ¬ K (w.heap.size + 1 + 1 + 1) → Agree K w9 (set4 (set4 w9 (w.heap.size + 1 + 1) (.int .i64 (wn : Int)) (.bool cb) (.slice Ao 0 co) (.slice A7 1 c7)) (w.heap.size + 1 + 1 + 1) (.int .i64 0) (.slice none 0 0) (.slice none 0 0) (.slice none 0 0)) := fun K h1 h2 => (set4_agree h1).trans (set4_agree h2)
            have y0 := hz22.cell 0
            have y1 := hz22.cell 1
            have y2 := hz22.cell 2
            have y3 := hz22.cell 3
            have z0 := hz3.cell 0
            have z1 := hz3.cell 1
            have z2 := hz3.cell 2
            have z3 := hz3.cell 3
            simp only [List.getElem?_toArray, List.getElem?_cons_zero, List.getElem?_cons_succ] at y0 y1 y2 y3 z0 z1 z2 z3
            unfold set4 at y0 y1 y2 y3 z0 z1 z2 z3
            clear hz2 hz3 hz22 m3z hne23
            replace hzb := hide hzb
            replace hzs := hide (Nat.le_of_eq hzs.symm)
            replace hzk := hide hzk
            repeat' (first | go_values | go_skip | go_guarded | go_step | go_upon)
            try simp only [Exit.inBlock, Exit.then]
            refine bodyPost_ret (v := .tuple #[.agg #[(.int .i64 (wn : Int)), (.bool cb), (.slice Ao 0 co), (.slice A7 1 c7)], .agg #[(.int .i64 0), (.slice none 0 0), .slice none 0 0, .slice none 0 0]]) (by simp [results, Tryz.results10, go_sem, y0, y1, y2, y3, z0, z1, z2, z3]) rfl ?_
            rw [hres.out]
            exact ⟨_, _, rfl, ⟨_, _, rfl, IntS.nil _ _ _ _, hrow9.out.keep (hzk.out _ (fun h => by have := h.1; omega) (fun h => by have := h.1; omega)) (fun b h => Nat.lt_of_lt_of_le h.2 hzs.out)⟩, IntS.nil _ _ _ _, hzb.out⟩
          · go_upto_region 12 with fail
            clear e1 g1
            have m49 := hcu.out true (by simp)
            have m2 := m28.far (p := ⟨p, 1, none⟩) (show w.heap.size + 1 + 1 ≠ p by omega) (.bool true)
            have m3 := m38.far (p := ⟨p, 1, none⟩) (show w.heap.size + 1 + 1 + 1 ≠ p by omega) (.bool true)
            have hLO9 : LeftO _ w3.heap.size (.slice A7 1 c7) [L] := hLO8.set_ (i := 1) m48 (by decide) (hLO8.ne m48 (by decide)) (.bool true)
            have hb := hb8.setCell (p := ⟨p, 1, none⟩) (show w.heap.size ≤ p by omega) (.bool true)
            have hsz9 : w3.heap.size ≤ (w8.setCell ⟨p, 1, none⟩ (.bool true)).heap.size := by simpa using hwsz
            clear hcu hLO8 hOP8 m48 m28 m38 hb8
            generalize w8.setCell ⟨p, 1, none⟩ (.bool true) = w9 at *
            have hrow9 := hide (hLO9.rowsB)
            have e0p := m49.cell 0
            have e1p := m49.cell 1
            have e2p := m49.cell 2
            have e3p := m49.cell 3
            simp only [List.getElem?_toArray, List.getElem?_cons_zero, List.getElem?_cons_succ] at e0p e1p e2p e3p
            have e02 := (m2).cell 0
            have e12 := (m2).cell 1
            have e22 := (m2).cell 2
            have e32 := (m2).cell 3
            have f02 := (m2).frozen 0
            have f12 := (m2).frozen 1
            have f22 := (m2).frozen 2
            have f32 := (m2).frozen 3
            simp only [List.getElem?_toArray, List.getElem?_cons_zero, List.getElem?_cons_succ] at e02 e12 e22 e32
            have e03 := (m3).cell 0
            have e13 := (m3).cell 1
            have e23 := (m3).cell 2
            have e33 := (m3).cell 3
            have f03 := (m3).frozen 0
            have f13 := (m3).frozen 1
            have f23 := (m3).frozen 2
            have f33 := (m3).frozen 3
            simp only [List.getElem?_toArray, List.getElem?_cons_zero, List.getElem?_cons_succ] at e03 e13 e23 e33
            clear hLO9 m49
            have hz2 := set4_blk (a := (.int .i64 (wn : Int))) (b := (.bool true)) (c := (.slice Ao 0 co)) (d := (.slice A7 1 c7)) m2
            have hne23 : w.heap.size + 1 + 1 ≠ w.heap.size + 1 + 1 + 1 := by omega
            have m3z := set4_far (a := (.int .i64 (wn : Int))) (b := (.bool true)) (c := (.slice Ao 0 co)) (d := (.slice A7 1 c7)) m3 (Ne.symm hne23)
            have hz3 := set4_blk (a := (.int .i64 0)) (b := (.slice none 0 0)) (c := .slice none 0 0) (d := .slice none 0 0) m3z
            have hz22 := set4_far (a := (.int .i64 0)) (b := (.slice none 0 0)) (c := .slice none 0 0) (d := .slice none 0 0) hz2 hne23
            have hzb := set4_below (a := (.int .i64 0)) (b := (.slice none 0 0)) (c := .slice none 0 0) (d := .slice none 0 0) (p := w.heap.size + 1 + 1 + 1) (set4_below (a := (.int .i64 (wn : Int))) (b := (.bool true)) (c := (.slice Ao 0 co)) (d := (.slice A7 1 c7)) (p := w.heap.size + 1 + 1) hb (by omega)) (by omega)
            have hzs := (set4_size (X := set4 w9 (w.heap.size + 1 + 1) (.int .i64 (wn : Int)) (.bool true) (.slice Ao 0 co) (.slice A7 1 c7)) (p := w.heap.size + 1 + 1 + 1) (a := (.int .i64 0)) (b := (.slice none 0 0)) (c := .slice none 0 0) (d := .slice none 0 0)).trans (set4_size (X := w9) (p := w.heap.size + 1 + 1) (a := (.int .i64 (wn : Int))) (b := (.bool true)) (c := (.slice Ao 0 co)) (d := (.slice A7 1 c7)))
            have hzk : ∀ K : Nat → Prop, ¬ K (w.heap.size + 1 + 1) → ¬ K (w.heap.size + 1 + 1 + 1) → Agree K w9 (set4 (set4 w9 (w.heap.size + 1 + 1) (.int .i64 (wn : Int)) (.bool true) (.slice Ao 0 co) (.slice A7 1 c7)) (w.heap.size + 1 + 1 + 1) (.int .i64 0) (.slice none 0 0) (.slice none 0 0) (.slice none 0 0)) := fun K h1 h2 => (set4_agree h1).trans (set4_agree h2)
            have y0 := hz22.cell 0
            have y1 := hz22.cell 1
            have y2 := hz22.cell 2
            have y3 := hz22.cell 3
            have z0 := hz3.cell 0
            have z1 := hz3.cell 1
            have z2 := hz3.cell 2
            have z3 := hz3.cell 3
            simp only [List.getElem?_toArray, List.getElem?_cons_zero, List.getElem?_cons_succ] at y0 y1 y2 y3 z0 z1 z2 z3
            unfold set4 at y0 y1 y2 y3 z0 z1 z2 z3
            clear hz2 hz3 hz22 m3z hne23
            replace hzb := hide hzb
            replace hzs := hide (Nat.le_of_eq hzs.symm)
            replace hzk := hide hzk
            repeat' (first | go_values | go_skip | go_guarded | go_step | go_upon)
            try simp only [Exit.inBlock, Exit.then]
            refine bodyPost_ret (v := .tuple #[.agg #[(.int .i64 (wn : Int)), (.bool true), (.slice Ao 0 co), (.slice A7 1 c7)], .agg #[(.int .i64 0), (.slice none 0 0), .slice none 0 0, .slice none 0 0]]) (by simp [results, Tryz.results10, go_sem, y0, y1, y2, y3, z0, z1, z2, z3]) rfl ?_
            rw [hres.out]
            exact ⟨_, _, rfl, ⟨_, _, rfl, IntS.nil _ _ _ _, hrow9.out.keep (hzk.out _ (fun h => by have := h.1; omega) (fun h => by have := h.1; omega)) (fun b h => Nat.lt_of_lt_of_le h.2 hzs.out)⟩, IntS.nil _ _ _ _, hzb.out⟩
        · obtain ⟨m, hm⟩ : ∃ m, left.length = m + 1 := ⟨left.length - 1, by have := List.length_pos_iff.2 hl0; omega⟩
          have hpm : path.length = m := by have := hsm.out (by omega); omega
          have hgl := hide (getLast_at (s := ⟨(wn : Int), cut, path, left⟩) hm)
          dsimp only at hgl
          have hml : m < left.length := by omega
          have hm8 : m ≤ 800000 := by omega
          have hmH : m ≤ H.length - 1 := by rw [← hpm]; exact hplH
          have hrowl := hs3.out _ (List.getElem_mem hml)
          rw [hm] at hLO m4
          rw [hpm] at hOP m4
          have hat := hide (fun (W : World) (hW : LeftO W w3.heap.size (.slice Ax (m + 1) cx) left) => hW.at_ hml)
          have hlen3 := hide (show left.length ≤ 800000 from hll)
          have hcx : m + 1 ≤ cx := by
            obtain ⟨_, _, e, h2⟩ := SlR.len hLO.rows
            simp only [Value.slice.injEq] at e
            omega
          have hco : m ≤ co := by
            obtain ⟨_, _, e, h2⟩ := SlR.len hOP.slB
            simp only [Value.slice.injEq] at e
            omega
          have hlb1 : (((m + 1 : Nat) : Int) == 0) = false := by rw [beq_eq_false_iff_ne]; omega
          have hlb2 : ((m : Int) + 1 == 0) = false := by rw [beq_eq_false_iff_ne]; omega
          have hm0 : (0 : Int) ≤ (m : Int) := Int.natCast_nonneg _
          have hm1' : (m : Int) < ((m + 1 : Nat) : Int) := by omega
          have hm2' : (m : Int) < (m : Int) + 1 := by omega
          have hrowE := hide (Eq.refl left[m])
          obtain ⟨row, hrow⟩ : ∃ row, left[m] = row := ⟨_, rfl⟩
          rw [hrow] at hrowl
          rw [hrow] at hgl
          have hset : Hid (∀ x, left.set m x = left.dropLast ++ [x]) := hide (fun x => set_last hm x)
          have hdl : Hid (left.dropLast = left.take m) := hide (by rw [List.dropLast_eq_take, hm]; rfl)
          have hdp : Hid (path.dropLast = path.take (m - 1)) := hide (by rw [List.dropLast_eq_take, hpm])
          rw [hrow] at hat
          clear hrowE hl0 hll
          replace hm := hide hm
          replace hpm := hide hpm
          replace hml := hide hml
          replace hrow := hide hrow
          clear hs1 hs2 hplH
          cases row with
          | nil =>
            obtain ⟨g, A', c', csL, rfl, hgB, kL, hcell, -, -⟩ := hat.out _ hLO
            simp only [List.length_nil] at hcell
            have e0 := m4.cell 0
            have e1 := m4.cell 1
            have e2 := m4.cell 2
            have e3 := m4.cell 3
            have g2 := m4.frozen 2
            have g3 := m4.frozen 3
            simp only [List.getElem?_toArray, List.getElem?_cons_zero, List.getElem?_cons_succ] at e0 e1 e2 e3
            cases m with
            | zero =>
              by_cases hcw : cut = true ∧ (wn : Int) < 32
              · obtain ⟨rfl, hw32⟩ := hcw
                have hres : Hid (stepW H level ⟨(wn : Int), true, path, left⟩ = (⟨(wn : Int) + 1, false, [], []⟩, 0, [])) := hide (by rw [hres0.out]; unfold stepM; rw [hgl.out]; simp [hm.out, hw32])
                have hwb : decide ((wn : Int) < 32) = true := decide_eq_true hw32
                have hwb2 : decide (wn < 32) = true := decide_eq_true (by omega)
                have e02a := (m2).cell 0
                have e12a := (m2).cell 1
                have e22a := (m2).cell 2
                have e32a := (m2).cell 3
                have f02a := (m2).frozen 0
                have f12a := (m2).frozen 1
                have f22a := (m2).frozen 2
                have f32a := (m2).frozen 3
                simp only [List.getElem?_toArray, List.getElem?_cons_zero, List.getElem?_cons_succ] at e02a e12a e22a e32a
                have e03a := (m3).cell 0
                have e13a := (m3).cell 1
                have e23a := (m3).cell 2
                have e33a := (m3).cell 3
                have f03a := (m3).frozen 0
                have f13a := (m3).frozen 1
                have f23a := (m3).frozen 2
                have f33a := (m3).frozen 3
                simp only [List.getElem?_toArray, List.getElem?_cons_zero, List.getElem?_cons_succ] at e03a e13a e23a e33a
                go_upto_region 17 with fail
                clear kL hcell
                have hz2 := set4_blk (a := (.int .i64 ((wn : Int) + 1))) (b := (.bool false)) (c := (.slice none 0 0)) (d := (.slice none 0 0)) m2
                have hne23 : w.heap.size + 1 + 1 ≠ w.heap.size + 1 + 1 + 1 := by omega
                have m3z := set4_far (a := (.int .i64 ((wn : Int) + 1))) (b := (.bool false)) (c := (.slice none 0 0)) (d := (.slice none 0 0)) m3 (Ne.symm hne23)
                have hz3 := set4_blk (a := (.int .i64 0)) (b := (.slice none 0 0)) (c := .slice none 0 0) (d := .slice none 0 0) m3z
                have hz22 := set4_far (a := (.int .i64 0)) (b := (.slice none 0 0)) (c := .slice none 0 0) (d := .slice none 0 0) hz2 hne23
                have hzb := set4_below (a := (.int .i64 0)) (b := (.slice none 0 0)) (c := .slice none 0 0) (d := .slice none 0 0) (p := w.heap.size + 1 + 1 + 1) (set4_below (a := (.int .i64 ((wn : Int) + 1))) (b := (.bool false)) (c := (.slice none 0 0)) (d := (.slice none 0 0)) (p := w.heap.size + 1 + 1) hb (by omega)) (by omega)
                have hzs := (set4_size (X := set4 W5 (w.heap.size + 1 + 1) (.int .i64 ((wn : Int) + 1)) (.bool false) (.slice none 0 0) (.slice none 0 0)) (p := w.heap.size + 1 + 1 + 1) (a := (.int .i64 0)) (b := (.slice none 0 0)) (c := .slice none 0 0) (d := .slice none 0 0)).trans (set4_size (X := W5) (p := w.heap.size + 1 + 1) (a := (.int .i64 ((wn : Int) + 1))) (b := (.bool false)) (c := (.slice none 0 0)) (d := (.slice none 0 0)))
                have hzk : ∀ K : Nat → Prop, ¬ K (w.heap.size + 1 + 1) → ¬ K (w.heap.size + 1 + 1 + 1) → Agree K W5 (set4 (set4 W5 (w.heap.size + 1 + 1) (.int .i64 ((wn : Int) + 1)) (.bool false) (.slice none 0 0) (.slice none 0 0)) (w.heap.size + 1 + 1 + 1) (.int .i64 0) (.slice none 0 0) (.slice none 0 0) (.slice none 0 0)) := fun K h1 h2 => (set4_agree h1).trans (set4_agree h2)
                have y0 := hz22.cell 0
                have y1 := hz22.cell 1
                have y2 := hz22.cell 2
                have y3 := hz22.cell 3
                have z0 := hz3.cell 0
                have z1 := hz3.cell 1
                have z2 := hz3.cell 2
                have z3 := hz3.cell 3
                simp only [List.getElem?_toArray, List.getElem?_cons_zero, List.getElem?_cons_succ] at y0 y1 y2 y3 z0 z1 z2 z3
                unfold set4 at y0 y1 y2 y3 z0 z1 z2 z3
                clear hz2 hz3 hz22 m3z hne23
                replace hzb := hide hzb
                replace hzs := hide (Nat.le_of_eq hzs.symm)
                replace hzk := hide hzk
                repeat' (first | go_values | go_skip | go_guarded | go_step | go_upon)
                try simp only [Exit.inBlock, Exit.then]
                refine bodyPost_ret (v := .tuple #[.agg #[(.int .i64 ((wn : Int) + 1)), (.bool false), (.slice none 0 0), (.slice none 0 0)], .agg #[(.int .i64 0), (.slice none 0 0), .slice none 0 0, .slice none 0 0]]) (by simp [results, Tryz.results10, go_sem, y0, y1, y2, y3, z0, z1, z2, z3]) rfl ?_
                rw [hres.out]
                exact ⟨_, _, rfl, ⟨_, _, rfl, IntS.nil _ _ _ _, RowsS.nil _ _ _ _⟩, IntS.nil _ _ _ _, hzb.out⟩
              · have hres : Hid (stepW H level ⟨(wn : Int), cut, path, left⟩ = (⟨(wn : Int), cut, path, left⟩, 3, [])) := hide (by rw [hres0.out]; unfold stepM; rw [hgl.out]; dsimp only; rw [if_neg (by rw [hm.out]; omega), if_neg hcw])
                have hv5 := hide (hv.out)
                cases cut with
                | false =>
                  clear hcw
                  have e01a := (m1).cell 0
                  have e11a := (m1).cell 1
                  have e21a := (m1).cell 2
                  have e31a := (m1).cell 3
                  have f01a := (m1).frozen 0
                  have f11a := (m1).frozen 1
                  have f21a := (m1).frozen 2
                  have f31a := (m1).frozen 3
                  simp only [List.getElem?_toArray, List.getElem?_cons_zero, List.getElem?_cons_succ] at e01a e11a e21a e31a
                  have e02a := (m2).cell 0
                  have e12a := (m2).cell 1
                  have e22a := (m2).cell 2
                  have e32a := (m2).cell 3
                  have f02a := (m2).frozen 0
                  have f12a := (m2).frozen 1
                  have f22a := (m2).frozen 2
                  have f32a := (m2).frozen 3
                  simp only [List.getElem?_toArray, List.getElem?_cons_zero, List.getElem?_cons_succ] at e02a e12a e22a e32a
                  have e03a := (m3).cell 0
                  have e13a := (m3).cell 1
                  have e23a := (m3).cell 2
                  have e33a := (m3).cell 3
                  have f03a := (m3).frozen 0
                  have f13a := (m3).frozen 1
                  have f23a := (m3).frozen 2
                  have f33a := (m3).frozen 3
                  simp only [List.getElem?_toArray, List.getElem?_cons_zero, List.getElem?_cons_succ] at e03a e13a e23a e33a
                  go_upto_region 18 with fail
                  clear kL hcell
                  have hz2 := set4_blk (a := (.int .i64 (wn : Int))) (b := (.bool false)) (c := (.slice Ap path.length cp)) (d := (.slice Al left.length cl)) m2
                  have hne23 : w.heap.size + 1 + 1 ≠ w.heap.size + 1 + 1 + 1 := by omega
                  have m3z := set4_far (a := (.int .i64 (wn : Int))) (b := (.bool false)) (c := (.slice Ap path.length cp)) (d := (.slice Al left.length cl)) m3 (Ne.symm hne23)
                  have hz3 := set4_blk (a := (.int .i64 3)) (b := (.slice none 0 0)) (c := .slice none 0 0) (d := .slice none 0 0) m3z
                  have hz22 := set4_far (a := (.int .i64 3)) (b := (.slice none 0 0)) (c := .slice none 0 0) (d := .slice none 0 0) hz2 hne23
                  have hzb := set4_below (a := (.int .i64 3)) (b := (.slice none 0 0)) (c := .slice none 0 0) (d := .slice none 0 0) (p := w.heap.size + 1 + 1 + 1) (set4_below (a := (.int .i64 (wn : Int))) (b := (.bool false)) (c := (.slice Ap path.length cp)) (d := (.slice Al left.length cl)) (p := w.heap.size + 1 + 1) hb (by omega)) (by omega)
                  have hzs := (set4_size (X := set4 W5 (w.heap.size + 1 + 1) (.int .i64 (wn : Int)) (.bool false) (.slice Ap path.length cp) (.slice Al left.length cl)) (p := w.heap.size + 1 + 1 + 1) (a := (.int .i64 3)) (b := (.slice none 0 0)) (c := .slice none 0 0) (d := .slice none 0 0)).trans (set4_size (X := W5) (p := w.heap.size + 1 + 1) (a := (.int .i64 (wn : Int))) (b := (.bool false)) (c := (.slice Ap path.length cp)) (d := (.slice Al left.length cl)))
                  have hzk : ∀ K : Nat → Prop, ¬ K (w.heap.size + 1 + 1) → ¬ K (w.heap.size + 1 + 1 + 1) → Agree K W5 (set4 (set4 W5 (w.heap.size + 1 + 1) (.int .i64 (wn : Int)) (.bool false) (.slice Ap path.length cp) (.slice Al left.length cl)) (w.heap.size + 1 + 1 + 1) (.int .i64 3) (.slice none 0 0) (.slice none 0 0) (.slice none 0 0)) := fun K h1 h2 => (set4_agree h1).trans (set4_agree h2)
                  have y0 := hz22.cell 0
                  have y1 := hz22.cell 1
                  have y2 := hz22.cell 2
                  have y3 := hz22.cell 3
                  have z0 := hz3.cell 0
                  have z1 := hz3.cell 1
                  have z2 := hz3.cell 2
                  have z3 := hz3.cell 3
                  simp only [List.getElem?_toArray, List.getElem?_cons_zero, List.getElem?_cons_succ] at y0 y1 y2 y3 z0 z1 z2 z3
                  unfold set4 at y0 y1 y2 y3 z0 z1 z2 z3
                  clear hz2 hz3 hz22 m3z hne23
                  replace hzb := hide hzb
                  replace hzs := hide (Nat.le_of_eq hzs.symm)
                  replace hzk := hide hzk
                  repeat' (first | go_values | go_skip | go_guarded | go_step | go_upon)
                  try simp only [Exit.inBlock, Exit.then]
                  refine bodyPost_ret (v := .tuple #[.agg #[(.int .i64 (wn : Int)), (.bool false), (.slice Ap path.length cp), (.slice Al left.length cl)], .agg #[(.int .i64 3), (.slice none 0 0), .slice none 0 0, .slice none 0 0]]) (by simp [results, Tryz.results10, go_sem, y0, y1, y2, y3, z0, z1, z2, z3]) rfl ?_
                  rw [hres.out]
                  exact ⟨_, _, rfl, hv.out.keep (old_keep hb (by omega) hzk.out (by omega) (by omega)) (fun b hb' => Nat.lt_of_lt_of_le hb' (Nat.le_trans (by omega) hzs.out)), IntS.nil _ _ _ _, hzb.out⟩
                | true =>
                  have hwb : decide ((wn : Int) < 32) = false := decide_eq_false (fun g => hcw ⟨rfl, g⟩)
                  have hwb2 : decide (wn < 32) = false := decide_eq_false (fun g => hcw ⟨rfl, by omega⟩)
                  clear hcw
                  have e01a := (m1).cell 0
                  have e11a := (m1).cell 1
                  have e21a := (m1).cell 2
                  have e31a := (m1).cell 3
                  have f01a := (m1).frozen 0
                  have f11a := (m1).frozen 1
                  have f21a := (m1).frozen 2
                  have f31a := (m1).frozen 3
                  simp only [List.getElem?_toArray, List.getElem?_cons_zero, List.getElem?_cons_succ] at e01a e11a e21a e31a
                  have e02a := (m2).cell 0
                  have e12a := (m2).cell 1
                  have e22a := (m2).cell 2
                  have e32a := (m2).cell 3
                  have f02a := (m2).frozen 0
                  have f12a := (m2).frozen 1
                  have f22a := (m2).frozen 2
                  have f32a := (m2).frozen 3
                  simp only [List.getElem?_toArray, List.getElem?_cons_zero, List.getElem?_cons_succ] at e02a e12a e22a e32a
                  have e03a := (m3).cell 0
                  have e13a := (m3).cell 1
                  have e23a := (m3).cell 2
                  have e33a := (m3).cell 3
                  have f03a := (m3).frozen 0
                  have f13a := (m3).frozen 1
                  have f23a := (m3).frozen 2
                  have f33a := (m3).frozen 3
                  simp only [List.getElem?_toArray, List.getElem?_cons_zero, List.getElem?_cons_succ] at e03a e13a e23a e33a
                  go_upto_region 18 with fail
                  clear kL hcell
                  have hz2 := set4_blk (a := (.int .i64 (wn : Int))) (b := (.bool true)) (c := (.slice Ap path.length cp)) (d := (.slice Al left.length cl)) m2
                  have hne23 : w.heap.size + 1 + 1 ≠ w.heap.size + 1 + 1 + 1 := by omega
                  have m3z := set4_far (a := (.int .i64 (wn : Int))) (b := (.bool true)) (c := (.slice Ap path.length cp)) (d := (.slice Al left.length cl)) m3 (Ne.symm hne23)
                  have hz3 := set4_blk (a := (.int .i64 3)) (b := (.slice none 0 0)) (c := .slice none 0 0) (d := .slice none 0 0) m3z
                  have hz22 := set4_far (a := (.int .i64 3)) (b := (.slice none 0 0)) (c := .slice none 0 0) (d := .slice none 0 0) hz2 hne23
                  have hzb := set4_below (a := (.int .i64 3)) (b := (.slice none 0 0)) (c := .slice none 0 0) (d := .slice none 0 0) (p := w.heap.size + 1 + 1 + 1) (set4_below (a := (.int .i64 (wn : Int))) (b := (.bool true)) (c := (.slice Ap path.length cp)) (d := (.slice Al left.length cl)) (p := w.heap.size + 1 + 1) hb (by omega)) (by omega)
                  have hzs := (set4_size (X := set4 W5 (w.heap.size + 1 + 1) (.int .i64 (wn : Int)) (.bool true) (.slice Ap path.length cp) (.slice Al left.length cl)) (p := w.heap.size + 1 + 1 + 1) (a := (.int .i64 3)) (b := (.slice none 0 0)) (c := .slice none 0 0) (d := .slice none 0 0)).trans (set4_size (X := W5) (p := w.heap.size + 1 + 1) (a := (.int .i64 (wn : Int))) (b := (.bool true)) (c := (.slice Ap path.length cp)) (d := (.slice Al left.length cl)))
                  have hzk : ∀ K : Nat → Prop, ¬ K (w.heap.size + 1 + 1) → ¬ K (w.heap.size + 1 + 1 + 1) → Agree K W5 (set4 (set4 W5 (w.heap.size + 1 + 1) (.int .i64 (wn : Int)) (.bool true) (.slice Ap path.length cp) (.slice Al left.length cl)) (w.heap.size + 1 + 1 + 1) (.int .i64 3) (.slice none 0 0) (.slice none 0 0) (.slice none 0 0)) := fun K h1 h2 => (set4_agree h1).trans (set4_agree h2)
                  have y0 := hz22.cell 0
                  have y1 := hz22.cell 1
                  have y2 := hz22.cell 2
                  have y3 := hz22.cell 3
                  have z0 := hz3.cell 0
                  have z1 := hz3.cell 1
                  have z2 := hz3.cell 2
                  have z3 := hz3.cell 3
                  simp only [List.getElem?_toArray, List.getElem?_cons_zero, List.getElem?_cons_succ] at y0 y1 y2 y3 z0 z1 z2 z3
                  unfold set4 at y0 y1 y2 y3 z0 z1 z2 z3
                  clear hz2 hz3 hz22 m3z hne23
                  replace hzb := hide hzb
                  replace hzs := hide (Nat.le_of_eq hzs.symm)
                  replace hzk := hide hzk
                  repeat' (first | go_values | go_skip | go_guarded | go_step | go_upon)
                  try simp only [Exit.inBlock, Exit.then]
                  refine bodyPost_ret (v := .tuple #[.agg #[(.int .i64 (wn : Int)), (.bool true), (.slice Ap path.length cp), (.slice Al left.length cl)], .agg #[(.int .i64 3), (.slice none 0 0), .slice none 0 0, .slice none 0 0]]) (by simp [results, Tryz.results10, go_sem, y0, y1, y2, y3, z0, z1, z2, z3]) rfl ?_
                  rw [hres.out]
                  exact ⟨_, _, rfl, hv.out.keep (old_keep hb (by omega) hzk.out (by omega) (by omega)) (fun b hb' => Nat.lt_of_lt_of_le hb' (Nat.le_trans (by omega) hzs.out)), IntS.nil _ _ _ _, hzb.out⟩
            | succ k =>
              have hk0 : (0 : Int) ≤ (k : Int) := Int.natCast_nonneg _
              have hz1 : (((k + 1 : Nat) : Int) == 0) = false := by rw [beq_eq_false_iff_ne]; omega
              have hz2 : ((k : Int) + 1 == 0) = false := by rw [beq_eq_false_iff_ne]; omega
              have hres : Hid (stepW H level ⟨(wn : Int), cut, path, left⟩ = (⟨(wn : Int), cut, path.take k, left.take (k + 1)⟩, 0, [])) := hide (by
                rw [hres0.out]
                unfold stepM
                rw [hgl.out]
                dsimp only
                rw [if_pos (by rw [hm.out]; omega), hdl.out, hdp.out]
                rfl)
              have hs3a : (((k + 1 : Nat) : Int)) ≤ (cx : Int) := by omega
              have hs3b : k + 1 ≤ cx := by omega
              have hs3c : k ≤ co := by omega
              have hs3d : (k : Int) ≤ (co : Int) := by omega
              have hs3e : (k : Int) + 1 ≤ (cx : Int) := by omega
              go_upto_region 21 with fail
              have n3 := m4.set_ 3 (.slice (some ⟨g, 0, none⟩) (k + 1) cx)
              simp only [List.setIfInBounds_toArray, List.set_cons_zero, List.set_cons_succ] at n3
              have n2 := n3.set_ 2 (.slice Ao k co)
              simp only [List.setIfInBounds_toArray, List.set_cons_zero, List.set_cons_succ] at n2
              have hwp1 : w.heap.size + 1 + 1 ≠ p := by omega
              have hwp2 : w.heap.size + 1 + 1 + 1 ≠ p := by omega
              have m22 := (m2.far (p := ⟨p, 3, none⟩) hwp1 (.slice (some ⟨g, 0, none⟩) (k + 1) cx)).far (p := ⟨p, 2, none⟩) hwp1 (.slice Ao k co)
              have m33 := (m3.far (p := ⟨p, 3, none⟩) hwp2 (.slice (some ⟨g, 0, none⟩) (k + 1) cx)).far (p := ⟨p, 2, none⟩) hwp2 (.slice Ao k co)
              have hL2 := (hLO.set_ (i := 3) m4 (by decide) (hLO.ne m4 (by decide)) (.slice (some ⟨g, 0, none⟩) (k + 1) cx))
              have hL3 := hL2.set_ (i := 2) n3 (by decide) (hL2.ne n3 (by decide)) (.slice Ao k co)
              have hO3 := (hOP.keepK (IntK.set_ (i := 3) m4 (by decide) (.slice (some ⟨g, 0, none⟩) (k + 1) cx))).keepK (IntK.set_ (i := 2) n3 (by decide) (.slice Ao k co))
              have hbz := (hb.setCell (p := ⟨p, 3, none⟩) (show w.heap.size ≤ p by omega) (.slice (some ⟨g, 0, none⟩) (k + 1) cx)).setCell (p := ⟨p, 2, none⟩) (show w.heap.size ≤ p by omega) (.slice Ao k co)
              have hszz : w3.heap.size ≤ ((W5.setCell ⟨p, 3, none⟩ (.slice (some ⟨g, 0, none⟩) (k + 1) cx)).setCell ⟨p, 2, none⟩ (.slice Ao k co)).heap.size := by simp; omega
              clear m2 m3 hb hLO hOP m4 n3 hL2 kL hcell m0 m1 e0 e1 e2 e3 g2 g3 hat hT5 c0
              generalize (W5.setCell ⟨p, 3, none⟩ (.slice (some ⟨g, 0, none⟩) (k + 1) cx)).setCell ⟨p, 2, none⟩ (.slice Ao k co) = w9 at *
              have hrow9 := hide (RowsS.take hL3.rowsB (k := k + 1) (by rw [hm.out]; omega))
              have hpat9 := hide (IntS.take hO3.slB (k := k) (by rw [hpm.out]; omega))
              have m2 := m22
              have m3 := m33
              have hb := hbz
              clear m22 m33 hbz hL3 hO3
              have e01a := (n2).cell 0
              have e11a := (n2).cell 1
              have e21a := (n2).cell 2
              have e31a := (n2).cell 3
              have f01a := (n2).frozen 0
              have f11a := (n2).frozen 1
              have f21a := (n2).frozen 2
              have f31a := (n2).frozen 3
              simp only [List.getElem?_toArray, List.getElem?_cons_zero, List.getElem?_cons_succ] at e01a e11a e21a e31a
              have e02a := (m2).cell 0
              have e12a := (m2).cell 1
              have e22a := (m2).cell 2
              have e32a := (m2).cell 3
              have f02a := (m2).frozen 0
              have f12a := (m2).frozen 1
              have f22a := (m2).frozen 2
              have f32a := (m2).frozen 3
              simp only [List.getElem?_toArray, List.getElem?_cons_zero, List.getElem?_cons_succ] at e02a e12a e22a e32a
              have e03a := (m3).cell 0
              have e13a := (m3).cell 1
              have e23a := (m3).cell 2
              have e33a := (m3).cell 3
              have f03a := (m3).frozen 0
              have f13a := (m3).frozen 1
              have f23a := (m3).frozen 2
              have f33a := (m3).frozen 3
              simp only [List.getElem?_toArray, List.getElem?_cons_zero, List.getElem?_cons_succ] at e03a e13a e23a e33a
              clear n2
              have hz2 := set4_blk (a := (.int .i64 (wn : Int))) (b := (.bool cut)) (c := (.slice Ao k co)) (d := (.slice (some ⟨g, 0, none⟩) (k + 1) cx)) m2
              have hne23 : w.heap.size + 1 + 1 ≠ w.heap.size + 1 + 1 + 1 := by omega
              have m3z := set4_far (a := (.int .i64 (wn : Int))) (b := (.bool cut)) (c := (.slice Ao k co)) (d := (.slice (some ⟨g, 0, none⟩) (k + 1) cx)) m3 (Ne.symm hne23)
              have hz3 := set4_blk (a := (.int .i64 0)) (b := (.slice none 0 0)) (c := .slice none 0 0) (d := .slice none 0 0) m3z
              have hz22 := set4_far (a := (.int .i64 0)) (b := (.slice none 0 0)) (c := .slice none 0 0) (d := .slice none 0 0) hz2 hne23
              have hzb := set4_below (a := (.int .i64 0)) (b := (.slice none 0 0)) (c := .slice none 0 0) (d := .slice none 0 0) (p := w.heap.size + 1 + 1 + 1) (set4_below (a := (.int .i64 (wn : Int))) (b := (.bool cut)) (c := (.slice Ao k co)) (d := (.slice (some ⟨g, 0, none⟩) (k + 1) cx)) (p := w.heap.size + 1 + 1) hb (by omega)) (by omega)
              have hzs := (set4_size (X := set4 w9 (w.heap.size + 1 + 1) (.int .i64 (wn : Int)) (.bool cut) (.slice Ao k co) (.slice (some ⟨g, 0, none⟩) (k + 1) cx)) (p := w.heap.size + 1 + 1 + 1) (a := (.int .i64 0)) (b := (.slice none 0 0)) (c := .slice none 0 0) (d := .slice none 0 0)).trans (set4_size (X := w9) (p := w.heap.size + 1 + 1) (a := (.int .i64 (wn : Int))) (b := (.bool cut)) (c := (.slice Ao k co)) (d := (.slice (some ⟨g, 0, none⟩) (k + 1) cx)))
              have hzk : ∀ K : Nat → Prop, ¬ K (w.heap.size + 1 + 1) → ¬ K (w.heap.size + 1 + 1 + 1) → Agree K w9 (set4 (set4 w9 (w.heap.size + 1 + 1) (.int .i64 (wn : Int)) (.bool cut) (.slice Ao k co) (.slice (some ⟨g, 0, none⟩) (k + 1) cx)) (w.heap.size + 1 + 1 + 1) (.int .i64 0) (.slice none 0 0) (.slice none 0 0) (.slice none 0 0)) := fun K h1 h2 => (set4_agree h1).trans (set4_agree h2)
              have y0 := hz22.cell 0
              have y1 := hz22.cell 1
              have y2 := hz22.cell 2
              have y3 := hz22.cell 3
              have z0 := hz3.cell 0
              have z1 := hz3.cell 1
              have z2 := hz3.cell 2
              have z3 := hz3.cell 3
              simp only [List.getElem?_toArray, List.getElem?_cons_zero, List.getElem?_cons_succ] at y0 y1 y2 y3 z0 z1 z2 z3
              unfold set4 at y0 y1 y2 y3 z0 z1 z2 z3
              clear hz2 hz3 hz22 m3z hne23
              replace hzb := hide hzb
              replace hzs := hide (Nat.le_of_eq hzs.symm)
              replace hzk := hide hzk
              repeat' (first | go_values | go_skip | go_guarded | go_step | go_upon)
              try simp only [Exit.inBlock, Exit.then]
              refine bodyPost_ret (v := .tuple #[.agg #[(.int .i64 (wn : Int)), (.bool cut), (.slice Ao k co), (.slice (some ⟨g, 0, none⟩) (k + 1) cx)], .agg #[(.int .i64 0), (.slice none 0 0), .slice none 0 0, .slice none 0 0]]) (by simp [results, Tryz.results10, go_sem, y0, y1, y2, y3, z0, z1, z2, z3]) rfl ?_
              rw [hres.out]
              exact ⟨_, _, rfl, ⟨_, _, rfl, hpat9.out.keep (hzk.out _ (fun h => by have := h.1; omega) (fun h => by have := h.1; omega)) (fun b h => Nat.lt_of_lt_of_le h.2 hzs.out), hrow9.out.keep (hzk.out _ (fun h => by have := h.1; omega) (fun h => by have := h.1; omega)) (fun b h => Nat.lt_of_lt_of_le h.2 hzs.out)⟩, IntS.nil _ _ _ _, hzb.out⟩
          | cons x r =>
            obtain ⟨g, A', c', csL, hAx, hgB, kL, hcell, hIrow, hstore⟩ := hat.out _ hLO
            subst hAx
            rw [List.length_cons] at hcell hIrow
            simp only [List.length_cons] at hrowl
            obtain ⟨bx, ox, hA', hbx, hx0⟩ := hIrow.at_ (i := 0) (by simp)
            subst hA'
            rw [Nat.add_zero] at hx0
            simp only [List.getElem_cons_zero] at hx0
            have hcc : r.length + 1 ≤ c' := by
              obtain ⟨_, _, e, h2⟩ := SlR.len hIrow
              simp only [Value.slice.injEq] at e
              simp at h2
              omega
            have e0 := m4.cell 0
            have e2 := m4.cell 2
            have e3 := m4.cell 3
            simp only [List.getElem?_toArray, List.getElem?_cons_zero, List.getElem?_cons_succ] at e0 e2 e3
            have hr1 : (((r.length + 1 : Nat) : Int) == 0) = false := by rw [beq_eq_false_iff_ne]; omega
            have hr2 : ((r.length : Int) + 1 == 0) = false := by rw [beq_eq_false_iff_ne]; omega
            have hnil := hide (World.ownsRow_nil W5 W5.heap.size 3 1)
            have hbxl : bx < W5.heap.size := hbx.lt
            have hgl5 := kL.lt
            have hpl5 := m4.lt
            have hpat5 := hide (hOP.slB.keep (K' := Old W5) (Agree.refl _ _) (fun b h => h.2))
            have h63 : 0 + path.length ≤ maxLen := by have := hpm.out; unfold maxLen; omega
            have hbb : (0 + path.length) * 8 ≤ 140737488355328 := by have := hpm.out; omega
            have h63b : path.length + 1 ≤ maxLen := by have := hpm.out; unfold maxLen; omega
            have hbb2 : (path.length + 1) * 8 ≤ 140737488355328 := by have := hpm.out; omega
            have hcell5 := hide hcell
            have hcell5' := hide hcell
            replace hLO := hide hLO
            replace hOP := hide hOP
            replace hIrow := hide hIrow
            replace hstore := hide hstore
            have hpv : Hid ((Value.slice Ao m co) = .slice Ao path.length co) := hide (by rw [hpm.out])
            go_upto_region 23 with fail
            go_cut [14] (fun s14 wz => OwnI wz W5.heap.size s14 path ∧ Below W5.heap.size W5 wz)
            case first =>
              go_wp2_with (at_builtin; go_loud (refine wpList_append_flat (enc := Go.Inq.encI) rfl (.tmp 111) (.tmp 113) 25 rfl W5.heap.size 3 ii _ 1 8 Tryz.underlying25 hii hi1 hi2 hi3 rfl (by decide) (.slice none 0 0) (Old W5) ([] : List Int) rfl hnil.out (fun _ => rfl) _ path rfl hpat5.out Go.Inq.encI_one h63 hbb (Nat.le_refl _) ?_); intro v6 w6 hown6 hg6 hat6)
              go_meet
              exact ⟨hown6, below_grown (Below.refl _ _) hg6 (Nat.le_refl _) (fun k hk => by simp [Value.ownBlock] at hk)⟩
            case rest =>
              obtain ⟨hO6, hb6⟩ := hcut
              obtain ⟨X6, hX6⟩ : ∃ X6, X6 = wc := ⟨_, rfl⟩
              subst hX6
              obtain ⟨A6, c6, rfl⟩ := OwnI.form hO6
              have e36 := (hb6.cell (p := ⟨p, 3, none⟩) hpl5).trans e3
              have hc6 := (hb6.cell (p := ⟨g, m, none⟩) hgl5).trans hcell
              have hx6 := (hb6.cell (p := ⟨bx, ox, none⟩) hbxl).trans hx0
              have hs6 := hb6.size
              replace hO6 := hide hO6
              clear e0 e2 e3 hcell hx0 hpat5 hnil
              go_upto_region 24 with fail
              go_cut [14] (fun s14 wz => OwnI wz W5.heap.size s14 (path ++ [x]) ∧ Below W5.heap.size W5 wz)
              case first =>
                go_wp2_with (at_builtin; go_loud (refine wpList_push (enc := Go.Inq.encI) rfl (.tmp 115) (.tmp 123) 25 rfl W5.heap.size 3 ii _ 1 8 Tryz.underlying25 hii hi1 hi2 hi3 rfl (by decide) (.slice A6 path.length c6) path rfl hO6.out (fun _ => rfl) x _ rfl rfl Go.Inq.encI_one h63b hbb2 hs6 W5 W5.heap.size (Nat.le_refl _) hb6 ?_); intro v7 w7 hown7 hg7 hbw7 hat7)
                go_meet
                exact ⟨hown7, hbw7⟩
              case rest =>
                clear hb6 hO6 e36 hc6 hx6 hs6
                obtain ⟨hO7, hb7⟩ := hcut
                obtain ⟨X7, hX7⟩ : ∃ X7, X7 = wc := ⟨_, rfl⟩
                subst hX7
                obtain ⟨A7, c7, hv7⟩ := OwnI.form hO7
                rw [List.length_append, hpm.out, List.length_singleton] at hv7
                subst hv7
                have m47 := m4.below hb7 m4.lt
                have e37 := m47.cell 3
                simp only [List.getElem?_toArray, List.getElem?_cons_zero, List.getElem?_cons_succ] at e37
                have hL7 := hLO.out.below hb7 (Nat.le_refl _)
                obtain ⟨g', A'', c'', csL', hAx, -, kL7, hcell7, hI7, hst7⟩ := hat.out _ hL7
                injection hAx with hAx
                injection hAx with hAx
                subst hAx
                have hcc7 := (hb7.cell (p := ⟨g, m, none⟩) hgl5).trans hcell5.out
                rw [hcc7] at hcell7
                simp only [Option.some.injEq, Value.slice.injEq] at hcell7
                obtain ⟨rfl, -, rfl⟩ := hcell7
                have hdr := SlR.drop hI7 (k := 1) (by simp)
                have f7 := kL7.frozen m
                have m27 := m2.below hb7 m2.lt
                have m37 := m3.below hb7 m3.lt
                have m07 := m0.below hb7 m0.lt
                have hbw7 := hb.trans (hb7.mono hb.size)
                have hO57 : OwnI X7 w3.heap.size (.slice Ao m co) path := own_below hOP.out hb7 (Nat.le_refl _)
                have hgp : p ≠ g := fun e => by subst e; have := m47.symm.trans kL7; simp at this
                have hg2 : w.heap.size + 1 + 1 ≠ g := by omega
                have hg3 : w.heap.size + 1 + 1 + 1 ≠ g := by omega
                have hg0 : w.heap.size ≠ g := by omega
                have hs7 := hb7.size
                have hlg7 : (Value.slice A7 (m + 1) c7).ownBlock ≠ some g := fun e => by
                  have h1 := (hO7.lt _ e).1
                  omega
                have hmk : Hid (∀ A2 c2, IntS X7 (IntK w3.heap.size X7) (.slice A2 r.length c2) r → MidR w ((X7.drew).setCell ⟨g, m, none⟩ (.slice A2 r.length c2)) A c H wn cut path (left.dropLast ++ [r]) (path ++ [x]) m w3.heap.size W5.heap.size p Ao co (some ⟨g, 0, none⟩) cx A7 c7 ∧ MidR w (X7.setCell ⟨g, m, none⟩ (.slice A2 r.length c2)).drew A c H wn cut path (left.dropLast ++ [r]) (path ++ [x]) m w3.heap.size W5.heap.size p Ao co (some ⟨g, 0, none⟩) cx A7 c7) := hide (fun A2 c2 hI => by
                  have hM : MidR w (X7.setCell ⟨g, m, none⟩ (.slice A2 r.length c2)) A c H wn cut path (left.dropLast ++ [r]) (path ++ [x]) m w3.heap.size W5.heap.size p Ao co (some ⟨g, 0, none⟩) cx A7 c7 :=
                    { below := hbw7.setCell (p := ⟨g, m, none⟩) (show w.heap.size ≤ g by omega) _
                      b0 := m07.far (p := ⟨g, m, none⟩) hg0 _
                      b2 := m27.far (p := ⟨g, m, none⟩) hg2 _
                      b3 := m37.far (p := ⟨g, m, none⟩) hg3 _
                      b4 := m47.far (p := ⟨g, m, none⟩) hgp _
                      rows := by rw [← hset.out]; exact hst7 A2 c2 r hI
                      pat := hO57.keepK (IntK.set_ kL7 (by decide) _)
                      lng := own_setCell (p := ⟨g, m, none⟩) hO7 hlg7 _
                      l1 := by omega
                      l2 := by omega
                      l3 := by omega
                      l4 := by simp; omega }
                  exact ⟨hM.step ⟨rfl, rfl, rfl, Nat.le_refl _, fun _ _ => rfl⟩, hM.step ⟨rfl, rfl, rfl, Nat.le_refl _, fun _ _ => rfl⟩⟩)
                clear hst7 hI7 hcell5 hcc7 hO7 hO57 m27 m37 m07
                have hcell7 : X7.cell? ⟨g, m, none⟩ = some (.slice (some ⟨bx, ox, none⟩) (r.length + 1) c') := (hb7.cell (p := ⟨g, m, none⟩) hgl5).trans hcell5'.out
                have hdl1 : (x :: r).length - 1 = r.length := by simp
                rw [hdl1] at hdr
                replace hdr := hide hdr
                go_upto_region 25 with fail
                go_cut [14] (fun s14 wz => s14 = .slice A7 (m + 1) c7 ∧ MidR w wz A c H wn cut path (left.dropLast ++ [r]) (path ++ [x]) m w3.heap.size W5.heap.size p Ao co (some ⟨g, 0, none⟩) cx A7 c7)
                case first =>
                  by_cases hc1 : c' = 1
                  · subst hc1
                    obtain rfl : r = [] := List.eq_nil_of_length_eq_zero (by omega)
                    have hI := hmk.out (some ⟨bx, ox, none⟩) 0 (IntS.nil _ _ _ _)
                    replace hI := hide hI
                    clear hmk hdr
                    go_region
                    go_wp2_with fail
                    go_meet
                    first
                      | exact ⟨rfl, hI.out.1⟩
                      | exact ⟨rfl, hI.out.2⟩
                  · obtain ⟨d, rfl⟩ : ∃ d, c' = d + 2 := ⟨c' - 2, by omega⟩
                    have hI := hmk.out (some ⟨bx, ox + 1, none⟩) (d + 1) (by have := hdr.out; rw [if_neg (by omega)] at this; exact this)
                    replace hI := hide hI
                    clear hmk hdr
                    go_region
                    go_wp2_with fail
                    go_meet
                    first
                      | exact ⟨rfl, hI.out.1⟩
                      | exact ⟨rfl, hI.out.2⟩
                case rest =>
                  clear hmk hdr hcell7 f7 hbw7 hgp hg2 hg3 hg0 hlg7 kL7 e37 m47 hb7 hstore hIrow hOP hLO hb m4 m0 m1 m2 m3 hat hT5 kL hbx hcell5'
                  obtain ⟨rfl, hM⟩ := hcut
                  obtain ⟨X8, hX8⟩ : ∃ X8, X8 = wc := ⟨_, rfl⟩
                  subst hX8
                  have hl2' := hl2
                  have hl2 : Hid ((left.dropLast ++ [r]).length = m + 1) := hide (by simp [hm.out])
                  have hplp := hide (perm_lng (s := ⟨(wn : Int), cut, path, left⟩) hr.out hm.out hpm.out (x := x) (r := r) (by have := hrow.out; exact this))
                  dsimp only at hplp
                  have hresN : Hid (orderT H.length (fullE H level (decW H (path ++ [x]))) = none → stepW H level ⟨(wn : Int), cut, path, left⟩ = (⟨(wn : Int), cut, path, left.dropLast ++ [r]⟩, 0, [])) := hide (fun e => by rw [hres0.out]; unfold stepM; rw [hgl.out]; dsimp only; rw [e])
                  have hresY : Hid (∀ o, orderT H.length (fullE H level (decW H (path ++ [x]))) = some o → m + 1 = H.length → stepW H level ⟨(wn : Int), cut, path, left⟩ = (⟨(wn : Int), cut, path, left.dropLast ++ [r]⟩, 1, intsN o)) := hide (fun o e e2 => by rw [hres0.out]; unfold stepM; rw [hgl.out]; dsimp only; rw [e]; dsimp only; rw [if_pos (by rw [List.length_append, hpm.out]; exact e2)]; rfl)
                  have hresC : Hid (∀ o, orderT H.length (fullE H level (decW H (path ++ [x]))) = some o → m + 1 ≠ H.length → stepW H level ⟨(wn : Int), cut, path, left⟩ = (⟨(wn : Int), cut || decide (wn < (comeW H (path ++ [x])).length), path ++ [x], left.dropLast ++ [r] ++ [(comeW H (path ++ [x])).take wn]⟩, 0, [])) := hide (fun o e e2 => by rw [hres0.out]; unfold stepM; rw [hgl.out]; dsimp only; rw [e]; dsimp only; rw [if_neg (by rw [List.length_append, hpm.out]; exact e2)]; simp [putW])
                  have hlng : Hid ((path ++ [x]).length = m + 1) := hide (by rw [List.length_append, hpm.out]; rfl)
                  generalize path ++ [x] = lng at *
                  generalize left.dropLast ++ [r] = left2 at *
                  clear hres0 hgl hset hdl hdp hrow hml
                  have hTz := hide (h.out.below hM.below)
                  have hlz := hide (hM.lng.sl (K := Old X8) (fun g _ h => h))
                  have hdc := hide (rdec30_any A c H A7 c7 lng X8 hTz.out hrH.out hn.out (by rw [hlng.out]; exact hlz.out) (by rw [hlng.out]; omega))
                  rw [hlng.out] at hdc
                  have b0 := hM.b0
                  have c0 := b0.cell 0
                  simp only [List.getElem?_toArray, List.getElem?_cons_zero, List.getElem?_cons_succ] at c0
                  replace hM := hide hM
                  go_wp2_with fail
                  refine hdc.out.mono ?_
                  rintro e w9 ⟨vd, rfl, hD, hb9⟩
                  obtain ⟨Ad, cd, rfl⟩ := hD.form
                  have hM9 := hM.out.step hb9
                  have hC9 := hD.sl (K := Old w9) (fun g _ h => h)
                  clear hM hdc hTz hlz b0 c0 hb9 hD
                  have hdl9 := rightC_len (rightC_dec hrH.out lng)
                  by_cases hmn : m + 1 = H.length
                  · have hq1 : (((m + 1 : Nat) : Int) == (H.length : Int)) = true := by rw [beq_iff_eq]; omega
                    have hq2 : ((m : Int) + 1 == (H.length : Int)) = true := by rw [beq_iff_eq]; omega
                    have hpb := hide (hplp.out hmn)
                    have hTz := h.out.below hM9.below
                    have hlz := hM9.lng.sl (K := Old w9) (fun g _ h => h)
                    have hof := hide (rof18_any A c H A7 c7 lng w9 hTz hrH.out hn.out (by rw [hlng.out]; exact hlz) hpb.out)
                    rw [hlng.out, ofL_dec hpb.out] at hof
                    have b0 := hM9.b0
                    have c0 := b0.cell 0
                    simp only [List.getElem?_toArray, List.getElem?_cons_zero, List.getElem?_cons_succ] at c0
                    replace hM9 := hide hM9
                    replace hmn := hide hmn
                    clear hTz hlz hC9
                    go_wp2_with fail
                    refine hof.out.mono ?_
                    rintro e w10 ⟨vd, rfl, hD, hb10⟩
                    obtain ⟨Ad2, cd2, rfl⟩ := hD.form
                    have hMa := hM9.out.step hb10
                    have hCa := hD.sl (K := Old w10) (fun g _ h => h)
                    clear hM9 hof b0 c0 hb10 hD hpb
                    have hFu := hide (rfull18_any A c H level Ad2 cd2 (decW H lng) w10 (h.out.below hMa.below) hCa (rightC_dec hrH.out lng) hn.out)
                    have b0 := hMa.b0
                    have c0 := b0.cell 0
                    simp only [List.getElem?_toArray, List.getElem?_cons_zero, List.getElem?_cons_succ] at c0
                    replace hMa := hide hMa
                    replace hCa := hide hCa
                    go_wp2_with fail
                    refine hFu.out.mono ?_
                    rintro e wf ⟨uf, rfl, hRG, hbf⟩
                    obtain ⟨Af, cf, rfl, hG⟩ := hRG.gr h64 (K := Old wf) (fun g _ h => h)
                    have hMf := hMa.out.step hbf
                    have hOr := hide (rorder16_any H.length Af cf (fullE H level (decW H lng)) (Old wf) wf hG (fun b h => h))
                    generalize orderT H.length (fullE H level (decW H lng)) = oo at *
                    replace hMf := hide hMf
                    clear hFu hMa hCa b0 c0 hbf hRG hG
                    go_wp2_with fail
                    refine hOr.out.mono ?_
                    intro e wo hO
                    replace hMf := hMf.out
                    clear hOr
                    cases oo with
                    | none =>
                      obtain ⟨rfl, hbo⟩ := hO
                      have hMo := hMf.step hbo
                      have hres := hide (hresN.out rfl)
                      clear hresN hresY hresC hMf hbo hplp
                      have b4 := hMo.b4
                      have m2 := hMo.b2
                      have m3 := hMo.b3
                      have hb := hMo.below
                      have hrw9 := hide hMo.rows.rowsB
                      have hpw9 := hide hMo.pat.slB
                      have hz1 := hMo.l1
                      have hz2 := hMo.l2
                      have hz3 := hMo.l3
                      have hz4 := hMo.l4
                      clear hMo
                      have e01a := (b4).cell 0
                      have e11a := (b4).cell 1
                      have e21a := (b4).cell 2
                      have e31a := (b4).cell 3
                      have f01a := (b4).frozen 0
                      have f11a := (b4).frozen 1
                      have f21a := (b4).frozen 2
                      have f31a := (b4).frozen 3
                      simp only [List.getElem?_toArray, List.getElem?_cons_zero, List.getElem?_cons_succ] at e01a e11a e21a e31a
                      have e02a := (m2).cell 0
                      have e12a := (m2).cell 1
                      have e22a := (m2).cell 2
                      have e32a := (m2).cell 3
                      have f02a := (m2).frozen 0
                      have f12a := (m2).frozen 1
                      have f22a := (m2).frozen 2
                      have f32a := (m2).frozen 3
                      simp only [List.getElem?_toArray, List.getElem?_cons_zero, List.getElem?_cons_succ] at e02a e12a e22a e32a
                      have e03a := (m3).cell 0
                      have e13a := (m3).cell 1
                      have e23a := (m3).cell 2
                      have e33a := (m3).cell 3
                      have f03a := (m3).frozen 0
                      have f13a := (m3).frozen 1
                      have f23a := (m3).frozen 2
                      have f33a := (m3).frozen 3
                      simp only [List.getElem?_toArray, List.getElem?_cons_zero, List.getElem?_cons_succ] at e03a e13a e23a e33a
                      go_upto_region 37 with fail
                      clear b4
                      have hz2 := set4_blk (a := (.int .i64 (wn : Int))) (b := (.bool cut)) (c := (.slice Ao m co)) (d := (.slice (some ⟨g, 0, none⟩) (m + 1) cx)) m2
                      have hne23 : w.heap.size + 1 + 1 ≠ w.heap.size + 1 + 1 + 1 := by omega
                      have m3z := set4_far (a := (.int .i64 (wn : Int))) (b := (.bool cut)) (c := (.slice Ao m co)) (d := (.slice (some ⟨g, 0, none⟩) (m + 1) cx)) m3 (Ne.symm hne23)
                      have hz3 := set4_blk (a := (.int .i64 0)) (b := (.slice none 0 0)) (c := .slice none 0 0) (d := .slice none 0 0) m3z
                      have hz22 := set4_far (a := (.int .i64 0)) (b := (.slice none 0 0)) (c := .slice none 0 0) (d := .slice none 0 0) hz2 hne23
                      have hzb := set4_below (a := (.int .i64 0)) (b := (.slice none 0 0)) (c := .slice none 0 0) (d := .slice none 0 0) (p := w.heap.size + 1 + 1 + 1) (set4_below (a := (.int .i64 (wn : Int))) (b := (.bool cut)) (c := (.slice Ao m co)) (d := (.slice (some ⟨g, 0, none⟩) (m + 1) cx)) (p := w.heap.size + 1 + 1) hb (by omega)) (by omega)
                      have hzs := (set4_size (X := set4 wo (w.heap.size + 1 + 1) (.int .i64 (wn : Int)) (.bool cut) (.slice Ao m co) (.slice (some ⟨g, 0, none⟩) (m + 1) cx)) (p := w.heap.size + 1 + 1 + 1) (a := (.int .i64 0)) (b := (.slice none 0 0)) (c := .slice none 0 0) (d := .slice none 0 0)).trans (set4_size (X := wo) (p := w.heap.size + 1 + 1) (a := (.int .i64 (wn : Int))) (b := (.bool cut)) (c := (.slice Ao m co)) (d := (.slice (some ⟨g, 0, none⟩) (m + 1) cx)))
                      have hzk : ∀ K : Nat → Prop, ¬ K (w.heap.size + 1 + 1) → ¬ K (w.heap.size + 1 + 1 + 1) → Agree K wo (set4 (set4 wo (w.heap.size + 1 + 1) (.int .i64 (wn : Int)) (.bool cut) (.slice Ao m co) (.slice (some ⟨g, 0, none⟩) (m + 1) cx)) (w.heap.size + 1 + 1 + 1) (.int .i64 0) (.slice none 0 0) (.slice none 0 0) (.slice none 0 0)) := fun K h1 h2 => (set4_agree h1).trans (set4_agree h2)
                      have y0 := hz22.cell 0
                      have y1 := hz22.cell 1
                      have y2 := hz22.cell 2
                      have y3 := hz22.cell 3
                      have z0 := hz3.cell 0
                      have z1 := hz3.cell 1
                      have z2 := hz3.cell 2
                      have z3 := hz3.cell 3
                      simp only [List.getElem?_toArray, List.getElem?_cons_zero, List.getElem?_cons_succ] at y0 y1 y2 y3 z0 z1 z2 z3
                      unfold set4 at y0 y1 y2 y3 z0 z1 z2 z3
                      clear hz2 hz3 hz22 m3z hne23
                      replace hzb := hide hzb
                      replace hzs := hide (Nat.le_of_eq hzs.symm)
                      replace hzk := hide hzk
                      repeat' (first | go_values | go_skip | go_guarded | go_step | go_upon)
                      try simp only [Exit.inBlock, Exit.then]
                      refine bodyPost_ret (v := .tuple #[.agg #[(.int .i64 (wn : Int)), (.bool cut), (.slice Ao m co), (.slice (some ⟨g, 0, none⟩) (m + 1) cx)], .agg #[(.int .i64 0), (.slice none 0 0), .slice none 0 0, .slice none 0 0]]) (by simp [results, Tryz.results10, go_sem, y0, y1, y2, y3, z0, z1, z2, z3]) rfl ?_
                      rw [hres.out]
                      exact ⟨_, _, rfl, ⟨_, _, rfl, hpw9.out.keep (hzk.out _ (fun h => by have := h.1; omega) (fun h => by have := h.1; omega)) (fun b h => Nat.lt_of_lt_of_le h.2 hzs.out), hrw9.out.keep (hzk.out _ (fun h => by have := h.1; omega) (fun h => by have := h.1; omega)) (fun b h => Nat.lt_of_lt_of_le h.2 hzs.out)⟩, IntS.nil _ _ _ _, hzb.out⟩
                    | some o =>
                      obtain ⟨⟨vo, rfl, hOo⟩, hbo⟩ := hO
                      obtain ⟨Av, cv, rfl⟩ := hOo.form
                      have hMo := hMf.step hbo
                      have hres := hide (hresY.out o rfl hmn.out)
                      have hord := hide hOo.slB
                      have hzf := hMf.l4
                      clear hresN hresY hresC hMf hbo hOo hplp
                      have b4 := hMo.b4
                      have m2 := hMo.b2
                      have m3 := hMo.b3
                      have hb := hMo.below
                      have hrw9 := hide hMo.rows.rowsB
                      have hpw9 := hide hMo.pat.slB
                      have hz1 := hMo.l1
                      have hz2 := hMo.l2
                      have hz3 := hMo.l3
                      have hz4 := hMo.l4
                      clear hMo
                      replace hmn := hmn.out
                      have hlgb : ((lng.length : Int) == (H.length : Int)) = true := by rw [beq_iff_eq]; have := hlng.out; omega
                      replace hmn := hide hmn
                      have e01a := (b4).cell 0
                      have e11a := (b4).cell 1
                      have e21a := (b4).cell 2
                      have e31a := (b4).cell 3
                      have f01a := (b4).frozen 0
                      have f11a := (b4).frozen 1
                      have f21a := (b4).frozen 2
                      have f31a := (b4).frozen 3
                      simp only [List.getElem?_toArray, List.getElem?_cons_zero, List.getElem?_cons_succ] at e01a e11a e21a e31a
                      have e02a := (m2).cell 0
                      have e12a := (m2).cell 1
                      have e22a := (m2).cell 2
                      have e32a := (m2).cell 3
                      have f02a := (m2).frozen 0
                      have f12a := (m2).frozen 1
                      have f22a := (m2).frozen 2
                      have f32a := (m2).frozen 3
                      simp only [List.getElem?_toArray, List.getElem?_cons_zero, List.getElem?_cons_succ] at e02a e12a e22a e32a
                      have e03a := (m3).cell 0
                      have e13a := (m3).cell 1
                      have e23a := (m3).cell 2
                      have e33a := (m3).cell 3
                      have f03a := (m3).frozen 0
                      have f13a := (m3).frozen 1
                      have f23a := (m3).frozen 2
                      have f33a := (m3).frozen 3
                      simp only [List.getElem?_toArray, List.getElem?_cons_zero, List.getElem?_cons_succ] at e03a e13a e23a e33a
                      go_upto_region 31 with fail
                      clear b4
                      have hz2 := set4_blk (a := (.int .i64 (wn : Int))) (b := (.bool cut)) (c := (.slice Ao m co)) (d := (.slice (some ⟨g, 0, none⟩) (m + 1) cx)) m2
                      have hne23 : w.heap.size + 1 + 1 ≠ w.heap.size + 1 + 1 + 1 := by omega
                      have m3z := set4_far (a := (.int .i64 (wn : Int))) (b := (.bool cut)) (c := (.slice Ao m co)) (d := (.slice (some ⟨g, 0, none⟩) (m + 1) cx)) m3 (Ne.symm hne23)
                      have hz3 := set4_blk (a := (.int .i64 1)) (b := (.slice Av (intsN o).length cv)) (c := .slice none 0 0) (d := .slice none 0 0) m3z
                      have hz22 := set4_far (a := (.int .i64 1)) (b := (.slice Av (intsN o).length cv)) (c := .slice none 0 0) (d := .slice none 0 0) hz2 hne23
                      have hzb := set4_below (a := (.int .i64 1)) (b := (.slice Av (intsN o).length cv)) (c := .slice none 0 0) (d := .slice none 0 0) (p := w.heap.size + 1 + 1 + 1) (set4_below (a := (.int .i64 (wn : Int))) (b := (.bool cut)) (c := (.slice Ao m co)) (d := (.slice (some ⟨g, 0, none⟩) (m + 1) cx)) (p := w.heap.size + 1 + 1) hb (by omega)) (by omega)
                      have hzs := (set4_size (X := set4 wo (w.heap.size + 1 + 1) (.int .i64 (wn : Int)) (.bool cut) (.slice Ao m co) (.slice (some ⟨g, 0, none⟩) (m + 1) cx)) (p := w.heap.size + 1 + 1 + 1) (a := (.int .i64 1)) (b := (.slice Av (intsN o).length cv)) (c := .slice none 0 0) (d := .slice none 0 0)).trans (set4_size (X := wo) (p := w.heap.size + 1 + 1) (a := (.int .i64 (wn : Int))) (b := (.bool cut)) (c := (.slice Ao m co)) (d := (.slice (some ⟨g, 0, none⟩) (m + 1) cx)))
                      have hzk : ∀ K : Nat → Prop, ¬ K (w.heap.size + 1 + 1) → ¬ K (w.heap.size + 1 + 1 + 1) → Agree K wo (set4 (set4 wo (w.heap.size + 1 + 1) (.int .i64 (wn : Int)) (.bool cut) (.slice Ao m co) (.slice (some ⟨g, 0, none⟩) (m + 1) cx)) (w.heap.size + 1 + 1 + 1) (.int .i64 1) (.slice Av (intsN o).length cv) (.slice none 0 0) (.slice none 0 0)) := fun K h1 h2 => (set4_agree h1).trans (set4_agree h2)
                      have y0 := hz22.cell 0
                      have y1 := hz22.cell 1
                      have y2 := hz22.cell 2
                      have y3 := hz22.cell 3
                      have z0 := hz3.cell 0
                      have z1 := hz3.cell 1
                      have z2 := hz3.cell 2
                      have z3 := hz3.cell 3
                      simp only [List.getElem?_toArray, List.getElem?_cons_zero, List.getElem?_cons_succ] at y0 y1 y2 y3 z0 z1 z2 z3
                      unfold set4 at y0 y1 y2 y3 z0 z1 z2 z3
                      clear hz2 hz3 hz22 m3z hne23
                      replace hzb := hide hzb
                      replace hzs := hide (Nat.le_of_eq hzs.symm)
                      replace hzk := hide hzk
                      repeat' (first | go_values | go_skip | go_guarded | go_step | go_upon)
                      try simp only [Exit.inBlock, Exit.then]
                      refine bodyPost_ret (v := .tuple #[.agg #[(.int .i64 (wn : Int)), (.bool cut), (.slice Ao m co), (.slice (some ⟨g, 0, none⟩) (m + 1) cx)], .agg #[(.int .i64 1), (.slice Av (intsN o).length cv), .slice none 0 0, .slice none 0 0]]) (by simp [results, Tryz.results10, go_sem, y0, y1, y2, y3, z0, z1, z2, z3]) rfl ?_
                      rw [hres.out]
                      exact ⟨_, _, rfl, ⟨_, _, rfl, hpw9.out.keep (hzk.out _ (fun h => by have := h.1; omega) (fun h => by have := h.1; omega)) (fun b h => Nat.lt_of_lt_of_le h.2 hzs.out), hrw9.out.keep (hzk.out _ (fun h => by have := h.1; omega) (fun h => by have := h.1; omega)) (fun b h => Nat.lt_of_lt_of_le h.2 hzs.out)⟩, hord.out.keep (hzk.out _ (fun h => by have := h.1; omega) (fun h => by have := h.1; omega)) (fun b h => Nat.lt_of_lt_of_le h.2 hzs.out), hzb.out⟩
                  · have hq1 : (((m + 1 : Nat) : Int) == (H.length : Int)) = false := by rw [beq_eq_false_iff_ne]; omega
                    have hq2 : ((m : Int) + 1 == (H.length : Int)) = false := by rw [beq_eq_false_iff_ne]; omega
                    have hMa := hM9
                    have hCa := hC9
                    replace hmn := hide hmn
                    clear hM9 hC9
                    have hFu := hide (rfull18_any A c H level Ad cd (decW H lng) w9 (h.out.below hMa.below) hCa (rightC_dec hrH.out lng) hn.out)
                    have b0 := hMa.b0
                    have c0 := b0.cell 0
                    simp only [List.getElem?_toArray, List.getElem?_cons_zero, List.getElem?_cons_succ] at c0
                    replace hMa := hide hMa
                    replace hCa := hide hCa
                    go_wp2_with fail
                    refine hFu.out.mono ?_
                    rintro e wf ⟨uf, rfl, hRG, hbf⟩
                    obtain ⟨Af, cf, rfl, hG⟩ := hRG.gr h64 (K := Old wf) (fun g _ h => h)
                    have hMf := hMa.out.step hbf
                    have hOr := hide (rorder16_any H.length Af cf (fullE H level (decW H lng)) (Old wf) wf hG (fun b h => h))
                    generalize orderT H.length (fullE H level (decW H lng)) = oo at *
                    replace hMf := hide hMf
                    clear hFu hMa hCa b0 c0 hbf hRG hG
                    go_wp2_with fail
                    refine hOr.out.mono ?_
                    intro e wo hO
                    replace hMf := hMf.out
                    clear hOr
                    cases oo with
                    | none =>
                      obtain ⟨rfl, hbo⟩ := hO
                      have hMo := hMf.step hbo
                      have hres := hide (hresN.out rfl)
                      clear hresN hresY hresC hMf hbo hplp
                      have b4 := hMo.b4
                      have m2 := hMo.b2
                      have m3 := hMo.b3
                      have hb := hMo.below
                      have hrw9 := hide hMo.rows.rowsB
                      have hpw9 := hide hMo.pat.slB
                      have hz1 := hMo.l1
                      have hz2 := hMo.l2
                      have hz3 := hMo.l3
                      have hz4 := hMo.l4
                      clear hMo
                      have e01a := (b4).cell 0
                      have e11a := (b4).cell 1
                      have e21a := (b4).cell 2
                      have e31a := (b4).cell 3
                      have f01a := (b4).frozen 0
                      have f11a := (b4).frozen 1
                      have f21a := (b4).frozen 2
                      have f31a := (b4).frozen 3
                      simp only [List.getElem?_toArray, List.getElem?_cons_zero, List.getElem?_cons_succ] at e01a e11a e21a e31a
                      have e02a := (m2).cell 0
                      have e12a := (m2).cell 1
                      have e22a := (m2).cell 2
                      have e32a := (m2).cell 3
                      have f02a := (m2).frozen 0
                      have f12a := (m2).frozen 1
                      have f22a := (m2).frozen 2
                      have f32a := (m2).frozen 3
                      simp only [List.getElem?_toArray, List.getElem?_cons_zero, List.getElem?_cons_succ] at e02a e12a e22a e32a
                      have e03a := (m3).cell 0
                      have e13a := (m3).cell 1
                      have e23a := (m3).cell 2
                      have e33a := (m3).cell 3
                      have f03a := (m3).frozen 0
                      have f13a := (m3).frozen 1
                      have f23a := (m3).frozen 2
                      have f33a := (m3).frozen 3
                      simp only [List.getElem?_toArray, List.getElem?_cons_zero, List.getElem?_cons_succ] at e03a e13a e23a e33a
                      go_upto_region 37 with fail
                      clear b4
                      have hz2 := set4_blk (a := (.int .i64 (wn : Int))) (b := (.bool cut)) (c := (.slice Ao m co)) (d := (.slice (some ⟨g, 0, none⟩) (m + 1) cx)) m2
                      have hne23 : w.heap.size + 1 + 1 ≠ w.heap.size + 1 + 1 + 1 := by omega
                      have m3z := set4_far (a := (.int .i64 (wn : Int))) (b := (.bool cut)) (c := (.slice Ao m co)) (d := (.slice (some ⟨g, 0, none⟩) (m + 1) cx)) m3 (Ne.symm hne23)
                      have hz3 := set4_blk (a := (.int .i64 0)) (b := (.slice none 0 0)) (c := .slice none 0 0) (d := .slice none 0 0) m3z
                      have hz22 := set4_far (a := (.int .i64 0)) (b := (.slice none 0 0)) (c := .slice none 0 0) (d := .slice none 0 0) hz2 hne23
                      have hzb := set4_below (a := (.int .i64 0)) (b := (.slice none 0 0)) (c := .slice none 0 0) (d := .slice none 0 0) (p := w.heap.size + 1 + 1 + 1) (set4_below (a := (.int .i64 (wn : Int))) (b := (.bool cut)) (c := (.slice Ao m co)) (d := (.slice (some ⟨g, 0, none⟩) (m + 1) cx)) (p := w.heap.size + 1 + 1) hb (by omega)) (by omega)
                      have hzs := (set4_size (X := set4 wo (w.heap.size + 1 + 1) (.int .i64 (wn : Int)) (.bool cut) (.slice Ao m co) (.slice (some ⟨g, 0, none⟩) (m + 1) cx)) (p := w.heap.size + 1 + 1 + 1) (a := (.int .i64 0)) (b := (.slice none 0 0)) (c := .slice none 0 0) (d := .slice none 0 0)).trans (set4_size (X := wo) (p := w.heap.size + 1 + 1) (a := (.int .i64 (wn : Int))) (b := (.bool cut)) (c := (.slice Ao m co)) (d := (.slice (some ⟨g, 0, none⟩) (m + 1) cx)))
                      have hzk : ∀ K : Nat → Prop, ¬ K (w.heap.size + 1 + 1) → ¬ K (w.heap.size + 1 + 1 + 1) → Agree K wo (set4 (set4 wo (w.heap.size + 1 + 1) (.int .i64 (wn : Int)) (.bool cut) (.slice Ao m co) (.slice (some ⟨g, 0, none⟩) (m + 1) cx)) (w.heap.size + 1 + 1 + 1) (.int .i64 0) (.slice none 0 0) (.slice none 0 0) (.slice none 0 0)) := fun K h1 h2 => (set4_agree h1).trans (set4_agree h2)
                      have y0 := hz22.cell 0
                      have y1 := hz22.cell 1
                      have y2 := hz22.cell 2
                      have y3 := hz22.cell 3
                      have z0 := hz3.cell 0
                      have z1 := hz3.cell 1
                      have z2 := hz3.cell 2
                      have z3 := hz3.cell 3
                      simp only [List.getElem?_toArray, List.getElem?_cons_zero, List.getElem?_cons_succ] at y0 y1 y2 y3 z0 z1 z2 z3
                      unfold set4 at y0 y1 y2 y3 z0 z1 z2 z3
                      clear hz2 hz3 hz22 m3z hne23
                      replace hzb := hide hzb
                      replace hzs := hide (Nat.le_of_eq hzs.symm)
                      replace hzk := hide hzk
                      repeat' (first | go_values | go_skip | go_guarded | go_step | go_upon)
                      try simp only [Exit.inBlock, Exit.then]
                      refine bodyPost_ret (v := .tuple #[.agg #[(.int .i64 (wn : Int)), (.bool cut), (.slice Ao m co), (.slice (some ⟨g, 0, none⟩) (m + 1) cx)], .agg #[(.int .i64 0), (.slice none 0 0), .slice none 0 0, .slice none 0 0]]) (by simp [results, Tryz.results10, go_sem, y0, y1, y2, y3, z0, z1, z2, z3]) rfl ?_
                      rw [hres.out]
                      exact ⟨_, _, rfl, ⟨_, _, rfl, hpw9.out.keep (hzk.out _ (fun h => by have := h.1; omega) (fun h => by have := h.1; omega)) (fun b h => Nat.lt_of_lt_of_le h.2 hzs.out), hrw9.out.keep (hzk.out _ (fun h => by have := h.1; omega) (fun h => by have := h.1; omega)) (fun b h => Nat.lt_of_lt_of_le h.2 hzs.out)⟩, IntS.nil _ _ _ _, hzb.out⟩
                    | some o =>
                      obtain ⟨⟨vo, rfl, hOo⟩, hbo⟩ := hO
                      obtain ⟨Av, cv, rfl⟩ := hOo.form
                      have hMo := hMf.step hbo
                      have hres := hide (hresC.out o rfl hmn.out)
                      clear hresN hresY hresC hMf hbo hOo hplp
                      have hTz := h.out.below hMo.below
                      have hlz := hMo.lng.sl (K := Old wo) (fun g _ h => h)
                      have hcm := hide (rcome30_any A c H A7 c7 lng wn wo hTz hrH.out hn.out (by rw [hlng.out]; exact hlz) (by rw [hlng.out]; omega) (by omega))
                      rw [hlng.out] at hcm
                      have hcl : ((comeW H lng).take wn).length ≤ 1000 := by rw [List.length_take]; omega
                      generalize (comeW H lng).take wn = L at *
                      generalize decide (wn < (comeW H lng).length) = cb at *
                      have b0 := hMo.b0
                      have b4 := hMo.b4
                      have c0 := b0.cell 0
                      have e0 := b4.cell 0
                      simp only [List.getElem?_toArray, List.getElem?_cons_zero, List.getElem?_cons_succ] at c0 e0
                      replace hMo := hide hMo
                      clear hTz hlz
                      go_wp2_with fail
                      refine hcm.out.mono ?_
                      rintro e wc ⟨v6, rfl, hO6, hbc⟩
                      obtain ⟨Aw, cw, rfl⟩ := hO6.form
                      have hMc := hMo.out.step hbc
                      have hrow6 := (hO6.base (base' := w3.heap.size) (by have := hMo.out.l2; have := hMo.out.l3; have := hMo.out.l4; omega))
                      clear hMo hcm hO6 hbc b0 b4 c0 e0
                      have hz1 := hMc.l1
                      have hz2 := hMc.l2
                      have hz3 := hMc.l3
                      have hz4 := hMc.l4
                      have m4 := hMc.b4
                      have hlg := hMc.lng.base (base' := w3.heap.size) (by omega)
                      have n4 := m4.set_ 2 (.slice A7 (m + 1) c7)
                      simp only [List.setIfInBounds_toArray, List.set_cons_zero, List.set_cons_succ] at n4
                      have hp2 : w.heap.size + 1 + 1 ≠ p := by omega
                      have hp3 : w.heap.size + 1 + 1 + 1 ≠ p := by omega
                      have m2x := hMc.b2.far (p := ⟨p, 2, none⟩) hp2 (.slice A7 (m + 1) c7)
                      have m3x := hMc.b3.far (p := ⟨p, 2, none⟩) hp3 (.slice A7 (m + 1) c7)
                      have hLx := hMc.rows.set_ (i := 2) m4 (by decide) (hMc.rows.ne m4 (by decide)) (.slice A7 (m + 1) c7)
                      have hlgx := hlg.keepK (IntK.set_ (i := 2) m4 (by decide) (.slice A7 (m + 1) c7))
                      have hrwx := hide ((hrow6.keepK (IntK.set_ (i := 2) m4 (by decide) (.slice A7 (m + 1) c7))).slK)
                      have hbx' := hMc.below.setCell (p := ⟨p, 2, none⟩) (show w.heap.size ≤ p by omega) (.slice A7 (m + 1) c7)
                      have hszx : w3.heap.size ≤ (wc.setCell ⟨p, 2, none⟩ (.slice A7 (m + 1) c7)).heap.size := by simp; omega
                      have e2 := m4.cell 2
                      have g2 := m4.frozen 2
                      simp only [List.getElem?_toArray, List.getElem?_cons_zero, List.getElem?_cons_succ] at e2
                      clear hMc hlg hrow6
                      go_upto_region 35 with fail
                      clear e2 g2 m4
                      generalize wc.setCell ⟨p, 2, none⟩ (.slice A7 (m + 1) c7) = wx at *
                      have hh1 : left2.length + 1 ≤ 1000000 := by rw [hl2.out]; omega
                      have e3 := n4.cell 3
                      simp only [List.getElem?_toArray, List.getElem?_cons_zero, List.getElem?_cons_succ] at e3
                      replace hLx := hide hLx
                      replace hlgx := hide hlgx
                      go_upto_region 36 with (at_builtin; go_loud (refine wpList_pushL rfl (.tmp 175) (.tmp 177) 26 rfl w3.heap.size il _ Tryz.underlying26 hil hl1 hl2' hl3 rfl (.slice (some ⟨g, 0, none⟩) (m + 1) cx) left2 rfl hLx.out (.slice Aw L.length cw) L hrwx.out rfl hh1 hszx wx (Below.refl _ _) ?_); intro v7 w7 hLO7 hA7 hb7 hat7 hE7; have m47 := hE7 p _ _ n4 (by decide); have e47 := m47.cell 3; have f47 := m47.frozen 3; simp only [List.getElem?_toArray, List.getElem?_cons_zero, List.getElem?_cons_succ] at e47; obtain ⟨A8, c8, hv8⟩ := hLO7.form; rw [List.length_append, hl2.out, List.length_singleton] at hv8; subst hv8)
                      have m48 := m47.set_ 3 (.slice A8 (m + 1 + 1) c8)
                      simp only [List.setIfInBounds_toArray, List.set_cons_zero, List.set_cons_succ] at m48
                      have m28 := (hE7 (w.heap.size + 1 + 1) _ _ m2x (by decide)).far (p := ⟨p, 3, none⟩) hp2 (.slice A8 (m + 1 + 1) c8)
                      have m38 := (hE7 (w.heap.size + 1 + 1 + 1) _ _ m3x (by decide)).far (p := ⟨p, 3, none⟩) hp3 (.slice A8 (m + 1 + 1) c8)
                      have hLO8 := hLO7.set_ (i := 3) m47 (by decide) (hLO7.ne m47 (by decide)) (.slice A8 (m + 1 + 1) c8)
                      have hlg8 := (OwnI.keepK hlgx.out hA7).keepK (IntK.set_ (i := 3) m47 (by decide) (.slice A8 (m + 1 + 1) c8))
                      have hb8 := (hbx'.trans (hb7.mono (by omega))).setCell (p := ⟨p, 3, none⟩) (show w.heap.size ≤ p by omega) (.slice A8 (m + 1 + 1) c8)
                      clear hLO7 hA7 hb7 hat7 hE7 m47 e47 f47 hLx hlgx hrwx m2x m3x n4 e3 hbx'
                      generalize w7.setCell ⟨p, 3, none⟩ (.slice A8 (m + 1 + 1) c8) = w8 at *
                      have e1 := m48.cell 1
                      have g1 := m48.frozen 1
                      simp only [List.getElem?_toArray, List.getElem?_cons_zero, List.getElem?_cons_succ] at e1
                      have hcu : Hid (∀ b, Blk (w8.setCell ⟨p, 1, none⟩ (.bool b)) p 32 #[.int .i64 (wn : Int), .bool b, .slice A7 (m + 1) c7, .slice A8 (m + 1 + 1) c8]) := hide (fun b => by
                        have := m48.set_ 1 (.bool b)
                        simpa using this)
                      have hwsz : w3.heap.size ≤ w8.heap.size := by have := m48.lt; omega
                      cases cut
                      · go_upto_region 37 with fail
                        clear e1 g1
                        have m49 := hcu.out cb
                        have m2 := m28.far (p := ⟨p, 1, none⟩) hp2 (.bool cb)
                        have m3 := m38.far (p := ⟨p, 1, none⟩) hp3 (.bool cb)
                        have hLO9 := hLO8.set_ (i := 1) m48 (by decide) (hLO8.ne m48 (by decide)) (.bool cb)
                        have hlg9 := hlg8.keepK (IntK.set_ (i := 1) m48 (by decide) (.bool cb))
                        have hb := hb8.setCell (p := ⟨p, 1, none⟩) (show w.heap.size ≤ p by omega) (.bool cb)
                        have hsz9 : w3.heap.size ≤ (w8.setCell ⟨p, 1, none⟩ (.bool cb)).heap.size := by simpa using hwsz
                        clear hcu hLO8 hlg8 m48 m28 m38 hb8
                        generalize w8.setCell ⟨p, 1, none⟩ (.bool cb) = w9 at *
                        have hrow9 := hide (hLO9.rowsB)
                        have hpat9 := hide (hlg9.slB)
                        have e01a := (m49).cell 0
                        have e11a := (m49).cell 1
                        have e21a := (m49).cell 2
                        have e31a := (m49).cell 3
                        have f01a := (m49).frozen 0
                        have f11a := (m49).frozen 1
                        have f21a := (m49).frozen 2
                        have f31a := (m49).frozen 3
                        simp only [List.getElem?_toArray, List.getElem?_cons_zero, List.getElem?_cons_succ] at e01a e11a e21a e31a
                        have e02a := (m2).cell 0
                        have e12a := (m2).cell 1
                        have e22a := (m2).cell 2
                        have e32a := (m2).cell 3
                        have f02a := (m2).frozen 0
                        have f12a := (m2).frozen 1
                        have f22a := (m2).frozen 2
                        have f32a := (m2).frozen 3
                        simp only [List.getElem?_toArray, List.getElem?_cons_zero, List.getElem?_cons_succ] at e02a e12a e22a e32a
                        have e03a := (m3).cell 0
                        have e13a := (m3).cell 1
                        have e23a := (m3).cell 2
                        have e33a := (m3).cell 3
                        have f03a := (m3).frozen 0
                        have f13a := (m3).frozen 1
                        have f23a := (m3).frozen 2
                        have f33a := (m3).frozen 3
                        simp only [List.getElem?_toArray, List.getElem?_cons_zero, List.getElem?_cons_succ] at e03a e13a e23a e33a
                        clear hLO9 hlg9 m49
                        have hz2 := set4_blk (a := (.int .i64 (wn : Int))) (b := (.bool cb)) (c := (.slice A7 (m + 1) c7)) (d := (.slice A8 (m + 1 + 1) c8)) m2
                        have hne23 : w.heap.size + 1 + 1 ≠ w.heap.size + 1 + 1 + 1 := by omega
                        have m3z := set4_far (a := (.int .i64 (wn : Int))) (b := (.bool cb)) (c := (.slice A7 (m + 1) c7)) (d := (.slice A8 (m + 1 + 1) c8)) m3 (Ne.symm hne23)
                        have hz3 := set4_blk (a := (.int .i64 0)) (b := (.slice none 0 0)) (c := .slice none 0 0) (d := .slice none 0 0) m3z
                        have hz22 := set4_far (a := (.int .i64 0)) (b := (.slice none 0 0)) (c := .slice none 0 0) (d := .slice none 0 0) hz2 hne23
                        have hzb := set4_below (a := (.int .i64 0)) (b := (.slice none 0 0)) (c := .slice none 0 0) (d := .slice none 0 0) (p := w.heap.size + 1 + 1 + 1) (set4_below (a := (.int .i64 (wn : Int))) (b := (.bool cb)) (c := (.slice A7 (m + 1) c7)) (d := (.slice A8 (m + 1 + 1) c8)) (p := w.heap.size + 1 + 1) hb (by omega)) (by omega)
                        have hzs := (set4_size (X := set4 w9 (w.heap.size + 1 + 1) (.int .i64 (wn : Int)) (.bool cb) (.slice A7 (m + 1) c7) (.slice A8 (m + 1 + 1) c8)) (p := w.heap.size + 1 + 1 + 1) (a := (.int .i64 0)) (b := (.slice none 0 0)) (c := .slice none 0 0) (d := .slice none 0 0)).trans (set4_size (X := w9) (p := w.heap.size + 1 + 1) (a := (.int .i64 (wn : Int))) (b := (.bool cb)) (c := (.slice A7 (m + 1) c7)) (d := (.slice A8 (m + 1 + 1) c8)))
                        have hzk : ∀ K : Nat → Prop, ¬ K (w.heap.size + 1 + 1) → ¬ K (w.heap.size + 1 + 1 + 1) → Agree K w9 (set4 (set4 w9 (w.heap.size + 1 + 1) (.int .i64 (wn : Int)) (.bool cb) (.slice A7 (m + 1) c7) (.slice A8 (m + 1 + 1) c8)) (w.heap.size + 1 + 1 + 1) (.int .i64 0) (.slice none 0 0) (.slice none 0 0) (.slice none 0 0)) := fun K h1 h2 => (set4_agree h1).trans (set4_agree h2)
                        have y0 := hz22.cell 0
                        have y1 := hz22.cell 1
                        have y2 := hz22.cell 2
                        have y3 := hz22.cell 3
                        have z0 := hz3.cell 0
                        have z1 := hz3.cell 1
                        have z2 := hz3.cell 2
                        have z3 := hz3.cell 3
                        simp only [List.getElem?_toArray, List.getElem?_cons_zero, List.getElem?_cons_succ] at y0 y1 y2 y3 z0 z1 z2 z3
                        unfold set4 at y0 y1 y2 y3 z0 z1 z2 z3
                        clear hz2 hz3 hz22 m3z hne23
                        replace hzb := hide hzb
                        replace hzs := hide (Nat.le_of_eq hzs.symm)
                        replace hzk := hide hzk
                        repeat' (first | go_values | go_skip | go_guarded | go_step | go_upon)
                        try simp only [Exit.inBlock, Exit.then]
                        refine bodyPost_ret (v := .tuple #[.agg #[(.int .i64 (wn : Int)), (.bool cb), (.slice A7 (m + 1) c7), (.slice A8 (m + 1 + 1) c8)], .agg #[(.int .i64 0), (.slice none 0 0), .slice none 0 0, .slice none 0 0]]) (by simp [results, Tryz.results10, go_sem, y0, y1, y2, y3, z0, z1, z2, z3]) rfl ?_
                        rw [hres.out]
                        exact ⟨_, _, rfl, ⟨_, _, rfl, hpat9.out.keep (hzk.out _ (fun h => by have := h.1; omega) (fun h => by have := h.1; omega)) (fun b h => Nat.lt_of_lt_of_le h.2 hzs.out), hrow9.out.keep (hzk.out _ (fun h => by have := h.1; omega) (fun h => by have := h.1; omega)) (fun b h => Nat.lt_of_lt_of_le h.2 hzs.out)⟩, IntS.nil _ _ _ _, hzb.out⟩
                      · go_upto_region 37 with fail
                        clear e1 g1
                        have m49 := hcu.out true
                        have m2 := m28.far (p := ⟨p, 1, none⟩) hp2 (.bool true)
                        have m3 := m38.far (p := ⟨p, 1, none⟩) hp3 (.bool true)
                        have hLO9 := hLO8.set_ (i := 1) m48 (by decide) (hLO8.ne m48 (by decide)) (.bool true)
                        have hlg9 := hlg8.keepK (IntK.set_ (i := 1) m48 (by decide) (.bool true))
                        have hb := hb8.setCell (p := ⟨p, 1, none⟩) (show w.heap.size ≤ p by omega) (.bool true)
                        have hsz9 : w3.heap.size ≤ (w8.setCell ⟨p, 1, none⟩ (.bool true)).heap.size := by simpa using hwsz
                        clear hcu hLO8 hlg8 m48 m28 m38 hb8
                        generalize w8.setCell ⟨p, 1, none⟩ (.bool true) = w9 at *
                        have hrow9 := hide (hLO9.rowsB)
                        have hpat9 := hide (hlg9.slB)
                        have e01a := (m49).cell 0
                        have e11a := (m49).cell 1
                        have e21a := (m49).cell 2
                        have e31a := (m49).cell 3
                        have f01a := (m49).frozen 0
                        have f11a := (m49).frozen 1
                        have f21a := (m49).frozen 2
                        have f31a := (m49).frozen 3
                        simp only [List.getElem?_toArray, List.getElem?_cons_zero, List.getElem?_cons_succ] at e01a e11a e21a e31a
                        have e02a := (m2).cell 0
                        have e12a := (m2).cell 1
                        have e22a := (m2).cell 2
                        have e32a := (m2).cell 3
                        have f02a := (m2).frozen 0
                        have f12a := (m2).frozen 1
                        have f22a := (m2).frozen 2
                        have f32a := (m2).frozen 3
                        simp only [List.getElem?_toArray, List.getElem?_cons_zero, List.getElem?_cons_succ] at e02a e12a e22a e32a
                        have e03a := (m3).cell 0
                        have e13a := (m3).cell 1
                        have e23a := (m3).cell 2
                        have e33a := (m3).cell 3
                        have f03a := (m3).frozen 0
                        have f13a := (m3).frozen 1
                        have f23a := (m3).frozen 2
                        have f33a := (m3).frozen 3
                        simp only [List.getElem?_toArray, List.getElem?_cons_zero, List.getElem?_cons_succ] at e03a e13a e23a e33a
                        clear hLO9 hlg9 m49
                        have hz2 := set4_blk (a := (.int .i64 (wn : Int))) (b := (.bool true)) (c := (.slice A7 (m + 1) c7)) (d := (.slice A8 (m + 1 + 1) c8)) m2
                        have hne23 : w.heap.size + 1 + 1 ≠ w.heap.size + 1 + 1 + 1 := by omega
                        have m3z := set4_far (a := (.int .i64 (wn : Int))) (b := (.bool true)) (c := (.slice A7 (m + 1) c7)) (d := (.slice A8 (m + 1 + 1) c8)) m3 (Ne.symm hne23)
                        have hz3 := set4_blk (a := (.int .i64 0)) (b := (.slice none 0 0)) (c := .slice none 0 0) (d := .slice none 0 0) m3z
                        have hz22 := set4_far (a := (.int .i64 0)) (b := (.slice none 0 0)) (c := .slice none 0 0) (d := .slice none 0 0) hz2 hne23
                        have hzb := set4_below (a := (.int .i64 0)) (b := (.slice none 0 0)) (c := .slice none 0 0) (d := .slice none 0 0) (p := w.heap.size + 1 + 1 + 1) (set4_below (a := (.int .i64 (wn : Int))) (b := (.bool true)) (c := (.slice A7 (m + 1) c7)) (d := (.slice A8 (m + 1 + 1) c8)) (p := w.heap.size + 1 + 1) hb (by omega)) (by omega)
                        have hzs := (set4_size (X := set4 w9 (w.heap.size + 1 + 1) (.int .i64 (wn : Int)) (.bool true) (.slice A7 (m + 1) c7) (.slice A8 (m + 1 + 1) c8)) (p := w.heap.size + 1 + 1 + 1) (a := (.int .i64 0)) (b := (.slice none 0 0)) (c := .slice none 0 0) (d := .slice none 0 0)).trans (set4_size (X := w9) (p := w.heap.size + 1 + 1) (a := (.int .i64 (wn : Int))) (b := (.bool true)) (c := (.slice A7 (m + 1) c7)) (d := (.slice A8 (m + 1 + 1) c8)))
                        have hzk : ∀ K : Nat → Prop, ¬ K (w.heap.size + 1 + 1) → ¬ K (w.heap.size + 1 + 1 + 1) → Agree K w9 (set4 (set4 w9 (w.heap.size + 1 + 1) (.int .i64 (wn : Int)) (.bool true) (.slice A7 (m + 1) c7) (.slice A8 (m + 1 + 1) c8)) (w.heap.size + 1 + 1 + 1) (.int .i64 0) (.slice none 0 0) (.slice none 0 0) (.slice none 0 0)) := fun K h1 h2 => (set4_agree h1).trans (set4_agree h2)
                        have y0 := hz22.cell 0
                        have y1 := hz22.cell 1
                        have y2 := hz22.cell 2
                        have y3 := hz22.cell 3
                        have z0 := hz3.cell 0
                        have z1 := hz3.cell 1
                        have z2 := hz3.cell 2
                        have z3 := hz3.cell 3
                        simp only [List.getElem?_toArray, List.getElem?_cons_zero, List.getElem?_cons_succ] at y0 y1 y2 y3 z0 z1 z2 z3
                        unfold set4 at y0 y1 y2 y3 z0 z1 z2 z3
                        clear hz2 hz3 hz22 m3z hne23
                        replace hzb := hide hzb
                        replace hzs := hide (Nat.le_of_eq hzs.symm)
                        replace hzk := hide hzk
                        repeat' (first | go_values | go_skip | go_guarded | go_step | go_upon)
                        try simp only [Exit.inBlock, Exit.then]
                        refine bodyPost_ret (v := .tuple #[.agg #[(.int .i64 (wn : Int)), (.bool true), (.slice A7 (m + 1) c7), (.slice A8 (m + 1 + 1) c8)], .agg #[(.int .i64 0), (.slice none 0 0), .slice none 0 0, .slice none 0 0]]) (by simp [results, Tryz.results10, go_sem, y0, y1, y2, y3, z0, z1, z2, z3]) rfl ?_
                        rw [hres.out]
                        exact ⟨_, _, rfl, ⟨_, _, rfl, hpat9.out.keep (hzk.out _ (fun h => by have := h.1; omega) (fun h => by have := h.1; omega)) (fun b h => Nat.lt_of_lt_of_le h.2 hzs.out), hrow9.out.keep (hzk.out _ (fun h => by have := h.1; omega) (fun h => by have := h.1; omega)) (fun b h => Nat.lt_of_lt_of_le h.2 hzs.out)⟩, IntS.nil _ _ _ _, hzb.out⟩
end Go.Proofs.YtfodlklpfffaaaaGreatDoor
