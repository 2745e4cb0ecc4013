/-
  Walks: layer 30: a step.
-/
import Derived.Test.YtjomijnbnbideaaGreatDoorC19
set_option linter.unusedVariables false
set_option linter.unusedSimpArgs false
namespace Go.Proofs.YtjomijnbnbideaaGreatDoor
open Go.RowKit Go.Inq
set_option maxHeartbeats 40000000
attribute [local go_sem ↓] Go.wp_at_zero Go.wp_at_succ

theorem intB_sl {w : World} {K : Nat → Prop} {g : Nat} {l : List Int} (h : Blk w g 3 (intB l)) (hK : K g) : IntS w K (.slice (some ⟨g, 0, none⟩) l.length l.length) l := IntS.of_blk h hK
/-- A copy's rows, as a row of the call's own. -/
theorem clone_own {w' : World} {K : Nat → Prop} {B gL : Nat} {left : List (List Int)} {cur : Array Value} (hL : Blk w' gL 27 cur) (hc : cur.size = left.length) (hB : B ≤ gL) (h63 : left.length ≤ maxLen)
    (hrows : ∀ j (hj : j < left.length), ∃ gj, cur[j]? = some (.slice (some ⟨gj, 0, none⟩) left[j].length left[j].length) ∧ Blk w' gj 3 (intB left[j]) ∧ K gj) : OwnR 1 RowR w' K B 27 (.slice (some ⟨gL, 0, none⟩) left.length left.length) left := by
  refine ⟨cur.toList.map fun v => [v], ⟨?_, .inr ⟨gL, left.length, cur, rfl, hB, hL, Nat.le_refl _, h63, by rw [hc, Nat.mul_one], ?_⟩⟩, by simp [hc], fun i cs x h1 h2 => ?_⟩
  · have : (cur.toList.map fun v => [v]).flatten = cur.toList := by
      generalize cur.toList = l
      induction l with
      | nil => rfl
      | cons a l ih => simp [ih]
    rw [this]; simp [hc]
  · have : (cur.toList.map fun v => [v]).flatten = cur.toList := by
      generalize cur.toList = l
      induction l with
      | nil => rfl
      | cons a l ih => simp [ih]
    rw [this, List.take_of_length_le (by simp [hc])]
  · obtain ⟨hi, rfl⟩ := List.getElem?_eq_some_iff.1 h2
    obtain ⟨gj, h3, h4, h5⟩ := hrows i hi
    rw [List.getElem?_map] at h1
    have h3' : cur.toList[i]? = some (.slice (some ⟨gj, 0, none⟩) left[i].length left[i].length) := by rw [← h3]; simp
    rw [h3'] at h1
    injection h1 with h1
    subst h1
    exact ⟨rfl, _, rfl, intB_sl h4 h5⟩
theorem clone_rows {w' : World} {K : Nat → Prop} {gL : Nat} {left : List (List Int)} {cur : Array Value} (hL : Blk w' gL 27 cur) (hc : cur.size = left.length) (h63 : left.length ≤ maxLen) (hK : K gL)
    (hrows : ∀ j (hj : j < left.length), ∃ gj, cur[j]? = some (.slice (some ⟨gj, 0, none⟩) left[j].length left[j].length) ∧ Blk w' gj 3 (intB left[j]) ∧ K gj) : RowsS w' K (.slice (some ⟨gL, 0, none⟩) left.length left.length) left :=
  (clone_own (B := 0) hL hc (Nat.zero_le _) h63 hrows).sl (fun g hg => by simp [Value.ownBlock] at hg; subst hg; exact hK)
theorem rightW_more {H : List Txn} {s : Wd} (h : rightW H s = true) : rightH H = true ∧ 1 ≤ s.width ∧ s.width ≤ 32 ∧ s.path.length ≤ H.length - 1 := by
  rw [rightW_eq] at h
  unfold baseW at h
  simp only [Bool.and_eq_true, decide_eq_true_eq] at h
  exact ⟨h.1.1.1.1.1, h.1.1.1.1.2, h.1.1.1.2, h.1.1.2⟩
theorem RowsS.take {w : World} {K : Nat → Prop} {A : Option Addr} {n c : Nat} {l : List (List Int)} (h : RowsS w K (.slice A n c) l) {k : Nat} (hk : k ≤ l.length) : RowsS w K (.slice A k c) (l.take k) := SlR.take h hk
theorem rightW_len {H : List Txn} {s : Wd} (h : rightW H s = true) (h0 : 0 < s.left.length) : s.left.length = s.path.length + 1 := by
  unfold rightW at h
  simp only [Bool.and_eq_true] at h
  have h2 := h.2
  rw [if_neg (by intro e; rw [e] at h0; exact absurd h0 (by simp))] at h2
  simp only [Bool.and_eq_true, decide_eq_true_eq] at h2
  exact h2.1
/-- A step whose state may be. -/
def stepM (H : List Txn) (level : Int) (s : Wd) : Wd × Int × List Int :=
  match s.left.getLast? with
  | none => (putW H s, 0, [])
  | some [] =>
    if s.left.length > 1 then ({ s with left := s.left.dropLast, path := s.path.dropLast }, 0, [])
    else if s.cut = true ∧ s.width < 32 then (⟨s.width + 1, false, [], []⟩, 0, [])
    else (s, 3, [])
  | some (t :: r) =>
    let longer := s.path ++ [t]
    let s2 : Wd := { s with left := s.left.dropLast ++ [r] }
    match orderT H.length (fullE H level (decW H longer)) with
    | none => (s2, 0, [])
    | some o => if longer.length = H.length then (s2, 1, o.map fun (x : Nat) => (x : Int)) else (putW H { s2 with path := longer }, 0, [])
theorem stepW_main {H : List Txn} {level : Int} {s : Wd} (hr : rightW H s = true) (hl : level = 0 ∨ level = 1) (h0 : ¬ H.length = 0) : stepW H level s = stepM H level s := by
  unfold stepW
  rw [if_neg (by rw [hr]; rintro (h | h); exact absurd h (by simp); omega), if_neg (by intro h; rw [h] at h0; exact h0 rfl)]
  rfl
theorem getLast_at {s : Wd} {m : Nat} (hm : s.left.length = m + 1) : s.left.getLast? = some (s.left[m]'(by omega)) := by
  have : s.left.length - 1 = m := by omega
  rw [List.getLast?_eq_getElem?, this, List.getElem?_eq_getElem]
/-- What a step tells. -/
def StepOut (K0 : Nat → Prop) (w : World) (r : Wd × Int × List Int) (e : Ending) (w' : World) : Prop :=
  ∃ v vo, e = .returned (.tuple #[v, .agg #[.int .i64 r.2.1, vo, .slice none 0 0, .slice none 0 0]]) ∧ WdS w' (fun b => (K0 b ∨ w.heap.size ≤ b) ∧ b < w'.heap.size) v r.1 ∧ IntS w' (fun b => (K0 b ∨ w.heap.size ≤ b) ∧ b < w'.heap.size) vo r.2.2 ∧ Below w.heap.size w w'
/-- Whether a step may not be asked. -/
def badW (H : List Txn) (level : Int) (s : Wd) : Bool := !rightW H s || (level != 0 && level != 1)
theorem badW_yes {H : List Txn} {level : Int} {s : Wd} (h : badW H level s = true) : stepW H level s = (s, 3, []) := by
  unfold badW at h
  unfold stepW
  rw [if_pos]
  simp only [Bool.or_eq_true, Bool.not_eq_true', Bool.and_eq_true, bne_iff_ne] at h
  exact h
theorem badW_no {H : List Txn} {level : Int} {s : Wd} (h : badW H level s = false) : rightW H s = true ∧ (level = 0 ∨ level = 1) := by
  unfold badW at h
  simp only [Bool.or_eq_false_iff, Bool.not_eq_false', Bool.and_eq_false_iff, bne_eq_false_iff_eq] at h
  exact h
/-- The state in memory of the call's own, and what was. -/
structure Mid30 (w wz : World) (A : Option Addr) (c : Nat) (H : List Txn) (s : Wd) (n1 n3 gP gL gP2 gL2 : Nat) (cur2 : Array Value) : Prop where
  below : Below w.heap.size w wz
  b0 : Blk wz w.heap.size 24 #[.slice A H.length c]
  b1 : Blk wz (w.heap.size + 1) 30 #[.int .i64 s.width, .bool s.cut, .slice (some ⟨gP2, 0, none⟩) s.path.length s.path.length, .slice (some ⟨gL2, 0, none⟩) s.left.length s.left.length]
  b2 : Blk wz (w.heap.size + 1 + 1) 30 #[.int .i64 0, .bool false, .slice none 0 0, .slice none 0 0]
  b3 : Blk wz (w.heap.size + 1 + 1 + 1) 35 #[.int .i64 0, .slice none 0 0, .slice none 0 0, .slice none 0 0]
  b4 : Blk wz n1 30 #[.int .i64 s.width, .bool s.cut, .slice (some ⟨gP, 0, none⟩) s.path.length s.path.length, .slice (some ⟨gL, 0, none⟩) s.left.length s.left.length]
  was : WdS wz (fun b => w.heap.size + 4 ≤ b ∧ b < n1) (.agg #[.int .i64 s.width, .bool s.cut, .slice (some ⟨gP, 0, none⟩) s.path.length s.path.length, .slice (some ⟨gL, 0, none⟩) s.left.length s.left.length]) s
  bP : Blk wz gP2 3 (intB s.path)
  bL : Blk wz gL2 27 cur2
  cs : cur2.size = s.left.length
  rows : ∀ j (hj : j < s.left.length), ∃ gj, n3 ≤ gj ∧ cur2[j]? = some (.slice (some ⟨gj, 0, none⟩) s.left[j].length s.left[j].length) ∧ Blk wz gj 3 (intB s.left[j])
  l1 : w.heap.size + 4 ≤ n1
  l3 : n1 < n3
  lP : n3 ≤ gP2
  lL : n3 ≤ gL2
set_option maxRecDepth 100000 in
theorem step30_any (A : Option Addr) (c : Nat) (H : List Txn) (level : Int) (v : Value) (s : Wd) (K0 : Nat → Prop) (w : World) (hK0 : ∀ b, K0 b → b < w.heap.size) (h0 : TxnS w K0 (.slice A H.length c) H) (hn : SmallH H) (hv0 : WdS w K0 v s) (hs : SmallWd s) (hTB : TabB w) :
    Calls Tryz.prog 17 #[.agg #[.slice A H.length c], .int .i64 level, v] w (StepOut K0 w (stepW H level s)) := by
  have h : TxnS w (Old w) (.slice A H.length c) H := TxnS.keep h0 (Agree.refl _ _) hK0
  have hv : WdS w (Old w) v s := hv0.keep (Agree.refl _ _) hK0
  clear hv0
  obtain ⟨Ap, cp, Al, cl, rfl, hP, hL⟩ := hv.form
  replace h0 := hide h0
  replace hK0 := hide hK0
  have hs1 := hs.1
  have hs2 := hs.2.1
  replace hv := hide hv
  replace hs := hide hs
  replace hn := hide hn
  clear hP hL
  obtain ⟨W0, hW0⟩ : ∃ W0, (((w.alloc (.cells #[.slice A H.length c] 24)).alloc (.cells #[.int .i64 s.width, .bool s.cut, .slice Ap s.path.length cp, .slice Al s.left.length cl] 30)).alloc (.cells #[.int .i64 0, .bool false, .slice none 0 0, .slice none 0 0] 30)).alloc (.cells #[.int .i64 0, .slice none 0 0, .slice none 0 0, .slice none 0 0] 35) = W0 := ⟨_, rfl⟩
  have hs0 : W0.heap.size = w.heap.size + 4 := by rw [← hW0]; simp
  have hB : Below w.heap.size w W0 := by rw [← hW0]; exact ((((Below.refl _ w).alloc (Nat.le_refl _) _).alloc (by simp) _).alloc (by simp; omega) _).alloc (by simp; omega) _
  have m0 : Blk W0 w.heap.size 24 #[.slice A H.length c] := by rw [← hW0]; exact (((Blk.new _ _ _).alloc _).alloc _).alloc _
  have m1 : Blk W0 (w.heap.size + 1) 30 #[.int .i64 s.width, .bool s.cut, .slice Ap s.path.length cp, .slice Al s.left.length cl] := by
    rw [← hW0]
    have := Blk.new (w.alloc (.cells #[.slice A H.length c] 24)) 30 #[.int .i64 s.width, .bool s.cut, .slice Ap s.path.length cp, .slice Al s.left.length cl]
    simp only [World.size_alloc] at this
    exact (this.alloc _).alloc _
  have m2 : Blk W0 (w.heap.size + 1 + 1) 30 #[.int .i64 0, .bool false, .slice none 0 0, .slice none 0 0] := by
    rw [← hW0]
    have := Blk.new ((w.alloc (.cells #[.slice A H.length c] 24)).alloc (.cells #[.int .i64 s.width, .bool s.cut, .slice Ap s.path.length cp, .slice Al s.left.length cl] 30)) 30 #[.int .i64 0, .bool false, .slice none 0 0, .slice none 0 0]
    simp only [World.size_alloc] at this
    exact this.alloc _
  have m3 : Blk W0 (w.heap.size + 1 + 1 + 1) 35 #[.int .i64 0, .slice none 0 0, .slice none 0 0, .slice none 0 0] := by
    rw [← hW0]
    have := Blk.new (((w.alloc (.cells #[.slice A H.length c] 24)).alloc (.cells #[.int .i64 s.width, .bool s.cut, .slice Ap s.path.length cp, .slice Al s.left.length cl] 30)).alloc (.cells #[.int .i64 0, .bool false, .slice none 0 0, .slice none 0 0] 30)) 35 #[.int .i64 0, .slice none 0 0, .slice none 0 0, .slice none 0 0]
    simp only [World.size_alloc] at this
    exact this
  have hT0 := hide (h.below hB)
  have hv0 := hide (hv.out.below hB)
  have hTB0 := hTB.below hB
  have q1 := m1.cell 0
  have q2 := m1.cell 1
  have q3 := m1.cell 2
  have q4 := m1.cell 3
  simp only [List.getElem?_toArray, List.getElem?_cons_zero, List.getElem?_cons_succ] at q1 q2 q3 q4
  go_enter Tryz.func17, Tryz.ntmps17
  go_wp2_with fail
  clear hW0 q1 q2 q3 q4
  refine (clone30s_any _ s _ hv0.out hs.out).mono ?_
  rintro e w1 ⟨gP, gL, cur, rfl, hgP, hgL, kP, kL, hcur, hrows, hb1⟩
  have hsz1 := hb1.size
  replace hrows := hide hrows
  obtain ⟨W2, hW2⟩ : ∃ W2, w1.alloc (.cells #[.int .i64 s.width, .bool s.cut, .slice (some ⟨gP, 0, none⟩) s.path.length s.path.length, .slice (some ⟨gL, 0, none⟩) s.left.length s.left.length] 30) = W2 := ⟨_, rfl⟩
  have m4 := Blk.newEq hW2
  have hwas : WdS w1 (fun b => W0.heap.size ≤ b ∧ b < w1.heap.size) (.agg #[.int .i64 s.width, .bool s.cut, .slice (some ⟨gP, 0, none⟩) s.path.length s.path.length, .slice (some ⟨gL, 0, none⟩) s.left.length s.left.length]) s :=
    ⟨_, _, rfl, intB_sl kP ⟨hgP, kP.lt⟩, clone_rows kL hcur (by unfold maxLen; omega) ⟨hgL, kL.lt⟩ fun j hj => by obtain ⟨gj, h1, h2, h3⟩ := hrows.out j hj; exact ⟨gj, h2, h3, h1, h3.lt⟩⟩
  have hb2 := below_allocEq hb1 hW2 hsz1
  have hsz2 := size_allocEq hW2
  replace hwas := hide (hwas.keep (Agree.allocEq hW2 (fun b hb => hb.2)) (fun b hb => hb))
  clear kP kL hrows hb1
  replace m0 := m0.below hb2 m0.lt
  replace m1 := m1.below hb2 m1.lt
  replace m2 := m2.below hb2 m2.lt
  replace m3 := m3.below hb2 m3.lt
  replace hb := hB.trans (hb2.mono hB.size)
  have hT2 := hide (hT0.out.below hb2)
  have hv2 := hide (hv0.out.below hb2)
  clear hT0 hv0 hB
  have c0 := m0.cell 0
  have q1 := m1.cell 0
  have q2 := m1.cell 1
  have q3 := m1.cell 2
  have q4 := m1.cell 3
  simp only [List.getElem?_toArray, List.getElem?_cons_zero, List.getElem?_cons_succ] at q1 q2 q3 q4 c0
  go_upto_region 2 with fail
  clear hW2
  go_cut [28] (fun s28 wz => s28 = .bool (badW H level s) ∧ Below W2.heap.size W2 wz)
  case first =>
    go_wp2_with fail
    clear q1 q2 q3 q4 c0
    refine (right30_any A c H _ s _ hT2.out hn.out hv2.out hs.out).mono ?_
    rintro e w3 ⟨rfl, hb3⟩
    clear hwas m0 m1 m2 m3 m4
    have hbw : Hid (badW H level s = (!rightW H s || (level != 0 && level != 1))) := hide rfl
    generalize badW H level s = bw at *
    generalize rightW H s = rw at *
    cases rw with
    | false =>
      go_wp2
      go_meet
      exact ⟨by rw [hbw.out]; rfl, hb3⟩
    | true =>
      by_cases h0 : level = 0
      · have h0b : (level != 0) = false := by simpa using h0
        clear h0
        go_wp2
        go_meet
        exact ⟨by rw [hbw.out, h0b]; rfl, hb3⟩
      · have h0b : (level != 0) = true := by simpa using h0
        clear h0
        go_wp2
        go_meet
        exact ⟨by rw [hbw.out, h0b]; simp, hb3⟩
  case rest =>
    obtain ⟨rfl, hb3⟩ := hcut
    clear q1 q2 q3 q4 c0
    generalize hW3 : wc = w3 at *
    clear hW3
    have hsz3 := hb3.size
    replace m0 := m0.below hb3 m0.lt
    replace m1 := m1.below hb3 m1.lt
    replace m2 := m2.below hb3 m2.lt
    replace m3 := m3.below hb3 m3.lt
    replace m4 := m4.below hb3 m4.lt
    replace hb := hb.trans (hb3.mono hb.size)
    have hT3 := hide (hT2.out.below hb3)
    have hv3 := hide (hv2.out.below hb3)
    replace hwas := hide (hwas.out.keep (Agree.below hb3 (fun b hb => by omega)) (fun b hb => hb))
    clear hT2 hv2 hb2 hb3
    cases hbd : badW H level s with
    | true =>
      have hres := hide (badW_yes hbd)
      replace hbd := hide hbd
      have e02 := (m2).cell 0
      have e12 := (m2).cell 1
      have e22 := (m2).cell 2
      have e32 := (m2).cell 3
      have f02 := (m2).frozen 0
      have f12 := (m2).frozen 1
      have f22 := (m2).frozen 2
      have f32 := (m2).frozen 3
      simp only [List.getElem?_toArray, List.getElem?_cons_zero, List.getElem?_cons_succ] at e02 e12 e22 e32
      have e03 := (m3).cell 0
      have e13 := (m3).cell 1
      have e23 := (m3).cell 2
      have e33 := (m3).cell 3
      have f03 := (m3).frozen 0
      have f13 := (m3).frozen 1
      have f23 := (m3).frozen 2
      have f33 := (m3).frozen 3
      simp only [List.getElem?_toArray, List.getElem?_cons_zero, List.getElem?_cons_succ] at e03 e13 e23 e33
      have e04 := (m4).cell 0
      have e14 := (m4).cell 1
      have e24 := (m4).cell 2
      have e34 := (m4).cell 3
      have f04 := (m4).frozen 0
      have f14 := (m4).frozen 1
      have f24 := (m4).frozen 2
      have f34 := (m4).frozen 3
      simp only [List.getElem?_toArray, List.getElem?_cons_zero, List.getElem?_cons_succ] at e04 e14 e24 e34
      go_upto_region 3 with fail
      have hz2 := set4_blk (a := (.int .i64 s.width)) (b := (.bool s.cut)) (c := (.slice (some ⟨gP, 0, none⟩) s.path.length s.path.length)) (d := (.slice (some ⟨gL, 0, none⟩) s.left.length s.left.length)) m2
      have hne23 : w.heap.size + 1 + 1 ≠ w.heap.size + 1 + 1 + 1 := by omega
      have m3z := set4_far (a := (.int .i64 s.width)) (b := (.bool s.cut)) (c := (.slice (some ⟨gP, 0, none⟩) s.path.length s.path.length)) (d := (.slice (some ⟨gL, 0, none⟩) s.left.length s.left.length)) m3 (Ne.symm hne23)
      have hz3 := set4_blk (a := (.int .i64 3)) (b := (.slice none 0 0)) (c := .slice none 0 0) (d := .slice none 0 0) m3z
      have hz22 := set4_far (a := (.int .i64 3)) (b := (.slice none 0 0)) (c := .slice none 0 0) (d := .slice none 0 0) hz2 hne23
      have hzb := set4_below (a := (.int .i64 3)) (b := (.slice none 0 0)) (c := .slice none 0 0) (d := .slice none 0 0) (p := w.heap.size + 1 + 1 + 1) (set4_below (a := (.int .i64 s.width)) (b := (.bool s.cut)) (c := (.slice (some ⟨gP, 0, none⟩) s.path.length s.path.length)) (d := (.slice (some ⟨gL, 0, none⟩) s.left.length s.left.length)) (p := w.heap.size + 1 + 1) hb (by omega)) (by omega)
      have hzs := (set4_size (X := set4 w3 (w.heap.size + 1 + 1) (.int .i64 s.width) (.bool s.cut) (.slice (some ⟨gP, 0, none⟩) s.path.length s.path.length) (.slice (some ⟨gL, 0, none⟩) s.left.length s.left.length)) (p := w.heap.size + 1 + 1 + 1) (a := (.int .i64 3)) (b := (.slice none 0 0)) (c := .slice none 0 0) (d := .slice none 0 0)).trans (set4_size (X := w3) (p := w.heap.size + 1 + 1) (a := (.int .i64 s.width)) (b := (.bool s.cut)) (c := (.slice (some ⟨gP, 0, none⟩) s.path.length s.path.length)) (d := (.slice (some ⟨gL, 0, none⟩) s.left.length s.left.length)))
      have hzk : ∀ K : Nat → Prop, ¬ K (w.heap.size + 1 + 1) → ¬ K (w.heap.size + 1 + 1 + 1) → Agree K w3 (set4 (set4 w3 (w.heap.size + 1 + 1) (.int .i64 s.width) (.bool s.cut) (.slice (some ⟨gP, 0, none⟩) s.path.length s.path.length) (.slice (some ⟨gL, 0, none⟩) s.left.length s.left.length)) (w.heap.size + 1 + 1 + 1) (.int .i64 3) (.slice none 0 0) (.slice none 0 0) (.slice none 0 0)) := fun K h1 h2 => (set4_agree h1).trans (set4_agree h2)
      have y0 := hz22.cell 0
      have y1 := hz22.cell 1
      have y2 := hz22.cell 2
      have y3 := hz22.cell 3
      have z0 := hz3.cell 0
      have z1 := hz3.cell 1
      have z2 := hz3.cell 2
      have z3 := hz3.cell 3
      simp only [List.getElem?_toArray, List.getElem?_cons_zero, List.getElem?_cons_succ] at y0 y1 y2 y3 z0 z1 z2 z3
      unfold set4 at y0 y1 y2 y3 z0 z1 z2 z3
      clear hz2 hz3 hz22 m3z hne23
      replace hzb := hide hzb
      replace hzs := hide (Nat.le_of_eq hzs.symm)
      replace hzk := hide hzk
      repeat' (first | go_values | go_skip | go_guarded | go_step | go_upon)
      try simp only [Exit.inBlock, Exit.then]
      refine bodyPost_ret (v := .tuple #[.agg #[(.int .i64 s.width), (.bool s.cut), (.slice (some ⟨gP, 0, none⟩) s.path.length s.path.length), (.slice (some ⟨gL, 0, none⟩) s.left.length s.left.length)], .agg #[(.int .i64 3), (.slice none 0 0), .slice none 0 0, .slice none 0 0]]) (by simp [results, Tryz.results17, go_sem, y0, y1, y2, y3, z0, z1, z2, z3]) rfl ?_
      rw [hres.out]
      exact ⟨_, _, rfl, hwas.out.keep (hzk.out _ (fun h => by have := h.1; omega) (fun h => by have := h.1; omega)) (fun b hb => ⟨.inr (by omega), Nat.lt_of_lt_of_le (show b < w3.heap.size by omega) hzs.out⟩), IntS.nil _ _ _ _, hzb.out⟩
    | false =>
      obtain ⟨hr, hlev⟩ := badW_no hbd
      replace hbd := hide hbd
      by_cases hH0 : H.length = 0
      · have hH : H = [] := List.eq_nil_of_length_eq_zero hH0
        have hres : Hid (stepW H level s = (s, 1, [])) := hide (by unfold stepW; rw [if_neg (by rw [hr]; rintro (h | h); exact absurd h (by simp); omega), if_pos hH])
        have hH0b : ((H.length : Int) == 0) = true := by simp [hH]
        have c0 := m0.cell 0
        simp only [List.getElem?_toArray, List.getElem?_cons_zero, List.getElem?_cons_succ] at c0
        replace hr := hide hr
        replace hlev := hide hlev
        clear hH hH0
        have e02 := (m2).cell 0
        have e12 := (m2).cell 1
        have e22 := (m2).cell 2
        have e32 := (m2).cell 3
        have f02 := (m2).frozen 0
        have f12 := (m2).frozen 1
        have f22 := (m2).frozen 2
        have f32 := (m2).frozen 3
        simp only [List.getElem?_toArray, List.getElem?_cons_zero, List.getElem?_cons_succ] at e02 e12 e22 e32
        have e03 := (m3).cell 0
        have e13 := (m3).cell 1
        have e23 := (m3).cell 2
        have e33 := (m3).cell 3
        have f03 := (m3).frozen 0
        have f13 := (m3).frozen 1
        have f23 := (m3).frozen 2
        have f33 := (m3).frozen 3
        simp only [List.getElem?_toArray, List.getElem?_cons_zero, List.getElem?_cons_succ] at e03 e13 e23 e33
        have e04 := (m4).cell 0
        have e14 := (m4).cell 1
        have e24 := (m4).cell 2
        have e34 := (m4).cell 3
        have f04 := (m4).frozen 0
        have f14 := (m4).frozen 1
        have f24 := (m4).frozen 2
        have f34 := (m4).frozen 3
        simp only [List.getElem?_toArray, List.getElem?_cons_zero, List.getElem?_cons_succ] at e04 e14 e24 e34
        go_upto_region 5 with fail
        have hz2 := set4_blk (a := (.int .i64 s.width)) (b := (.bool s.cut)) (c := (.slice (some ⟨gP, 0, none⟩) s.path.length s.path.length)) (d := (.slice (some ⟨gL, 0, none⟩) s.left.length s.left.length)) m2
        have hne23 : w.heap.size + 1 + 1 ≠ w.heap.size + 1 + 1 + 1 := by omega
        have m3z := set4_far (a := (.int .i64 s.width)) (b := (.bool s.cut)) (c := (.slice (some ⟨gP, 0, none⟩) s.path.length s.path.length)) (d := (.slice (some ⟨gL, 0, none⟩) s.left.length s.left.length)) m3 (Ne.symm hne23)
        have hz3 := set4_blk (a := (.int .i64 1)) (b := (.slice none 0 0)) (c := .slice none 0 0) (d := .slice none 0 0) m3z
        have hz22 := set4_far (a := (.int .i64 1)) (b := (.slice none 0 0)) (c := .slice none 0 0) (d := .slice none 0 0) hz2 hne23
        have hzb := set4_below (a := (.int .i64 1)) (b := (.slice none 0 0)) (c := .slice none 0 0) (d := .slice none 0 0) (p := w.heap.size + 1 + 1 + 1) (set4_below (a := (.int .i64 s.width)) (b := (.bool s.cut)) (c := (.slice (some ⟨gP, 0, none⟩) s.path.length s.path.length)) (d := (.slice (some ⟨gL, 0, none⟩) s.left.length s.left.length)) (p := w.heap.size + 1 + 1) hb (by omega)) (by omega)
        have hzs := (set4_size (X := set4 w3 (w.heap.size + 1 + 1) (.int .i64 s.width) (.bool s.cut) (.slice (some ⟨gP, 0, none⟩) s.path.length s.path.length) (.slice (some ⟨gL, 0, none⟩) s.left.length s.left.length)) (p := w.heap.size + 1 + 1 + 1) (a := (.int .i64 1)) (b := (.slice none 0 0)) (c := .slice none 0 0) (d := .slice none 0 0)).trans (set4_size (X := w3) (p := w.heap.size + 1 + 1) (a := (.int .i64 s.width)) (b := (.bool s.cut)) (c := (.slice (some ⟨gP, 0, none⟩) s.path.length s.path.length)) (d := (.slice (some ⟨gL, 0, none⟩) s.left.length s.left.length)))
        have hzk : ∀ K : Nat → Prop, ¬ K (w.heap.size + 1 + 1) → ¬ K (w.heap.size + 1 + 1 + 1) → Agree K w3 (set4 (set4 w3 (w.heap.size + 1 + 1) (.int .i64 s.width) (.bool s.cut) (.slice (some ⟨gP, 0, none⟩) s.path.length s.path.length) (.slice (some ⟨gL, 0, none⟩) s.left.length s.left.length)) (w.heap.size + 1 + 1 + 1) (.int .i64 1) (.slice none 0 0) (.slice none 0 0) (.slice none 0 0)) := fun K h1 h2 => (set4_agree h1).trans (set4_agree h2)
        have y0 := hz22.cell 0
        have y1 := hz22.cell 1
        have y2 := hz22.cell 2
        have y3 := hz22.cell 3
        have z0 := hz3.cell 0
        have z1 := hz3.cell 1
        have z2 := hz3.cell 2
        have z3 := hz3.cell 3
        simp only [List.getElem?_toArray, List.getElem?_cons_zero, List.getElem?_cons_succ] at y0 y1 y2 y3 z0 z1 z2 z3
        unfold set4 at y0 y1 y2 y3 z0 z1 z2 z3
        clear hz2 hz3 hz22 m3z hne23
        replace hzb := hide hzb
        replace hzs := hide (Nat.le_of_eq hzs.symm)
        replace hzk := hide hzk
        repeat' (first | go_values | go_skip | go_guarded | go_step | go_upon)
        try simp only [Exit.inBlock, Exit.then]
        refine bodyPost_ret (v := .tuple #[.agg #[(.int .i64 s.width), (.bool s.cut), (.slice (some ⟨gP, 0, none⟩) s.path.length s.path.length), (.slice (some ⟨gL, 0, none⟩) s.left.length s.left.length)], .agg #[(.int .i64 1), (.slice none 0 0), .slice none 0 0, .slice none 0 0]]) (by simp [results, Tryz.results17, go_sem, y0, y1, y2, y3, z0, z1, z2, z3]) rfl ?_
        rw [hres.out]
        exact ⟨_, _, rfl, hwas.out.keep (hzk.out _ (fun h => by have := h.1; omega) (fun h => by have := h.1; omega)) (fun b hb => ⟨.inr (by omega), Nat.lt_of_lt_of_le (show b < w3.heap.size by omega) hzs.out⟩), IntS.nil _ _ _ _, hzb.out⟩
      · have hH0b : ((H.length : Int) == 0) = false := by rw [beq_eq_false_iff_ne]; omega
        have hres0 := hide (stepW_main hr hlev hH0)
        obtain ⟨hrH, hw1, hw2, hplH⟩ := rightW_more hr
        have c0 := m0.cell 0
        simp only [List.getElem?_toArray, List.getElem?_cons_zero, List.getElem?_cons_succ] at c0
        replace hr := hide hr
        replace hlev := hide hlev
        replace hrH := hide hrH
        clear hH0
        have hn13 : w1.heap.size < w3.heap.size := by omega
        have hn1 : w.heap.size + 4 ≤ w1.heap.size := by omega
        go_upto_region 6 with fail
        clear c0
        go_cut [] (fun wz => ∃ gP2 gL2 cur2, Mid30 w wz A c H s w1.heap.size w3.heap.size gP gL gP2 gL2 cur2)
        case first =>
          have q1 := m1.cell 0
          have q2 := m1.cell 1
          have q3 := m1.cell 2
          have q4 := m1.cell 3
          have qf0 := m1.frozen 0
          have qf1 := m1.frozen 1
          have qf2 := m1.frozen 2
          have qf3 := m1.frozen 3
          simp only [List.getElem?_toArray, List.getElem?_cons_zero, List.getElem?_cons_succ] at q1 q2 q3 q4
          go_wp2_with fail
          clear q1 q2 q3 q4 qf0 qf1 qf2 qf3
          refine (clone30s_any _ s _ hv3.out hs.out).mono ?_
          rintro e w5 ⟨gP2, gL2, cur2, rfl, hgP2, hgL2, kP2, kL2, hcur2, hrows2, hb5⟩
          have hsz5 := hb5.size
          have l4 := m4.lt
          replace m0 := m0.below hb5 m0.lt
          replace m1 := m1.below hb5 m1.lt
          replace m2 := m2.below hb5 m2.lt
          replace m3 := m3.below hb5 m3.lt
          replace m4 := m4.below hb5 m4.lt
          replace hb := hb.trans (hb5.mono hb.size)
          replace hwas := hide (hwas.out.keep (Agree.below hb5 (fun b hb => by have := hb.2; omega)) (fun b hb => hb))
          clear hb5 hT3 hv3
          have x1 := set4_blk (a := .int .i64 s.width) (b := .bool s.cut) (c := .slice (some ⟨gP2, 0, none⟩) s.path.length s.path.length) (d := .slice (some ⟨gL2, 0, none⟩) s.left.length s.left.length) m1
          have xfar : ∀ {q : Nat} {t : TypeId} {cs : Array Value}, Blk w5 q t cs → q ≠ w.heap.size + 1 → Blk (set4 w5 (w.heap.size + 1) (.int .i64 s.width) (.bool s.cut) (.slice (some ⟨gP2, 0, none⟩) s.path.length s.path.length) (.slice (some ⟨gL2, 0, none⟩) s.left.length s.left.length)) q t cs := fun h hq => set4_far h hq
          have hM : Hid (Mid30 w (set4 w5 (w.heap.size + 1) (.int .i64 s.width) (.bool s.cut) (.slice (some ⟨gP2, 0, none⟩) s.path.length s.path.length) (.slice (some ⟨gL2, 0, none⟩) s.left.length s.left.length)) A c H s w1.heap.size w3.heap.size gP gL gP2 gL2 cur2) := hide
            { below := set4_below hb (by omega)
              b0 := xfar m0 (by omega)
              b1 := x1
              b2 := xfar m2 (by omega)
              b3 := xfar m3 (by omega)
              b4 := xfar m4 (by omega)
              was := hwas.out.keep (set4_agree (fun h => by have := h.1; omega)) (fun b hb => ⟨by have := hb.1; omega, hb.2⟩)
              bP := xfar kP2 (by omega)
              bL := xfar kL2 (by omega)
              cs := hcur2
              rows := fun j hj => by obtain ⟨gj, h1, h2, h3⟩ := hrows2 j hj; exact ⟨gj, h1, h2, xfar h3 (by omega)⟩
              l1 := hn1
              l3 := hn13
              lP := hgP2
              lL := hgL2 }
          have q1 := m1.cell 0
          have q2 := m1.cell 1
          have q3 := m1.cell 2
          have q4 := m1.cell 3
          have qf0 := m1.frozen 0
          have qf1 := m1.frozen 1
          have qf2 := m1.frozen 2
          have qf3 := m1.frozen 3
          simp only [List.getElem?_toArray, List.getElem?_cons_zero, List.getElem?_cons_succ] at q1 q2 q3 q4
          clear x1 xfar m0 m1 m2 m3 m4 kP2 kL2 hrows2 hwas hb
          go_wp2_with fail
          go_meet
          exact ⟨_, _, _, hM.out⟩
        case rest =>
          obtain ⟨gP2, gL2, cur2, hM⟩ := hcut
          clear hwas m0 m1 m2 m3 m4 hb hv3 hT3
          obtain ⟨X5, hX⟩ : ∃ X5, X5 = wc := ⟨_, rfl⟩
          subst hX
          obtain ⟨hbX, x0, x1, x2, x3, x4, hwasX, xP, xL, hcur2, hrows2, hl1, hl3, hlP, hlL⟩ := hM
          have hsX := hbX.size
          have hTX := hide (h.below hbX)
          replace hwasX := hide hwasX
          have xrows := hide hrows2
          clear hrows2
          have r0 := x0.cell 0
          have r1 := x1.cell 0
          have r2 := x1.cell 1
          have r3 := x1.cell 2
          have r4 := x1.cell 3
          simp only [List.getElem?_toArray, List.getElem?_cons_zero, List.getElem?_cons_succ] at r0 r1 r2 r3 r4
          have x2l := x2.lt
          have x3l := x3.lt
          by_cases hl0 : s.left = []
          --{ 10 nil
          · have hl0n : s.left.length = 0 := by rw [hl0]; rfl
            have hl0b : decide (((s.left.length : Nat) : Int) - 1 < 0) = true := by simp; omega
            replace hl0n := hide hl0n
            have hres : Hid (stepM H level s = (putW H s, 0, [])) := hide (by unfold stepM; rw [hl0]; rfl)
            replace hl0 := hide hl0
            have hcm := hide (fun K hT hP hL hK => come30_any A c H (w.heap.size + 1) w.heap.size s (some ⟨gP2, 0, none⟩) s.path.length (.slice (some ⟨gL2, 0, none⟩) s.left.length s.left.length) K X5 hT hn.out hrH.out (hTB.below hbX) x1 hP hL hK (by omega) (by simp [Value.ownBlock]; omega) hs1 hs2 hw1 hw2)
            have hTX2 : TxnS X5 (fun b => b < X5.heap.size ∧ b ≠ w.heap.size + 1 ∧ b ≠ w.heap.size + 1 + 1 ∧ b ≠ w.heap.size + 1 + 1 + 1 ∧ b ≠ gL2 ∧ (K0 b ∨ w.heap.size ≤ b)) (.slice A H.length c) H := TxnS.keep h0.out (Agree.below hbX fun b hb => hK0.out b hb) (fun b hb => by have hb2 : b < w.heap.size := hK0.out b hb; exact ⟨by omega, by omega, by omega, by omega, by omega, .inl hb⟩)
            have hneP : gP2 ≠ gL2 := by rintro rfl; have := xP.symm.trans xL; simp at this
            have hPX := intB_sl (K := fun b => b < X5.heap.size ∧ b ≠ w.heap.size + 1 ∧ b ≠ w.heap.size + 1 + 1 ∧ b ≠ w.heap.size + 1 + 1 + 1 ∧ b ≠ gL2 ∧ (K0 b ∨ w.heap.size ≤ b)) xP ⟨xP.lt, by omega, by omega, by omega, hneP, .inr (by omega)⟩
            have hLX := clone_own (K := fun b => b < X5.heap.size ∧ b ≠ w.heap.size + 1 ∧ b ≠ w.heap.size + 1 + 1 ∧ b ≠ w.heap.size + 1 + 1 + 1 ∧ b ≠ gL2 ∧ (K0 b ∨ w.heap.size ≤ b)) (B := w.heap.size) xL hcur2 (by omega) (by unfold maxLen; omega) (fun j hj => by
              obtain ⟨gj, h1, h2, h3⟩ := xrows.out j hj
              exact ⟨gj, h2, h3, h3.lt, by omega, by omega, by omega, by rintro rfl; have := h3.symm.trans xL; simp at this, .inr (by omega)⟩)
            have hcome := hide (hcm.out _ hTX2 hPX hLX (fun b hb => ⟨hb.1, hb.2.1, by simp [Value.ownBlock]; exact hb.2.2.2.2.1⟩))
            clear hcm hTX2 hLX
            replace hPX := hide hPX
            go_wp2_with fail
            refine hcome.out.mono ?_
            rintro e w6 ⟨vl, rfl, y1b, hrows6, hall6, hb6⟩
            clear hcome r0 r1 r2 r3 r4
            have hput : (putW H s).path = s.path := rfl
            generalize putW H s = s' at *
            obtain ⟨A6, c6, rfl⟩ := hrows6.form
            have hfar6 : ∀ {q : Nat} {t : TypeId} {cs : Array Value}, Blk X5 q t cs → q ≠ w.heap.size + 1 → q ≠ gL2 → Blk w6 q t cs := fun h h1 h2 => (hall6 _ h.lt h1 (by simp [Value.ownBlock]; exact h2)).trans h
            have m2 := hfar6 x2 (by omega) (by omega)
            have m3 := hfar6 x3 (by omega) (by omega)
            have hP6 := hPX.out.keep (w' := w6) (fun b hb => hall6 b hb.1 hb.2.1 (by simp [Value.ownBlock]; exact hb.2.2.2.2.1)) (fun b h => h)
            have hb := hbX.trans hb6
            have hs6 := hb6.size
            have e01 := (y1b).cell 0
            have e11 := (y1b).cell 1
            have e21 := (y1b).cell 2
            have e31 := (y1b).cell 3
            have f01 := (y1b).frozen 0
            have f11 := (y1b).frozen 1
            have f21 := (y1b).frozen 2
            have f31 := (y1b).frozen 3
            simp only [List.getElem?_toArray, List.getElem?_cons_zero, List.getElem?_cons_succ] at e01 e11 e21 e31
            have e02 := (m2).cell 0
            have e12 := (m2).cell 1
            have e22 := (m2).cell 2
            have e32 := (m2).cell 3
            have f02 := (m2).frozen 0
            have f12 := (m2).frozen 1
            have f22 := (m2).frozen 2
            have f32 := (m2).frozen 3
            simp only [List.getElem?_toArray, List.getElem?_cons_zero, List.getElem?_cons_succ] at e02 e12 e22 e32
            have e03 := (m3).cell 0
            have e13 := (m3).cell 1
            have e23 := (m3).cell 2
            have e33 := (m3).cell 3
            have f03 := (m3).frozen 0
            have f13 := (m3).frozen 1
            have f23 := (m3).frozen 2
            have f33 := (m3).frozen 3
            simp only [List.getElem?_toArray, List.getElem?_cons_zero, List.getElem?_cons_succ] at e03 e13 e23 e33
            rw [hres.out] at hres0
            replace hres := hres0
            go_upto_region 10 with fail
            have hz2 := set4_blk (a := (.int .i64 s'.width)) (b := (.bool s'.cut)) (c := (.slice (some ⟨gP2, 0, none⟩) s.path.length s.path.length)) (d := (.slice A6 s'.left.length c6)) m2
            have hne23 : w.heap.size + 1 + 1 ≠ w.heap.size + 1 + 1 + 1 := by omega
            have m3z := set4_far (a := (.int .i64 s'.width)) (b := (.bool s'.cut)) (c := (.slice (some ⟨gP2, 0, none⟩) s.path.length s.path.length)) (d := (.slice A6 s'.left.length c6)) m3 (Ne.symm hne23)
            have hz3 := set4_blk (a := (.int .i64 0)) (b := (.slice none 0 0)) (c := .slice none 0 0) (d := .slice none 0 0) m3z
            have hz22 := set4_far (a := (.int .i64 0)) (b := (.slice none 0 0)) (c := .slice none 0 0) (d := .slice none 0 0) hz2 hne23
            have hzb := set4_below (a := (.int .i64 0)) (b := (.slice none 0 0)) (c := .slice none 0 0) (d := .slice none 0 0) (p := w.heap.size + 1 + 1 + 1) (set4_below (a := (.int .i64 s'.width)) (b := (.bool s'.cut)) (c := (.slice (some ⟨gP2, 0, none⟩) s.path.length s.path.length)) (d := (.slice A6 s'.left.length c6)) (p := w.heap.size + 1 + 1) hb (by omega)) (by omega)
            have hzs := (set4_size (X := set4 w6 (w.heap.size + 1 + 1) (.int .i64 s'.width) (.bool s'.cut) (.slice (some ⟨gP2, 0, none⟩) s.path.length s.path.length) (.slice A6 s'.left.length c6)) (p := w.heap.size + 1 + 1 + 1) (a := (.int .i64 0)) (b := (.slice none 0 0)) (c := .slice none 0 0) (d := .slice none 0 0)).trans (set4_size (X := w6) (p := w.heap.size + 1 + 1) (a := (.int .i64 s'.width)) (b := (.bool s'.cut)) (c := (.slice (some ⟨gP2, 0, none⟩) s.path.length s.path.length)) (d := (.slice A6 s'.left.length c6)))
            have hzk : ∀ K : Nat → Prop, ¬ K (w.heap.size + 1 + 1) → ¬ K (w.heap.size + 1 + 1 + 1) → Agree K w6 (set4 (set4 w6 (w.heap.size + 1 + 1) (.int .i64 s'.width) (.bool s'.cut) (.slice (some ⟨gP2, 0, none⟩) s.path.length s.path.length) (.slice A6 s'.left.length c6)) (w.heap.size + 1 + 1 + 1) (.int .i64 0) (.slice none 0 0) (.slice none 0 0) (.slice none 0 0)) := fun K h1 h2 => (set4_agree h1).trans (set4_agree h2)
            have y0 := hz22.cell 0
            have y1 := hz22.cell 1
            have y2 := hz22.cell 2
            have y3 := hz22.cell 3
            have z0 := hz3.cell 0
            have z1 := hz3.cell 1
            have z2 := hz3.cell 2
            have z3 := hz3.cell 3
            simp only [List.getElem?_toArray, List.getElem?_cons_zero, List.getElem?_cons_succ] at y0 y1 y2 y3 z0 z1 z2 z3
            unfold set4 at y0 y1 y2 y3 z0 z1 z2 z3
            clear hz2 hz3 hz22 m3z hne23
            replace hzb := hide hzb
            replace hzs := hide (Nat.le_of_eq hzs.symm)
            replace hzk := hide hzk
            repeat' (first | go_values | go_skip | go_guarded | go_step | go_upon)
            try simp only [Exit.inBlock, Exit.then]
            refine bodyPost_ret (v := .tuple #[.agg #[(.int .i64 s'.width), (.bool s'.cut), (.slice (some ⟨gP2, 0, none⟩) s.path.length s.path.length), (.slice A6 s'.left.length c6)], .agg #[(.int .i64 0), (.slice none 0 0), .slice none 0 0, .slice none 0 0]]) (by simp [results, Tryz.results17, go_sem, y0, y1, y2, y3, z0, z1, z2, z3]) rfl ?_
            rw [hres.out]
            refine ⟨_, _, rfl, ⟨_, _, rfl, ?_, ?_⟩, IntS.nil _ _ _ _, hzb.out⟩
            · rw [hput]
              exact hP6.keep (hzk.out _ (fun h => h.2.2.1 rfl) (fun h => h.2.2.2.1 rfl)) (fun b hb => ⟨hb.2.2.2.2.2, Nat.lt_of_lt_of_le (show b < w6.heap.size by have := hb.1; omega) hzs.out⟩)
            · exact hrows6.keep (hzk.out _ (fun h => by
                rcases h.2 with g | g | g
                · exact g.2.2.1 rfl
                · omega
                · simp [Value.ownBlock] at g; omega) (fun h => by
                rcases h.2 with g | g | g
                · exact g.2.2.2.1 rfl
                · omega
                · simp [Value.ownBlock] at g; omega)) (fun b hb => ⟨by rcases hb.2 with g | g | g; exact g.2.2.2.2.2; exact .inr (by omega); simp [Value.ownBlock] at g; exact .inr (by omega), Nat.lt_of_lt_of_le (show b < w6.heap.size from hb.1.2) hzs.out⟩)
          --} 10
          have hl0n : 0 < s.left.length := List.length_pos_iff.2 hl0
          obtain ⟨m, hm⟩ : ∃ m, s.left.length = m + 1 := ⟨s.left.length - 1, by omega⟩
          have hm9 : m < s.left.length := by omega
          obtain ⟨gj, hgj1, hgj2, kj⟩ := xrows.out m hm9
          have kjl := xL.cell m
          rw [hgj2] at kjl
          rw [hm] at r4
          have hmi : (((m + 1 : Nat) : Int) - 1) = (m : Int) := by omega
          have hl0b : decide ((m : Int) < 0) = false := by simp
          have hlast : Hid (s.left.getLast? = some (s.left[m]'hm9)) := hide (getLast_at hm)
          generalize hrow : s.left[m]'hm9 = row at *
          replace hl0n := hide hl0n
          replace hm := hide hm
          clear hl0
          replace hrow := hide hrow
          cases row with
          | nil =>
            by_cases hm0 : m = 0
            · have hmb : decide ((m : Int) > 0) = false := by simp; omega
              have hmb2 : decide (0 < m) = false := by simp; omega
              have hlen1 : ¬ s.left.length > 1 := by have := hm.out; omega
              by_cases hcw : s.cut = true ∧ s.width < 32
              --{ 14 wide
              · have hres := hide (show stepM H level s = (⟨s.width + 1, false, [], []⟩, 0, []) by unfold stepM; rw [hlast.out]; dsimp only; rw [if_neg hlen1, if_pos hcw])
                have hwb : decide (s.width < 32) = true := by simpa using hcw.2
                have hcb := hcw.1
                replace hcw := hide hcw
                clear hlen1 hm0
                have m2 := x2
                have m3 := x3
                have hb := hbX
                rw [hres.out] at hres0
                replace hres := hres0
                have e02 := (m2).cell 0
                have e12 := (m2).cell 1
                have e22 := (m2).cell 2
                have e32 := (m2).cell 3
                have f02 := (m2).frozen 0
                have f12 := (m2).frozen 1
                have f22 := (m2).frozen 2
                have f32 := (m2).frozen 3
                simp only [List.getElem?_toArray, List.getElem?_cons_zero, List.getElem?_cons_succ] at e02 e12 e22 e32
                have e03 := (m3).cell 0
                have e13 := (m3).cell 1
                have e23 := (m3).cell 2
                have e33 := (m3).cell 3
                have f03 := (m3).frozen 0
                have f13 := (m3).frozen 1
                have f23 := (m3).frozen 2
                have f33 := (m3).frozen 3
                simp only [List.getElem?_toArray, List.getElem?_cons_zero, List.getElem?_cons_succ] at e03 e13 e23 e33
                go_upto_region 15 with fail
                have hz2 := set4_blk (a := (.int .i64 (s.width + 1))) (b := (.bool false)) (c := (.slice none 0 0)) (d := (.slice none 0 0)) m2
                have hne23 : w.heap.size + 1 + 1 ≠ w.heap.size + 1 + 1 + 1 := by omega
                have m3z := set4_far (a := (.int .i64 (s.width + 1))) (b := (.bool false)) (c := (.slice none 0 0)) (d := (.slice none 0 0)) m3 (Ne.symm hne23)
                have hz3 := set4_blk (a := (.int .i64 0)) (b := (.slice none 0 0)) (c := .slice none 0 0) (d := .slice none 0 0) m3z
                have hz22 := set4_far (a := (.int .i64 0)) (b := (.slice none 0 0)) (c := .slice none 0 0) (d := .slice none 0 0) hz2 hne23
                have hzb := set4_below (a := (.int .i64 0)) (b := (.slice none 0 0)) (c := .slice none 0 0) (d := .slice none 0 0) (p := w.heap.size + 1 + 1 + 1) (set4_below (a := (.int .i64 (s.width + 1))) (b := (.bool false)) (c := (.slice none 0 0)) (d := (.slice none 0 0)) (p := w.heap.size + 1 + 1) hb (by omega)) (by omega)
                have hzs := (set4_size (X := set4 X5 (w.heap.size + 1 + 1) (.int .i64 (s.width + 1)) (.bool false) (.slice none 0 0) (.slice none 0 0)) (p := w.heap.size + 1 + 1 + 1) (a := (.int .i64 0)) (b := (.slice none 0 0)) (c := .slice none 0 0) (d := .slice none 0 0)).trans (set4_size (X := X5) (p := w.heap.size + 1 + 1) (a := (.int .i64 (s.width + 1))) (b := (.bool false)) (c := (.slice none 0 0)) (d := (.slice none 0 0)))
                have hzk : ∀ K : Nat → Prop, ¬ K (w.heap.size + 1 + 1) → ¬ K (w.heap.size + 1 + 1 + 1) → Agree K X5 (set4 (set4 X5 (w.heap.size + 1 + 1) (.int .i64 (s.width + 1)) (.bool false) (.slice none 0 0) (.slice none 0 0)) (w.heap.size + 1 + 1 + 1) (.int .i64 0) (.slice none 0 0) (.slice none 0 0) (.slice none 0 0)) := fun K h1 h2 => (set4_agree h1).trans (set4_agree h2)
                have y0 := hz22.cell 0
                have y1 := hz22.cell 1
                have y2 := hz22.cell 2
                have y3 := hz22.cell 3
                have z0 := hz3.cell 0
                have z1 := hz3.cell 1
                have z2 := hz3.cell 2
                have z3 := hz3.cell 3
                simp only [List.getElem?_toArray, List.getElem?_cons_zero, List.getElem?_cons_succ] at y0 y1 y2 y3 z0 z1 z2 z3
                unfold set4 at y0 y1 y2 y3 z0 z1 z2 z3
                clear hz2 hz3 hz22 m3z hne23
                replace hzb := hide hzb
                replace hzs := hide (Nat.le_of_eq hzs.symm)
                replace hzk := hide hzk
                repeat' (first | go_values | go_skip | go_guarded | go_step | go_upon)
                try simp only [Exit.inBlock, Exit.then]
                refine bodyPost_ret (v := .tuple #[.agg #[(.int .i64 (s.width + 1)), (.bool false), (.slice none 0 0), (.slice none 0 0)], .agg #[(.int .i64 0), (.slice none 0 0), .slice none 0 0, .slice none 0 0]]) (by simp [results, Tryz.results17, go_sem, y0, y1, y2, y3, z0, z1, z2, z3]) rfl ?_
                rw [hres.out]
                exact ⟨_, _, rfl, ⟨_, _, rfl, IntS.nil _ _ _ _, RowsS.nil _ _ _ _⟩, IntS.nil _ _ _ _, hzb.out⟩
              --} 14
              --{ 14 stuck
              · have hres := hide (show stepM H level s = (s, 3, []) by unfold stepM; rw [hlast.out]; dsimp only; rw [if_neg hlen1, if_neg hcw])
                have hc2 : s.cut = false ∨ decide (s.width < 32) = false := by
                  cases hc : s.cut with
                  | false => exact .inl rfl
                  | true => exact .inr (by simp; rw [hc] at hcw; simp at hcw; omega)
                clear hcw hlen1 hm0
                have m2 := x2
                have m3 := x3
                have hb := hbX
                rw [hres.out] at hres0
                replace hres := hres0
                have e02 := (m2).cell 0
                have e12 := (m2).cell 1
                have e22 := (m2).cell 2
                have e32 := (m2).cell 3
                have f02 := (m2).frozen 0
                have f12 := (m2).frozen 1
                have f22 := (m2).frozen 2
                have f32 := (m2).frozen 3
                simp only [List.getElem?_toArray, List.getElem?_cons_zero, List.getElem?_cons_succ] at e02 e12 e22 e32
                have e03 := (m3).cell 0
                have e13 := (m3).cell 1
                have e23 := (m3).cell 2
                have e33 := (m3).cell 3
                have f03 := (m3).frozen 0
                have f13 := (m3).frozen 1
                have f23 := (m3).frozen 2
                have f33 := (m3).frozen 3
                simp only [List.getElem?_toArray, List.getElem?_cons_zero, List.getElem?_cons_succ] at e03 e13 e23 e33
                have e04 := (x4).cell 0
                have e14 := (x4).cell 1
                have e24 := (x4).cell 2
                have e34 := (x4).cell 3
                have f04 := (x4).frozen 0
                have f14 := (x4).frozen 1
                have f24 := (x4).frozen 2
                have f34 := (x4).frozen 3
                simp only [List.getElem?_toArray, List.getElem?_cons_zero, List.getElem?_cons_succ] at e04 e14 e24 e34
                have hcc : s.cut = false ∨ (s.cut = true ∧ decide (s.width < 32) = false) := by
                  cases hc : s.cut with
                  | false => exact .inl rfl
                  | true => exact .inr ⟨rfl, by rcases hc2 with h | h; rw [hc] at h; cases h; exact h⟩
                clear hc2
                rcases hcc with hcb | ⟨hcb, hwb⟩
                all_goals
                  rw [hcb] at r2
                  replace hcb := hide hcb
                  go_upto_region 17 with fail
                  have hz2 := set4_blk (a := (.int .i64 s.width)) (b := (.bool s.cut)) (c := (.slice (some ⟨gP, 0, none⟩) s.path.length s.path.length)) (d := (.slice (some ⟨gL, 0, none⟩) s.left.length s.left.length)) m2
                  have hne23 : w.heap.size + 1 + 1 ≠ w.heap.size + 1 + 1 + 1 := by omega
                  have m3z := set4_far (a := (.int .i64 s.width)) (b := (.bool s.cut)) (c := (.slice (some ⟨gP, 0, none⟩) s.path.length s.path.length)) (d := (.slice (some ⟨gL, 0, none⟩) s.left.length s.left.length)) m3 (Ne.symm hne23)
                  have hz3 := set4_blk (a := (.int .i64 3)) (b := (.slice none 0 0)) (c := .slice none 0 0) (d := .slice none 0 0) m3z
                  have hz22 := set4_far (a := (.int .i64 3)) (b := (.slice none 0 0)) (c := .slice none 0 0) (d := .slice none 0 0) hz2 hne23
                  have hzb := set4_below (a := (.int .i64 3)) (b := (.slice none 0 0)) (c := .slice none 0 0) (d := .slice none 0 0) (p := w.heap.size + 1 + 1 + 1) (set4_below (a := (.int .i64 s.width)) (b := (.bool s.cut)) (c := (.slice (some ⟨gP, 0, none⟩) s.path.length s.path.length)) (d := (.slice (some ⟨gL, 0, none⟩) s.left.length s.left.length)) (p := w.heap.size + 1 + 1) hb (by omega)) (by omega)
                  have hzs := (set4_size (X := set4 X5 (w.heap.size + 1 + 1) (.int .i64 s.width) (.bool s.cut) (.slice (some ⟨gP, 0, none⟩) s.path.length s.path.length) (.slice (some ⟨gL, 0, none⟩) s.left.length s.left.length)) (p := w.heap.size + 1 + 1 + 1) (a := (.int .i64 3)) (b := (.slice none 0 0)) (c := .slice none 0 0) (d := .slice none 0 0)).trans (set4_size (X := X5) (p := w.heap.size + 1 + 1) (a := (.int .i64 s.width)) (b := (.bool s.cut)) (c := (.slice (some ⟨gP, 0, none⟩) s.path.length s.path.length)) (d := (.slice (some ⟨gL, 0, none⟩) s.left.length s.left.length)))
                  have hzk : ∀ K : Nat → Prop, ¬ K (w.heap.size + 1 + 1) → ¬ K (w.heap.size + 1 + 1 + 1) → Agree K X5 (set4 (set4 X5 (w.heap.size + 1 + 1) (.int .i64 s.width) (.bool s.cut) (.slice (some ⟨gP, 0, none⟩) s.path.length s.path.length) (.slice (some ⟨gL, 0, none⟩) s.left.length s.left.length)) (w.heap.size + 1 + 1 + 1) (.int .i64 3) (.slice none 0 0) (.slice none 0 0) (.slice none 0 0)) := fun K h1 h2 => (set4_agree h1).trans (set4_agree h2)
                  have y0 := hz22.cell 0
                  have y1 := hz22.cell 1
                  have y2 := hz22.cell 2
                  have y3 := hz22.cell 3
                  have z0 := hz3.cell 0
                  have z1 := hz3.cell 1
                  have z2 := hz3.cell 2
                  have z3 := hz3.cell 3
                  simp only [List.getElem?_toArray, List.getElem?_cons_zero, List.getElem?_cons_succ] at y0 y1 y2 y3 z0 z1 z2 z3
                  unfold set4 at y0 y1 y2 y3 z0 z1 z2 z3
                  clear hz2 hz3 hz22 m3z hne23
                  replace hzb := hide hzb
                  replace hzs := hide (Nat.le_of_eq hzs.symm)
                  replace hzk := hide hzk
                  repeat' (first | go_values | go_skip | go_guarded | go_step | go_upon)
                  try simp only [Exit.inBlock, Exit.then]
                  refine bodyPost_ret (v := .tuple #[.agg #[(.int .i64 s.width), (.bool s.cut), (.slice (some ⟨gP, 0, none⟩) s.path.length s.path.length), (.slice (some ⟨gL, 0, none⟩) s.left.length s.left.length)], .agg #[(.int .i64 3), (.slice none 0 0), .slice none 0 0, .slice none 0 0]]) (by simp [results, Tryz.results17, go_sem, y0, y1, y2, y3, z0, z1, z2, z3]) rfl ?_
                  rw [hres.out]
                  exact ⟨_, _, rfl, hwasX.out.keep (hzk.out _ (fun h => by have := h.1; omega) (fun h => by have := h.1; omega)) (fun b hb => ⟨.inr (by omega), Nat.lt_of_lt_of_le (show b < X5.heap.size by have := hb.2; have := x4.lt; omega) hzs.out⟩), IntS.nil _ _ _ _, hzb.out⟩
              --} 14
            --{ 12 pop
            · obtain ⟨m', rfl⟩ : ∃ m', m = m' + 1 := ⟨m - 1, by omega⟩
              have hpl : s.path.length = m' + 1 := by have := rightW_len hr.out hl0n.out; have := hm.out; omega
              have hx1 := x1
              rw [hpl, hm.out] at hx1
              rw [hpl] at r3
              have rf1 := x1.frozen 2
              have rf2 := x1.frozen 3
              have hwr : (((m' + 1 : Nat) : Int) - 1) = (m' : Int) := by omega
              replace hpl := hide hpl
              go_upto_region 12 with fail
              go_cut [] (fun wz => Blk wz (w.heap.size + 1) 30 #[.int .i64 s.width, .bool s.cut, .slice (some ⟨gP2, 0, none⟩) m' (m' + 1), .slice (some ⟨gL2, 0, none⟩) (m' + 1) (m' + 1 + 1)] ∧ Agree (fun b => b ≠ w.heap.size + 1) X5 wz ∧ Below w.heap.size w wz ∧ X5.heap.size ≤ wz.heap.size)
              case first =>
                go_region
                go_wp2_with fail
                go_meet
                have hq := (hx1.set_ 3 (.slice (some ⟨gL2, 0, none⟩) (m' + 1) (m' + 1 + 1))).set_ 2 (.slice (some ⟨gP2, 0, none⟩) m' (m' + 1))
                simp only [List.setIfInBounds_toArray, List.set_cons_zero, List.set_cons_succ] at hq
                exact ⟨hq.drew, ((Agree.setCell ⟨w.heap.size + 1, 3, none⟩ (fun h => h rfl) _).trans (Agree.setCell ⟨w.heap.size + 1, 2, none⟩ (fun h => h rfl) _)).trans (Agree.drew _ _), ((hbX.setCell (p := ⟨w.heap.size + 1, 3, none⟩) (by simp) _).setCell (p := ⟨w.heap.size + 1, 2, none⟩) (by simp) _).drew, by simp⟩
              case rest =>
                obtain ⟨y1, hag, hb, hXz⟩ := hcut
                have m2 := x2.agree hag (by omega)
                have m3 := x3.agree hag (by omega)
                have hPz := hide (IntS.take (intB_sl (K := fun b => b ≠ w.heap.size + 1 ∧ b < X5.heap.size ∧ w3.heap.size ≤ b) xP ⟨by omega, xP.lt, hlP⟩) (k := m') (by have := hpl.out; omega))
                have hLz := hide (RowsS.take (clone_rows (K := fun b => b ≠ w.heap.size + 1 ∧ b < X5.heap.size ∧ w3.heap.size ≤ b) xL hcur2 (by unfold maxLen; omega) ⟨by omega, xL.lt, hlL⟩ (fun j hj => by obtain ⟨gj, h1, h2, h3⟩ := xrows.out j hj; exact ⟨gj, h2, h3, by omega, h3.lt, h1⟩)) (k := m' + 1) (by have := hm.out; omega))
                rw [hpl.out] at hPz
                rw [hm.out] at hLz
                have hd1 : s.path.take m' = s.path.dropLast := by rw [List.dropLast_eq_take, hpl.out]; rfl
                have hd2 : s.left.take (m' + 1) = s.left.dropLast := by rw [List.dropLast_eq_take, hm.out]; rfl
                rw [hd1] at hPz
                rw [hd2] at hLz
                have hres := hide (show stepM H level s = ({ s with left := s.left.dropLast, path := s.path.dropLast }, 0, []) by unfold stepM; rw [hlast.out]; dsimp only; rw [if_pos (by have := hm.out; omega)])
                rw [hres.out] at hres0
                replace hres := hres0
                have hwz := hb.size
                clear r0 r1 r2 r3 r4 rf1 rf2 hd1 hd2 hm0 hres0
                have e01 := (y1).cell 0
                have e11 := (y1).cell 1
                have e21 := (y1).cell 2
                have e31 := (y1).cell 3
                have f01 := (y1).frozen 0
                have f11 := (y1).frozen 1
                have f21 := (y1).frozen 2
                have f31 := (y1).frozen 3
                simp only [List.getElem?_toArray, List.getElem?_cons_zero, List.getElem?_cons_succ] at e01 e11 e21 e31
                have e02 := (m2).cell 0
                have e12 := (m2).cell 1
                have e22 := (m2).cell 2
                have e32 := (m2).cell 3
                have f02 := (m2).frozen 0
                have f12 := (m2).frozen 1
                have f22 := (m2).frozen 2
                have f32 := (m2).frozen 3
                simp only [List.getElem?_toArray, List.getElem?_cons_zero, List.getElem?_cons_succ] at e02 e12 e22 e32
                have e03 := (m3).cell 0
                have e13 := (m3).cell 1
                have e23 := (m3).cell 2
                have e33 := (m3).cell 3
                have f03 := (m3).frozen 0
                have f13 := (m3).frozen 1
                have f23 := (m3).frozen 2
                have f33 := (m3).frozen 3
                simp only [List.getElem?_toArray, List.getElem?_cons_zero, List.getElem?_cons_succ] at e03 e13 e23 e33
                go_upto_region 13 with fail
                have hz2 := set4_blk (a := (.int .i64 s.width)) (b := (.bool s.cut)) (c := (.slice (some ⟨gP2, 0, none⟩) m' (m' + 1))) (d := (.slice (some ⟨gL2, 0, none⟩) (m' + 1) (m' + 1 + 1))) m2
                have hne23 : w.heap.size + 1 + 1 ≠ w.heap.size + 1 + 1 + 1 := by omega
                have m3z := set4_far (a := (.int .i64 s.width)) (b := (.bool s.cut)) (c := (.slice (some ⟨gP2, 0, none⟩) m' (m' + 1))) (d := (.slice (some ⟨gL2, 0, none⟩) (m' + 1) (m' + 1 + 1))) m3 (Ne.symm hne23)
                have hz3 := set4_blk (a := (.int .i64 0)) (b := (.slice none 0 0)) (c := .slice none 0 0) (d := .slice none 0 0) m3z
                have hz22 := set4_far (a := (.int .i64 0)) (b := (.slice none 0 0)) (c := .slice none 0 0) (d := .slice none 0 0) hz2 hne23
                have hzb := set4_below (a := (.int .i64 0)) (b := (.slice none 0 0)) (c := .slice none 0 0) (d := .slice none 0 0) (p := w.heap.size + 1 + 1 + 1) (set4_below (a := (.int .i64 s.width)) (b := (.bool s.cut)) (c := (.slice (some ⟨gP2, 0, none⟩) m' (m' + 1))) (d := (.slice (some ⟨gL2, 0, none⟩) (m' + 1) (m' + 1 + 1))) (p := w.heap.size + 1 + 1) hb (by omega)) (by omega)
                have hzs := (set4_size (X := set4 wc (w.heap.size + 1 + 1) (.int .i64 s.width) (.bool s.cut) (.slice (some ⟨gP2, 0, none⟩) m' (m' + 1)) (.slice (some ⟨gL2, 0, none⟩) (m' + 1) (m' + 1 + 1))) (p := w.heap.size + 1 + 1 + 1) (a := (.int .i64 0)) (b := (.slice none 0 0)) (c := .slice none 0 0) (d := .slice none 0 0)).trans (set4_size (X := wc) (p := w.heap.size + 1 + 1) (a := (.int .i64 s.width)) (b := (.bool s.cut)) (c := (.slice (some ⟨gP2, 0, none⟩) m' (m' + 1))) (d := (.slice (some ⟨gL2, 0, none⟩) (m' + 1) (m' + 1 + 1))))
                have hzk : ∀ K : Nat → Prop, ¬ K (w.heap.size + 1 + 1) → ¬ K (w.heap.size + 1 + 1 + 1) → Agree K wc (set4 (set4 wc (w.heap.size + 1 + 1) (.int .i64 s.width) (.bool s.cut) (.slice (some ⟨gP2, 0, none⟩) m' (m' + 1)) (.slice (some ⟨gL2, 0, none⟩) (m' + 1) (m' + 1 + 1))) (w.heap.size + 1 + 1 + 1) (.int .i64 0) (.slice none 0 0) (.slice none 0 0) (.slice none 0 0)) := fun K h1 h2 => (set4_agree h1).trans (set4_agree h2)
                have y0 := hz22.cell 0
                have y1 := hz22.cell 1
                have y2 := hz22.cell 2
                have y3 := hz22.cell 3
                have z0 := hz3.cell 0
                have z1 := hz3.cell 1
                have z2 := hz3.cell 2
                have z3 := hz3.cell 3
                simp only [List.getElem?_toArray, List.getElem?_cons_zero, List.getElem?_cons_succ] at y0 y1 y2 y3 z0 z1 z2 z3
                unfold set4 at y0 y1 y2 y3 z0 z1 z2 z3
                clear hz2 hz3 hz22 m3z hne23
                replace hzb := hide hzb
                replace hzs := hide (Nat.le_of_eq hzs.symm)
                replace hzk := hide hzk
                repeat' (first | go_values | go_skip | go_guarded | go_step | go_upon)
                try simp only [Exit.inBlock, Exit.then]
                refine bodyPost_ret (v := .tuple #[.agg #[(.int .i64 s.width), (.bool s.cut), (.slice (some ⟨gP2, 0, none⟩) m' (m' + 1)), (.slice (some ⟨gL2, 0, none⟩) (m' + 1) (m' + 1 + 1))], .agg #[(.int .i64 0), (.slice none 0 0), .slice none 0 0, .slice none 0 0]]) (by simp [results, Tryz.results17, go_sem, y0, y1, y2, y3, z0, z1, z2, z3]) rfl ?_
                rw [hres.out]
                exact ⟨_, _, rfl, ⟨_, _, rfl, hPz.out.keep (hag.mono (fun b h => h.1) |>.trans (hzk.out _ (fun h => by have := h.2.2; omega) (fun h => by have := h.2.2; omega))) (fun b hb => ⟨.inr (by have := hb.2.2; omega), Nat.lt_of_lt_of_le (Nat.lt_of_lt_of_le hb.2.1 hXz) hzs.out⟩), hLz.out.keep (hag.mono (fun b h => h.1) |>.trans (hzk.out _ (fun h => by have := h.2.2; omega) (fun h => by have := h.2.2; omega))) (fun b hb => ⟨.inr (by have := hb.2.2; omega), Nat.lt_of_lt_of_le (Nat.lt_of_lt_of_le hb.2.1 hXz) hzs.out⟩)⟩, IntS.nil _ _ _ _, hzb.out⟩
            --} 12
          | cons t r =>
            have hrb : (((r.length + 1 : Nat) : Int) == 0) = false := by rw [beq_eq_false_iff_ne]; omega
            have hpl : s.left.length = s.path.length + 1 := rightW_len hr.out hl0n.out
            have hpm : s.path.length = m := by have := hm.out; omega
            replace hpl := hide hpl
            obtain ⟨ii, hii, hi1, hi2, hi3⟩ := info_parts infoI10
            rw [List.length_cons] at hgj2 kjl
            have krow := kj
            have kj0 : X5.cell? ⟨gj, 0, none⟩ = some (.int .i64 t) := kj.cell 0
            replace krow := hide krow
            have hpl32 : s.path.length ≤ 1000000000 := hs1
            replace hpm := hide hpm
            clear kj
            go_upto_region 18 with fail
            go_cut [10] (fun s10 wz => OwnI wz X5.heap.size s10 (s.path ++ [t]) ∧ Below X5.heap.size X5 wz)
            case first =>
            --[ 14 longer
              refine wp_region_rel (Lng30 (w.heap.size + 1) gP2 gL2 gj m (m + 1) (r.length + 1) s.path t X5.heap.size) (fun W => Below X5.heap.size X5 W) (Lng30St X5.heap.size) lng30D (by kernel_rfl) (by kernel_rfl) (by kernel_rfl) lng30_end lng30K (by kernel_rfl) lng30_cg lng30_keep (Below.refl _ _).drew ?hstep ?hend
              case hstep =>
                intro i o ho vs W hS hd
                have sW := hS.size
                have c3 := (hS.cell (p := ⟨w.heap.size + 1, 2, none⟩) x1.lt).trans r3
                have c4 := (hS.cell (p := ⟨w.heap.size + 1, 3, none⟩) x1.lt).trans r4
                have cj := (hS.cell (p := ⟨gL2, m, none⟩) xL.lt).trans kjl
                have ct := (hS.cell (p := ⟨gj, 0, none⟩) krow.out.lt).trans kj0
                have hW := Below.refl W.heap.size W
                replace hmi := hide hmi
                clear r0 r1 r2 r3 r4 kjl kj0
                match i, ho with
                | 0, ho =>
                  simp only [List.getElem?_cons_zero, List.getElem?_cons_succ, Option.some.injEq] at ho
                  subst ho
                  simp only [acV, List.getElem?_toArray, List.getElem?_cons_zero, List.getElem?_cons_succ, Act.put, List.setIfInBounds_toArray, List.set_cons_zero, List.set_cons_succ]
                  go_wp2
                  exact ⟨rfl, _, rfl, rfl, hS, hW⟩
                | 1, ho =>
                  have d0 := hd 0 (by simp [lng30D])
                  simp only [Lng30] at d0
                  simp only [List.getElem?_cons_zero, List.getElem?_cons_succ, Option.some.injEq] at ho
                  subst ho
                  simp only [acV, List.getElem?_toArray, List.getElem?_cons_zero, List.getElem?_cons_succ, Act.put, List.setIfInBounds_toArray, List.set_cons_zero, List.set_cons_succ]
                  rw [d0]
                  go_wp2
                  exact ⟨rfl, _, rfl, rfl, hS, hW⟩
                | 2, ho =>
                  have d1 := hd 1 (by simp [lng30D])
                  simp only [Lng30] at d1
                  simp only [List.getElem?_cons_zero, List.getElem?_cons_succ, Option.some.injEq] at ho
                  subst ho
                  simp only [acV, List.getElem?_toArray, List.getElem?_cons_zero, List.getElem?_cons_succ, Act.put, List.setIfInBounds_toArray, List.set_cons_zero, List.set_cons_succ]
                  rw [d1]
                  go_wp2_with fail
                  refine (clone30_any _ _ s.path (fun b => b = gP2) W (by rintro b rfl; exact Nat.lt_of_lt_of_le xP.lt sW) (intB_sl (xP.below hS xP.lt) rfl) hs1).mono ?_
                  rintro e W2 ⟨v2, rfl, hO2, hb2⟩
                  go_wp2
                  exact ⟨rfl, _, rfl, own_base' hO2 sW, hS.trans (hb2.mono sW), hb2⟩
                | 3, ho =>
                  simp only [List.getElem?_cons_zero, List.getElem?_cons_succ, Option.some.injEq] at ho
                  subst ho
                  simp only [acV, List.getElem?_toArray, List.getElem?_cons_zero, List.getElem?_cons_succ, Act.put, List.setIfInBounds_toArray, List.set_cons_zero, List.set_cons_succ]
                  go_wp2
                  exact ⟨rfl, _, rfl, rfl, hS, hW⟩
                | 4, ho =>
                  have d0 := hd 3 (by simp [lng30D])
                  simp only [Lng30] at d0
                  simp only [List.getElem?_cons_zero, List.getElem?_cons_succ, Option.some.injEq] at ho
                  subst ho
                  simp only [acV, List.getElem?_toArray, List.getElem?_cons_zero, List.getElem?_cons_succ, Act.put, List.setIfInBounds_toArray, List.set_cons_zero, List.set_cons_succ]
                  rw [d0]
                  go_wp2
                  exact ⟨rfl, _, rfl, rfl, hS, hW⟩
                | 5, ho =>
                  simp only [List.getElem?_cons_zero, List.getElem?_cons_succ, Option.some.injEq] at ho
                  subst ho
                  simp only [acV, List.getElem?_toArray, List.getElem?_cons_zero, List.getElem?_cons_succ, Act.put, List.setIfInBounds_toArray, List.set_cons_zero, List.set_cons_succ]
                  go_wp2
                  exact ⟨rfl, .int .i64 (m : Int), rfl, rfl, hS, hW⟩
                | 6, ho =>
                  have d4 := hd 4 (by simp [lng30D])
                  have d5 := hd 5 (by simp [lng30D])
                  simp only [Lng30] at d4 d5
                  simp only [List.getElem?_cons_zero, List.getElem?_cons_succ, Option.some.injEq] at ho
                  subst ho
                  simp only [acV, List.getElem?_toArray, List.getElem?_cons_zero, List.getElem?_cons_succ, Act.put, List.setIfInBounds_toArray, List.set_cons_zero, List.set_cons_succ]
                  rw [d4, d5]
                  have hlt : (m : Int) < ((m + 1 : Nat) : Int) := by omega
                  go_wp2
                  exact ⟨rfl, .pointer (some ⟨gL2, m, none⟩), rfl, rfl, hS, hW⟩
                | 7, ho =>
                  have d6 := hd 6 (by simp [lng30D])
                  simp only [Lng30] at d6
                  simp only [List.getElem?_cons_zero, List.getElem?_cons_succ, Option.some.injEq] at ho
                  subst ho
                  simp only [acV, List.getElem?_toArray, List.getElem?_cons_zero, List.getElem?_cons_succ, Act.put, List.setIfInBounds_toArray, List.set_cons_zero, List.set_cons_succ]
                  rw [d6]
                  go_wp2
                  exact ⟨rfl, _, rfl, rfl, hS, hW⟩
                | 8, ho =>
                  have d7 := hd 7 (by simp [lng30D])
                  simp only [Lng30] at d7
                  simp only [List.getElem?_cons_zero, List.getElem?_cons_succ, Option.some.injEq] at ho
                  subst ho
                  simp only [acV, List.getElem?_toArray, List.getElem?_cons_zero, List.getElem?_cons_succ, Act.put, List.setIfInBounds_toArray, List.set_cons_zero, List.set_cons_succ]
                  rw [d7]
                  go_wp2
                  exact ⟨rfl, .pointer (some ⟨gj, 0, none⟩), rfl, rfl, hS, hW⟩
                | 9, ho =>
                  have d8 := hd 8 (by simp [lng30D])
                  simp only [Lng30] at d8
                  simp only [List.getElem?_cons_zero, List.getElem?_cons_succ, Option.some.injEq] at ho
                  subst ho
                  simp only [acV, List.getElem?_toArray, List.getElem?_cons_zero, List.getElem?_cons_succ, Act.put, List.setIfInBounds_toArray, List.set_cons_zero, List.set_cons_succ]
                  rw [d8]
                  go_wp2
                  exact ⟨rfl, _, rfl, rfl, hS, hW⟩
                | 10, ho =>
                  have d9 := hd 9 (by simp [lng30D])
                  simp only [Lng30] at d9
                  simp only [List.getElem?_cons_zero, List.getElem?_cons_succ, Option.some.injEq] at ho
                  subst ho
                  simp only [acV, List.getElem?_toArray, List.getElem?_cons_zero, List.getElem?_cons_succ, Act.put, List.setIfInBounds_toArray, List.set_cons_zero, List.set_cons_succ]
                  rw [d9]
                  go_wp2
                  exact ⟨rfl, _, rfl, ⟨W.heap.size, sW, rfl, Blk.new _ _ _⟩, hS.alloc sW _, hW.alloc (Nat.le_refl _) _⟩
                | 11, ho =>
                  have d2 := hd 2 (by simp [lng30D])
                  obtain ⟨g, hg, d10, k10⟩ := hd 10 (by simp [lng30D])
                  simp only [Lng30] at d2
                  obtain ⟨A2, c2, e2⟩ := OwnI.form d2
                  simp only [List.getElem?_cons_zero, List.getElem?_cons_succ, Option.some.injEq] at ho
                  subst ho
                  simp only [acV, List.getElem?_toArray, List.getElem?_cons_zero, List.getElem?_cons_succ, Act.put, List.setIfInBounds_toArray, List.set_cons_zero, List.set_cons_succ]
                  rw [e2] at d2 ⊢
                  rw [d10]
                  refine wpList_append_flat (enc := Go.Inq.encI) rfl (.tmp 109) (.tmp 117) 27 rfl X5.heap.size 3 ii _ 1 8 Tryz.underlying27 hii hi1 hi2 hi3 rfl (by decide) _ (fun b => b = g) s.path rfl d2 (fun _ => rfl) _ [t] rfl (SlR.one k10 rfl rfl rfl) Go.Inq.encI_one (by unfold maxLen; simp; omega) (by simp; omega) sW ?_
                  intro v' w' hO hg' hat
                  go_wp2
                  exact ⟨rfl, _, rfl, hO, below_grown hS hg' sW (fun k hk => (d2.lt k hk).1), below_grown (Below.refl _ _) hg' sW (fun k hk => (d2.lt k hk).1)⟩
                | 12, ho =>
                  simp only [List.getElem?_cons_zero, List.getElem?_cons_succ, Option.some.injEq] at ho
                  subst ho
                  simp only [acV, List.getElem?_toArray, List.getElem?_cons_zero, List.getElem?_cons_succ, Act.put, List.setIfInBounds_toArray, List.set_cons_zero, List.set_cons_succ]
                  go_wp2
                  exact ⟨rfl, vs 11, rfl, rfl, hS, hW⟩
                | n + 13, ho => simp at ho
              case hend =>
                rintro vs W hb hd
                have d11 := hd 11 (by simp) (by intro i _; unfold lng30K; split <;> simp)
                have d12 := hd 12 (by simp) (by intro i _; unfold lng30K; split <;> simp)
                simp only [Lng30] at d11 d12
                simp only [acV, List.getElem?_toArray, List.getElem?_cons_zero, List.getElem?_cons_succ, Act.put, List.setIfInBounds_toArray, List.set_cons_zero, List.set_cons_succ, List.length_cons, List.length_nil, Nat.reduceAdd]
                rw [d12]
                go_wp2_with fail
                go_meet
                exact ⟨d11, hb⟩
            --] 14
            case rest =>
              obtain ⟨hO10, hb6⟩ := hcut
              obtain ⟨A10, c10, e10⟩ := OwnI.form hO10
              rw [List.length_append, List.length_cons, List.length_nil, Nat.zero_add] at e10
              subst e10
              obtain ⟨X6, hX6⟩ : ∃ X6, X6 = wc := ⟨_, rfl⟩
              subst hX6
              have hs6 := hb6.size
              have m0 := x0.below hb6 x0.lt
              have m1 := x1.below hb6 x1.lt
              have m2 := x2.below hb6 x2.lt
              have m3 := x3.below hb6 x3.lt
              have mL := xL.below hb6 xL.lt
              have hb := hbX.trans (hb6.mono hsX)
              have xPl := xP.lt
              have xLl := xL.lt
              have x1l := x1.lt
              have x0l := x0.lt
              have kjX := krow.out
              have kjl2 := kjX.lt
              have kj6 := hide (kjX.below hb6 kjX.lt)
              have hneL : gj ≠ gL2 := by rintro rfl; have := kjX.symm.trans xL; simp at this
              have hc3 := (hb6.cell (p := ⟨w.heap.size + 1, 3, none⟩) x1l).trans r4
              have hcj := (hb6.cell (p := ⟨gL2, m, none⟩) xLl).trans kjl
              have hfj := mL.frozen m
              have hdr : Hid ((t :: r).drop 1 = r) := hide rfl
              clear r0 r1 r2 r3 r4 kjl kj0 kjX
              replace krow := hide krow
              go_upto_region 19 with fail
              go_cut [] (fun wz => (∃ Ar, Blk wz gL2 27 (cur2.setIfInBounds m (.slice Ar r.length r.length)) ∧ (Ar = some ⟨gj, 1, none⟩ ∨ r = [])) ∧ Agree (fun b => b ≠ gL2) X6 wz ∧ Below w.heap.size X6 wz ∧ X6.heap.size ≤ wz.heap.size)
              case first =>
              --[ 16 cut1
                have hq := mL.set_ m (.slice (some ⟨gj, 0, none⟩) 0 0)
                cases r with
                | nil =>
                  go_region
                  go_wp2_with fail
                  go_meet
                  exact ⟨⟨some ⟨gj, 0, none⟩, (mL.set_ m (.slice (some ⟨gj, 0, none⟩) 0 0)).drew, by simp⟩, (Agree.setCell ⟨gL2, m, none⟩ (fun h => h rfl) _).trans (Agree.drew _ _), ((Below.refl _ _).setCell (p := ⟨gL2, m, none⟩) (by simp; omega) _).drew, by simp⟩
                | cons t2 r2 =>
                  go_region
                  go_wp2_with fail
                  go_meet
                  exact ⟨⟨some ⟨gj, 1, none⟩, (mL.set_ m (.slice (some ⟨gj, 1, none⟩) (r2.length + 1) (r2.length + 1))).drew, .inl rfl⟩, (Agree.setCell ⟨gL2, m, none⟩ (fun h => h rfl) _).trans (Agree.drew _ _), ((Below.refl _ _).setCell (p := ⟨gL2, m, none⟩) (by simp; omega) _).drew, by simp⟩
              --] 16
              case rest =>
                obtain ⟨⟨Ar, yL, hAr⟩, hag, hbw, hXw⟩ := hcut
                obtain ⟨X7, hX7⟩ : ∃ X7, X7 = wc := ⟨_, rfl⟩
                subst hX7
                have y0 := m0.agree hag (show w.heap.size ≠ gL2 by omega)
                have y1 := m1.agree hag (show w.heap.size + 1 ≠ gL2 by omega)
                have y2 := m2.agree hag (show w.heap.size + 1 + 1 ≠ gL2 by omega)
                have y3 := m3.agree hag (show w.heap.size + 1 + 1 + 1 ≠ gL2 by omega)
                have hb7 := hb.trans hbw
                have hneP : gP2 ≠ gL2 := by rintro rfl; have := xP.symm.trans xL; simp at this
                have yP := (xP.below hb6 xPl).agree hag hneP
                have yj := hide (kj6.out.agree hag hneL)
                have hO7 := own_agree hO10 hag (fun g hg => show g ≠ gL2 by omega)
                have hrow7 : Hid (IntS X7 (fun b => b = gj) (.slice Ar r.length r.length) r) := hide (by
                  rcases hAr with rfl | rfl
                  · by_cases hr0 : r = []
                    · subst hr0; exact IntS.nil _ _ _ _
                    · have h1 := SlR.drop (k := 1) (intB_sl (K := fun b => b = gj) yj.out rfl) (by simp)
                      rw [if_neg (by have := List.length_pos_iff.2 hr0; simp; omega)] at h1
                      simp [Addr.add] at h1
                      exact h1
                  · exact IntS.nil _ _ _ _)
                have hlen7 : (s.left.dropLast ++ [r]).length = s.left.length := by have := hm.out; simp; omega
                have hrows7 := hide (rows_own (K := fun b => b < X7.heap.size ∧ w3.heap.size ≤ b ∧ b ≠ gL2) (B := w.heap.size) (left := s.left.dropLast ++ [r]) yL (by rw [hlen7]; simp; exact hcur2) (by omega) (by rw [hlen7]; unfold maxLen; omega) (fun j hj => by
                  rw [hlen7] at hj
                  by_cases hjm : j = m
                  · subst hjm
                    refine ⟨_, by rw [Array.getElem?_setIfInBounds_self_of_lt (by omega)], ?_⟩
                    have e1 : (s.left.dropLast ++ [r])[j]'(by rw [hlen7]; exact hj) = r := by
                      rw [List.getElem_append_right (by have := hm.out; simp; omega)]
                      simp
                    rw [e1]
                    exact hrow7.out.fit (fun b hb => by rw [hb]; have := yj.out.lt; exact ⟨this, hgj1, hneL⟩)
                  · obtain ⟨gk, h1, h2, h3⟩ := xrows.out j hj
                    have hnk : gk ≠ gL2 := by rintro rfl; have := h3.symm.trans xL; simp at this
                    refine ⟨_, by rw [Array.getElem?_setIfInBounds_ne (by omega)]; exact h2, ?_⟩
                    have e1 : (s.left.dropLast ++ [r])[j]'(by rw [hlen7]; exact hj) = s.left[j] := by
                      rw [List.getElem_append_left (by have := hm.out; simp; omega)]
                      simp
                    rw [e1]
                    have h4 := (h3.below hb6 h3.lt).agree hag hnk
                    exact intB_sl h4 ⟨h4.lt, h1, hnk⟩))
                rw [hlen7] at hrows7
                clear m0 m1 m2 m3 mL kj6 yj hrow7 hO10 hag hcur2
                have hTX7 := hide (h.below hb7)
                have hTB7 := hTB.below hb7
                have hP10 := hide (OwnI.sl (K := fun b => X5.heap.size ≤ b ∧ b < X7.heap.size) hO7 (fun g h1 h2 => ⟨h1, h2⟩))
                have hdcr := hide (rightC_dec hrH.out (s.path ++ [t]))
                have h32 : H.length ≤ 32 := ((rightH_iff H).1 hrH.out).1
                have y0l := y0.lt
                have y3l := y3.lt
                go_upto_region 20 with fail
                go_cut [11, 12] (fun s11 s12 wz => (∃ g gr, s11 = .pointer (some ⟨g, 0, none⟩) ∧ X7.heap.size ≤ g ∧ Blk wz g 56 #[.int .i64 H.length, .slice (some ⟨gr, 0, none⟩) H.length H.length] ∧ X7.heap.size ≤ gr ∧ Blk wz gr 145 (rowsB H.length (fullE H level (decW H (s.path ++ [t]))))) ∧ s12 = .int .i64 0 ∧ Below X7.heap.size X7 wz)
                case first =>
                --[ 18 full
                  refine wp_region_rel (Ful30 H A c level (.slice A10 (s.path.length + 1) c10) (decW H (s.path ++ [t])) (fullE H level (decW H (s.path ++ [t]))) X7.heap.size) (fun W => Below X7.heap.size X7 W) (Ful30St X7.heap.size) ful30D (by kernel_rfl) (by kernel_rfl) (by kernel_rfl) ful30_end (fun _ => []) (by kernel_rfl) ful30_cg ful30_keep (Below.refl _ _).drew ?hstep ?hend
                  case hstep =>
                    intro i o ho vs W hS hd
                    have sW := hS.size
                    have hT := hTX7.out.below hS
                    have hW := Below.refl W.heap.size W
                    match i, ho with
                    | 0, ho | 2, ho =>
                      have c0 := (hS.cell (p := ⟨w.heap.size, 0, none⟩) y0l).trans (y0.cell 0)
                      simp only [List.getElem?_toArray, List.getElem?_cons_zero, List.getElem?_cons_succ] at c0
                      simp only [List.getElem?_cons_zero, List.getElem?_cons_succ, Option.some.injEq] at ho
                      subst ho
                      simp only [acV, List.getElem?_toArray, List.getElem?_cons_zero, List.getElem?_cons_succ, Act.put, List.setIfInBounds_toArray, List.set_cons_zero, List.set_cons_succ]
                      go_wp2
                      exact ⟨rfl, .agg #[.slice A H.length c], rfl, rfl, hS, hW⟩
                    | 1, ho | 3, ho =>
                      simp only [List.getElem?_cons_zero, List.getElem?_cons_succ, Option.some.injEq] at ho
                      subst ho
                      simp only [acV, List.getElem?_toArray, List.getElem?_cons_zero, List.getElem?_cons_succ, Act.put, List.setIfInBounds_toArray, List.set_cons_zero, List.set_cons_succ]
                      go_wp2
                      exact ⟨rfl, _, rfl, rfl, hS, hW⟩
                    | 4, ho =>
                      have d2 := hd 2 (by simp [ful30D])
                      have d3 := hd 3 (by simp [ful30D])
                      simp only [Ful30] at d2 d3
                      have hdc := dec30_any A c H A10 c10 (s.path ++ [t]) W hT hn.out hrH.out (by
                        have := hP10.out.keep (K' := Old W) (Agree.below hS fun b hb => hb.2) (fun b hb => Nat.lt_of_lt_of_le hb.2 sW)
                        simpa using this) (by simp; omega)
                      rw [List.length_append, List.length_cons, List.length_nil, Nat.zero_add] at hdc
                      simp only [List.getElem?_cons_zero, List.getElem?_cons_succ, Option.some.injEq] at ho
                      subst ho
                      simp only [acV, List.getElem?_toArray, List.getElem?_cons_zero, List.getElem?_cons_succ, Act.put, List.setIfInBounds_toArray, List.set_cons_zero, List.set_cons_succ]
                      rw [d2, d3]
                      go_wp2_with fail
                      refine hdc.mono ?_
                      rintro e W2 ⟨v2, rfl, hO2, hb2⟩
                      go_wp2
                      exact ⟨rfl, _, rfl, own_base' hO2 sW, hS.trans (hb2.mono sW), hb2⟩
                    | 5, ho =>
                      have d0 := hd 0 (by simp [ful30D])
                      have d1 := hd 1 (by simp [ful30D])
                      have d4 := hd 4 (by simp [ful30D])
                      simp only [Ful30] at d0 d1 d4
                      obtain ⟨A4, c4, e4⟩ := OwnC.form d4
                      rw [e4] at d4
                      have hfc := full18_any A c H level A4 c4 _ W hT hn.out (OwnC.sl d4 (K := Old W) (fun g _ h => h)) hdcr.out hlev.out (hTB7.below hS)
                      simp only [List.getElem?_cons_zero, List.getElem?_cons_succ, Option.some.injEq] at ho
                      subst ho
                      simp only [acV, List.getElem?_toArray, List.getElem?_cons_zero, List.getElem?_cons_succ, Act.put, List.setIfInBounds_toArray, List.set_cons_zero, List.set_cons_succ]
                      rw [d0, d1, e4]
                      go_wp2_with fail
                      refine hfc.mono ?_
                      rintro e W2 ⟨g, hg, rfl, kR, hb2⟩
                      go_wp2
                      exact ⟨rfl, _, rfl, ⟨_, rfl, g, Nat.le_trans sW hg, rfl, kR⟩, hS.trans (hb2.mono sW), hb2⟩
                    | 6, ho =>
                      obtain ⟨u, d5, q5⟩ := hd 5 (by simp [ful30D])
                      simp only [List.getElem?_cons_zero, List.getElem?_cons_succ, Option.some.injEq] at ho
                      subst ho
                      simp only [acV, List.getElem?_toArray, List.getElem?_cons_zero, List.getElem?_cons_succ, Act.put, List.setIfInBounds_toArray, List.set_cons_zero, List.set_cons_succ]
                      rw [d5]
                      go_wp2
                      exact ⟨rfl, _, rfl, ⟨_, rfl, q5⟩, hS, hW⟩
                    | 7, ho =>
                      obtain ⟨u, d5, q5⟩ := hd 6 (by simp [ful30D])
                      simp only [List.getElem?_cons_zero, List.getElem?_cons_succ, Option.some.injEq] at ho
                      subst ho
                      simp only [acV, List.getElem?_toArray, List.getElem?_cons_zero, List.getElem?_cons_succ, Act.put, List.setIfInBounds_toArray, List.set_cons_zero, List.set_cons_succ]
                      rw [d5]
                      go_wp2
                      exact ⟨rfl, _, rfl, q5, hS, hW⟩
                    | 8, ho =>
                      obtain ⟨u, d5, q5⟩ := hd 6 (by simp [ful30D])
                      simp only [List.getElem?_cons_zero, List.getElem?_cons_succ, Option.some.injEq] at ho
                      subst ho
                      simp only [acV, List.getElem?_toArray, List.getElem?_cons_zero, List.getElem?_cons_succ, Act.put, List.setIfInBounds_toArray, List.set_cons_zero, List.set_cons_succ]
                      rw [d5]
                      go_wp2
                      exact ⟨rfl, _, rfl, rfl, hS, hW⟩
                    | 9, ho =>
                      simp only [List.getElem?_cons_zero, List.getElem?_cons_succ, Option.some.injEq] at ho
                      subst ho
                      simp only [acV, List.getElem?_toArray, List.getElem?_cons_zero, List.getElem?_cons_succ, Act.put, List.setIfInBounds_toArray, List.set_cons_zero, List.set_cons_succ]
                      go_wp2
                      exact ⟨rfl, _, rfl, ⟨W.heap.size, sW, rfl, _, _, Blk.new _ _ _⟩, hS.alloc sW _, hW.alloc (Nat.le_refl _) _⟩
                    | 10, ho =>
                      obtain ⟨g, hg, d7, x, y, q7⟩ := hd 9 (by simp [ful30D])
                      obtain ⟨g6, hg6, d6, q6⟩ := hd 7 (by simp [ful30D])
                      simp only [List.getElem?_cons_zero, List.getElem?_cons_succ, Option.some.injEq] at ho
                      subst ho
                      simp only [acV, List.getElem?_toArray, List.getElem?_cons_zero, List.getElem?_cons_succ, Act.put, List.setIfInBounds_toArray, List.set_cons_zero, List.set_cons_succ]
                      rw [d7, d6]
                      have c0 := q7.cell 0
                      have c1 := q7.cell 1
                      have f0 := q7.frozen 0
                      have f1 := q7.frozen 1
                      simp only [List.getElem?_toArray, List.getElem?_cons_zero, List.getElem?_cons_succ] at c0 c1
                      go_wp2
                      have hq := (q7.set_ 0 (.int .i64 H.length)).set_ 1 (.slice (some ⟨g6, 0, none⟩) H.length H.length)
                      refine ⟨rfl, undef, rfl, ⟨g, _, _, (show updV vs 10 undef 9 = _ from d7), hg, (show updV vs 10 undef 7 = _ from d6), by simpa using hq⟩, (hS.setCell (p := ⟨g, 0, none⟩) hg _).setCell (p := ⟨g, 1, none⟩) hg _, ?_⟩
                      unfold Ful30St
                      rw [if_pos rfl]
                      refine ⟨⟨rfl, rfl, rfl, by simp⟩, fun k hk => ?_⟩
                      by_cases e : k = g
                      · subst e
                        exact .inr ⟨hg, _, _, q7, hq, by simp⟩
                      · exact .inl ((Below.heap_setCell _ ⟨g, 1, none⟩ _ k e).trans (Below.heap_setCell _ ⟨g, 0, none⟩ _ k e))
                    | 11, ho =>
                      have d8 := hd 8 (by simp [ful30D])
                      simp only [Ful30] at d8
                      simp only [List.getElem?_cons_zero, List.getElem?_cons_succ, Option.some.injEq] at ho
                      subst ho
                      simp only [acV, List.getElem?_toArray, List.getElem?_cons_zero, List.getElem?_cons_succ, Act.put, List.setIfInBounds_toArray, List.set_cons_zero, List.set_cons_succ]
                      rw [d8]
                      go_wp2
                      exact ⟨rfl, _, rfl, rfl, hS, hW⟩
                    | n + 12, ho => simp at ho
                  case hend =>
                    rintro vs W hb8 hd
                    obtain ⟨g, x, y, d9, hg, d7, q9⟩ := hd 10 (by simp) (by simp)
                    obtain ⟨g6, hg6, d7', q6⟩ := hd 7 (by simp) (by simp)
                    have d11 := hd 11 (by simp) (by simp)
                    simp only [Ful30] at d11
                    rw [d7] at d7'
                    injection d7' with d7'
                    simp only [Array.mk.injEq, List.cons.injEq, and_true] at d7'
                    obtain ⟨rfl, rfl⟩ := d7'
                    clear hd
                    simp only [acV, List.getElem?_toArray, List.getElem?_cons_zero, List.getElem?_cons_succ, Act.put, List.setIfInBounds_toArray, List.set_cons_zero, List.set_cons_succ, List.length_cons, List.length_nil, Nat.reduceAdd]
                    rw [d9, d11]
                    go_wp2_with fail
                    go_meet
                    exact ⟨⟨g, g6, rfl, hg, q9, hg6, q6⟩, rfl, hb8⟩
                --] 18
                case rest =>
                  obtain ⟨⟨g, gr, rfl, hg, kG, hgr, kR⟩, rfl, hb8⟩ := hcut
                  obtain ⟨X8, hX8⟩ : ∃ X8, X8 = wc := ⟨_, rfl⟩
                  subst hX8
                  have hs8 := hb8.size
                  have z0 := y0.below hb8 y0.lt
                  have z1 := y1.below hb8 y1.lt
                  have z2 := y2.below hb8 y2.lt
                  have z3 := y3.below hb8 y3.lt
                  have zP := hide (yP.below hb8 yP.lt)
                  have yPl := yP.lt
                  have zL := yL.below hb8 yL.lt
                  have yLl := yL.lt
                  have hb9 := hb7.trans (hb8.mono hb7.size)
                  have hO8 := own_below hO7 hb8 (Nat.le_refl _)
                  have hrows8 := hide (OwnR.keep RowR.stab hrows7.out (K' := fun b => b < X8.heap.size ∧ w3.heap.size ≤ b ∧ b ≠ gL2) (Agree.below hb8 fun b hb => hb.1) (fun b hb => ⟨Nat.lt_of_lt_of_le hb.1 hs8, hb.2⟩) (fun b hb => hb8.block b (by simp [Value.ownBlock] at hb; omega)))
                  have hTX8 := hide (h.below hb9)
                  have hTB8 := hTB.below hb9
                  have hord := hide (order16_any H.length (some ⟨gr, 0, none⟩) H.length (fullE H level (decW H (s.path ++ [t]))) (Old X8) X8 (GrS.of_blk kR kR.lt (by omega)) (fun b h => h) hTB8)
                  have hresM : Hid (stepM H level s = match orderT H.length (fullE H level (decW H (s.path ++ [t]))) with
                    | none => ({ s with left := s.left.dropLast ++ [r] }, 0, [])
                    | some o => if (s.path ++ [t]).length = H.length then ({ s with left := s.left.dropLast ++ [r] }, 1, o.map fun (x : Nat) => (x : Int)) else (putW H { s with left := s.left.dropLast ++ [r], path := s.path ++ [t] }, 0, [])) := hide (by unfold stepM; rw [hlast.out])
                  rw [hresM.out] at hres0
                  clear hresM y0 y1 y2 y3 yP yL hO7 hrows7 hTX7 hTB7 hP10 hdcr hb7 hb8 kR x0 x1 x2 x3 x4 xP xL xrows hbX hb6 hb hbw hTX hwasX hAr
                  have g0 := kG.cell 0
                  have g1 := kG.cell 1
                  simp only [List.getElem?_toArray, List.getElem?_cons_zero, List.getElem?_cons_succ] at g0 g1
                  go_upto_region 21 with fail
                  go_wp2_with fail
                  refine hord.out.mono ?_
                  intro e X9 ho9
                  clear hord g0 g1 kG
                  obtain ⟨hoM, hb10⟩ := ho9
                  have hs10 := hb10.size
                  have m0 := z0.below hb10 z0.lt
                  have m1 := z1.below hb10 z1.lt
                  have m2 := z2.below hb10 z2.lt
                  have m3 := z3.below hb10 z3.lt
                  have hb := hb9.trans (hb10.mono hb9.size)
                  have hTX9 := hide (h.below hb)
                  have z3l := z3.lt
                  clear z0 z1 z2 z3 hTX8
                  have hrowsO := hrows8
                  replace hrows8 := hide (OwnR.sl (K := fun b => b < X8.heap.size ∧ w3.heap.size ≤ b) (OwnR.keep RowR.stab hrows8.out (K' := fun b => b < X8.heap.size ∧ w3.heap.size ≤ b) (Agree.refl _ _) (fun b hb => ⟨hb.1, hb.2.1⟩) (fun b hb => rfl)) (fun g hg => by simp [Value.ownBlock] at hg; subst hg; exact ⟨zL.lt, hlL⟩))
                  generalize hOo : orderT H.length (fullE H level (decW H (s.path ++ [t]))) = oo at *
                  clear hOo
                  cases oo with
                  | none =>
                    dsimp only at hres0 hoM
                    subst hoM
                    replace hres := hres0
                    have e01 := (m1).cell 0
                    have e11 := (m1).cell 1
                    have e21 := (m1).cell 2
                    have e31 := (m1).cell 3
                    have f01 := (m1).frozen 0
                    have f11 := (m1).frozen 1
                    have f21 := (m1).frozen 2
                    have f31 := (m1).frozen 3
                    simp only [List.getElem?_toArray, List.getElem?_cons_zero, List.getElem?_cons_succ] at e01 e11 e21 e31
                    have e02 := (m2).cell 0
                    have e12 := (m2).cell 1
                    have e22 := (m2).cell 2
                    have e32 := (m2).cell 3
                    have f02 := (m2).frozen 0
                    have f12 := (m2).frozen 1
                    have f22 := (m2).frozen 2
                    have f32 := (m2).frozen 3
                    simp only [List.getElem?_toArray, List.getElem?_cons_zero, List.getElem?_cons_succ] at e02 e12 e22 e32
                    have e03 := (m3).cell 0
                    have e13 := (m3).cell 1
                    have e23 := (m3).cell 2
                    have e33 := (m3).cell 3
                    have f03 := (m3).frozen 0
                    have f13 := (m3).frozen 1
                    have f23 := (m3).frozen 2
                    have f33 := (m3).frozen 3
                    simp only [List.getElem?_toArray, List.getElem?_cons_zero, List.getElem?_cons_succ] at e03 e13 e23 e33
                    go_upto_region 27 with fail
                    have hz2 := set4_blk (a := (.int .i64 s.width)) (b := (.bool s.cut)) (c := (.slice (some ⟨gP2, 0, none⟩) s.path.length s.path.length)) (d := (.slice (some ⟨gL2, 0, none⟩) s.left.length s.left.length)) m2
                    have hne23 : w.heap.size + 1 + 1 ≠ w.heap.size + 1 + 1 + 1 := by omega
                    have m3z := set4_far (a := (.int .i64 s.width)) (b := (.bool s.cut)) (c := (.slice (some ⟨gP2, 0, none⟩) s.path.length s.path.length)) (d := (.slice (some ⟨gL2, 0, none⟩) s.left.length s.left.length)) m3 (Ne.symm hne23)
                    have hz3 := set4_blk (a := (.int .i64 0)) (b := (.slice none 0 0)) (c := .slice none 0 0) (d := .slice none 0 0) m3z
                    have hz22 := set4_far (a := (.int .i64 0)) (b := (.slice none 0 0)) (c := .slice none 0 0) (d := .slice none 0 0) hz2 hne23
                    have hzb := set4_below (a := (.int .i64 0)) (b := (.slice none 0 0)) (c := .slice none 0 0) (d := .slice none 0 0) (p := w.heap.size + 1 + 1 + 1) (set4_below (a := (.int .i64 s.width)) (b := (.bool s.cut)) (c := (.slice (some ⟨gP2, 0, none⟩) s.path.length s.path.length)) (d := (.slice (some ⟨gL2, 0, none⟩) s.left.length s.left.length)) (p := w.heap.size + 1 + 1) hb (by omega)) (by omega)
                    have hzs := (set4_size (X := set4 X9 (w.heap.size + 1 + 1) (.int .i64 s.width) (.bool s.cut) (.slice (some ⟨gP2, 0, none⟩) s.path.length s.path.length) (.slice (some ⟨gL2, 0, none⟩) s.left.length s.left.length)) (p := w.heap.size + 1 + 1 + 1) (a := (.int .i64 0)) (b := (.slice none 0 0)) (c := .slice none 0 0) (d := .slice none 0 0)).trans (set4_size (X := X9) (p := w.heap.size + 1 + 1) (a := (.int .i64 s.width)) (b := (.bool s.cut)) (c := (.slice (some ⟨gP2, 0, none⟩) s.path.length s.path.length)) (d := (.slice (some ⟨gL2, 0, none⟩) s.left.length s.left.length)))
                    have hzk : ∀ K : Nat → Prop, ¬ K (w.heap.size + 1 + 1) → ¬ K (w.heap.size + 1 + 1 + 1) → Agree K X9 (set4 (set4 X9 (w.heap.size + 1 + 1) (.int .i64 s.width) (.bool s.cut) (.slice (some ⟨gP2, 0, none⟩) s.path.length s.path.length) (.slice (some ⟨gL2, 0, none⟩) s.left.length s.left.length)) (w.heap.size + 1 + 1 + 1) (.int .i64 0) (.slice none 0 0) (.slice none 0 0) (.slice none 0 0)) := fun K h1 h2 => (set4_agree h1).trans (set4_agree h2)
                    have y0 := hz22.cell 0
                    have y1 := hz22.cell 1
                    have y2 := hz22.cell 2
                    have y3 := hz22.cell 3
                    have z0 := hz3.cell 0
                    have z1 := hz3.cell 1
                    have z2 := hz3.cell 2
                    have z3 := hz3.cell 3
                    simp only [List.getElem?_toArray, List.getElem?_cons_zero, List.getElem?_cons_succ] at y0 y1 y2 y3 z0 z1 z2 z3
                    unfold set4 at y0 y1 y2 y3 z0 z1 z2 z3
                    clear hz2 hz3 hz22 m3z hne23
                    replace hzb := hide hzb
                    replace hzs := hide (Nat.le_of_eq hzs.symm)
                    replace hzk := hide hzk
                    repeat' (first | go_values | go_skip | go_guarded | go_step | go_upon)
                    try simp only [Exit.inBlock, Exit.then]
                    refine bodyPost_ret (v := .tuple #[.agg #[(.int .i64 s.width), (.bool s.cut), (.slice (some ⟨gP2, 0, none⟩) s.path.length s.path.length), (.slice (some ⟨gL2, 0, none⟩) s.left.length s.left.length)], .agg #[(.int .i64 0), (.slice none 0 0), .slice none 0 0, .slice none 0 0]]) (by simp [results, Tryz.results17, go_sem, y0, y1, y2, y3, z0, z1, z2, z3]) rfl ?_
                    rw [hres.out]
                    exact ⟨_, _, rfl, ⟨_, _, rfl, IntS.keep (intB_sl (K := fun b => b < X8.heap.size ∧ w3.heap.size ≤ b ∧ b ≠ gL2) zP.out ⟨zP.out.lt, hlP, hneP⟩) ((Agree.below hb10 fun b hb => hb.1).trans (hzk.out _ (fun h => by have := h.2.1; omega) (fun h => by have := h.2.1; omega))) (fun b hb => ⟨.inr (by have := hb.2.1; omega), Nat.lt_of_lt_of_le (Nat.lt_of_lt_of_le hb.1 hs10) hzs.out⟩), RowsS.keep hrows8.out ((Agree.below hb10 fun b hb => hb.1).trans (hzk.out _ (fun h => by have := h.2; omega) (fun h => by have := h.2; omega))) (fun b hb => ⟨.inr (by have := hb.2; omega), Nat.lt_of_lt_of_le (Nat.lt_of_lt_of_le hb.1 hs10) hzs.out⟩)⟩, IntS.nil _ _ _ _, hzb.out⟩
                  | some o =>
                    dsimp only at hres0 hoM
                    obtain ⟨vo, rfl, hvo⟩ := hoM
                    obtain ⟨Ao, co, rfl⟩ := OwnI.form hvo
                    have hvS := hide (OwnI.sl (K := fun b => X8.heap.size ≤ b ∧ b < X9.heap.size) hvo (fun g h1 h2 => ⟨h1, h2⟩))
                    have hin : Hid (o.map (fun (x : Nat) => (x : Int)) = intsN o) := hide rfl
                    rw [hin.out] at hres0
                    clear hvo
                    have c0 := m0.cell 0
                    simp only [List.getElem?_toArray, List.getElem?_cons_zero, List.getElem?_cons_succ] at c0
                    by_cases hlH : (s.path ++ [t]).length = H.length
                    --{ 20 yes
                    · have hq1 : (((s.path.length + 1 : Nat) : Int) == (H.length : Int)) = true := by rw [beq_iff_eq]; simp at hlH; omega
                      have hq2 : ((s.path.length + 1) == H.length) = true := by rw [beq_iff_eq]; simpa using hlH
                      have hq3 : (((s.path.length : Nat) : Int) + 1 == (H.length : Int)) = true := by rw [beq_iff_eq]; simp at hlH; omega
                      rw [if_pos hlH] at hres0
                      replace hlH := hide hlH
                      generalize intsN o = lo at *
                      replace hres := hres0
                      have e01 := (m1).cell 0
                      have e11 := (m1).cell 1
                      have e21 := (m1).cell 2
                      have e31 := (m1).cell 3
                      have f01 := (m1).frozen 0
                      have f11 := (m1).frozen 1
                      have f21 := (m1).frozen 2
                      have f31 := (m1).frozen 3
                      simp only [List.getElem?_toArray, List.getElem?_cons_zero, List.getElem?_cons_succ] at e01 e11 e21 e31
                      have e02 := (m2).cell 0
                      have e12 := (m2).cell 1
                      have e22 := (m2).cell 2
                      have e32 := (m2).cell 3
                      have f02 := (m2).frozen 0
                      have f12 := (m2).frozen 1
                      have f22 := (m2).frozen 2
                      have f32 := (m2).frozen 3
                      simp only [List.getElem?_toArray, List.getElem?_cons_zero, List.getElem?_cons_succ] at e02 e12 e22 e32
                      have e03 := (m3).cell 0
                      have e13 := (m3).cell 1
                      have e23 := (m3).cell 2
                      have e33 := (m3).cell 3
                      have f03 := (m3).frozen 0
                      have f13 := (m3).frozen 1
                      have f23 := (m3).frozen 2
                      have f33 := (m3).frozen 3
                      simp only [List.getElem?_toArray, List.getElem?_cons_zero, List.getElem?_cons_succ] at e03 e13 e23 e33
                      go_upto_region 23 with fail
                      have hz2 := set4_blk (a := (.int .i64 s.width)) (b := (.bool s.cut)) (c := (.slice (some ⟨gP2, 0, none⟩) s.path.length s.path.length)) (d := (.slice (some ⟨gL2, 0, none⟩) s.left.length s.left.length)) m2
                      have hne23 : w.heap.size + 1 + 1 ≠ w.heap.size + 1 + 1 + 1 := by omega
                      have m3z := set4_far (a := (.int .i64 s.width)) (b := (.bool s.cut)) (c := (.slice (some ⟨gP2, 0, none⟩) s.path.length s.path.length)) (d := (.slice (some ⟨gL2, 0, none⟩) s.left.length s.left.length)) m3 (Ne.symm hne23)
                      have hz3 := set4_blk (a := (.int .i64 1)) (b := (.slice Ao lo.length co)) (c := .slice none 0 0) (d := .slice none 0 0) m3z
                      have hz22 := set4_far (a := (.int .i64 1)) (b := (.slice Ao lo.length co)) (c := .slice none 0 0) (d := .slice none 0 0) hz2 hne23
                      have hzb := set4_below (a := (.int .i64 1)) (b := (.slice Ao lo.length co)) (c := .slice none 0 0) (d := .slice none 0 0) (p := w.heap.size + 1 + 1 + 1) (set4_below (a := (.int .i64 s.width)) (b := (.bool s.cut)) (c := (.slice (some ⟨gP2, 0, none⟩) s.path.length s.path.length)) (d := (.slice (some ⟨gL2, 0, none⟩) s.left.length s.left.length)) (p := w.heap.size + 1 + 1) hb (by omega)) (by omega)
                      have hzs := (set4_size (X := set4 X9 (w.heap.size + 1 + 1) (.int .i64 s.width) (.bool s.cut) (.slice (some ⟨gP2, 0, none⟩) s.path.length s.path.length) (.slice (some ⟨gL2, 0, none⟩) s.left.length s.left.length)) (p := w.heap.size + 1 + 1 + 1) (a := (.int .i64 1)) (b := (.slice Ao lo.length co)) (c := .slice none 0 0) (d := .slice none 0 0)).trans (set4_size (X := X9) (p := w.heap.size + 1 + 1) (a := (.int .i64 s.width)) (b := (.bool s.cut)) (c := (.slice (some ⟨gP2, 0, none⟩) s.path.length s.path.length)) (d := (.slice (some ⟨gL2, 0, none⟩) s.left.length s.left.length)))
                      have hzk : ∀ K : Nat → Prop, ¬ K (w.heap.size + 1 + 1) → ¬ K (w.heap.size + 1 + 1 + 1) → Agree K X9 (set4 (set4 X9 (w.heap.size + 1 + 1) (.int .i64 s.width) (.bool s.cut) (.slice (some ⟨gP2, 0, none⟩) s.path.length s.path.length) (.slice (some ⟨gL2, 0, none⟩) s.left.length s.left.length)) (w.heap.size + 1 + 1 + 1) (.int .i64 1) (.slice Ao lo.length co) (.slice none 0 0) (.slice none 0 0)) := fun K h1 h2 => (set4_agree h1).trans (set4_agree h2)
                      have y0 := hz22.cell 0
                      have y1 := hz22.cell 1
                      have y2 := hz22.cell 2
                      have y3 := hz22.cell 3
                      have z0 := hz3.cell 0
                      have z1 := hz3.cell 1
                      have z2 := hz3.cell 2
                      have z3 := hz3.cell 3
                      simp only [List.getElem?_toArray, List.getElem?_cons_zero, List.getElem?_cons_succ] at y0 y1 y2 y3 z0 z1 z2 z3
                      unfold set4 at y0 y1 y2 y3 z0 z1 z2 z3
                      clear hz2 hz3 hz22 m3z hne23
                      replace hzb := hide hzb
                      replace hzs := hide (Nat.le_of_eq hzs.symm)
                      replace hzk := hide hzk
                      repeat' (first | go_values | go_skip | go_guarded | go_step | go_upon)
                      try simp only [Exit.inBlock, Exit.then]
                      refine bodyPost_ret (v := .tuple #[.agg #[(.int .i64 s.width), (.bool s.cut), (.slice (some ⟨gP2, 0, none⟩) s.path.length s.path.length), (.slice (some ⟨gL2, 0, none⟩) s.left.length s.left.length)], .agg #[(.int .i64 1), (.slice Ao lo.length co), .slice none 0 0, .slice none 0 0]]) (by simp [results, Tryz.results17, go_sem, y0, y1, y2, y3, z0, z1, z2, z3]) rfl ?_
                      rw [hres.out]
                      exact ⟨_, _, rfl, ⟨_, _, rfl, IntS.keep (intB_sl (K := fun b => b < X8.heap.size ∧ w3.heap.size ≤ b ∧ b ≠ gL2) zP.out ⟨zP.out.lt, hlP, hneP⟩) ((Agree.below hb10 fun b hb => hb.1).trans (hzk.out _ (fun h => by have := h.2.1; omega) (fun h => by have := h.2.1; omega))) (fun b hb => ⟨.inr (by have := hb.2.1; omega), Nat.lt_of_lt_of_le (Nat.lt_of_lt_of_le hb.1 hs10) hzs.out⟩), RowsS.keep hrows8.out ((Agree.below hb10 fun b hb => hb.1).trans (hzk.out _ (fun h => by have := h.2; omega) (fun h => by have := h.2; omega))) (fun b hb => ⟨.inr (by have := hb.2; omega), Nat.lt_of_lt_of_le (Nat.lt_of_lt_of_le hb.1 hs10) hzs.out⟩)⟩, IntS.keep hvS.out (hzk.out _ (fun h => by have := h.1; omega) (fun h => by have := h.1; omega)) (fun b hb => ⟨.inr (by have := hb.1; omega), Nat.lt_of_lt_of_le hb.2 hzs.out⟩), hzb.out⟩
                    --} 20
                    --{ 20 goes
                    · have hq1 : (((s.path.length + 1 : Nat) : Int) == (H.length : Int)) = false := by rw [beq_eq_false_iff_ne]; simp at hlH; omega
                      have hq2 : ((s.path.length + 1) == H.length) = false := by rw [beq_eq_false_iff_ne]; simpa using hlH
                      have hq3 : (((s.path.length : Nat) : Int) + 1 == (H.length : Int)) = false := by rw [beq_eq_false_iff_ne]; simp at hlH; omega
                      rw [if_neg hlH] at hres0
                      clear hlH
                      obtain ⟨Y, hY⟩ : ∃ Y, X9.setCell ⟨w.heap.size + 1, 2, none⟩ (.slice A10 (s.path.length + 1) c10) = Y := ⟨_, rfl⟩
                      have n0 : Blk Y w.heap.size 24 #[.slice A H.length c] := by rw [← hY]; exact m0.far (p := ⟨w.heap.size + 1, 2, none⟩) (show w.heap.size ≠ w.heap.size + 1 by omega) _
                      have n2 : Blk Y (w.heap.size + 1 + 1) 30 #[.int .i64 0, .bool false, .slice none 0 0, .slice none 0 0] := by rw [← hY]; exact m2.far (p := ⟨w.heap.size + 1, 2, none⟩) (show w.heap.size + 1 + 1 ≠ w.heap.size + 1 by omega) _
                      have n3 : Blk Y (w.heap.size + 1 + 1 + 1) 35 #[.int .i64 0, .slice none 0 0, .slice none 0 0, .slice none 0 0] := by rw [← hY]; exact m3.far (p := ⟨w.heap.size + 1, 2, none⟩) (show w.heap.size + 1 + 1 + 1 ≠ w.heap.size + 1 by omega) _
                      have n1 := m1.set_ 2 (.slice A10 (s.path.length + 1) c10)
                      simp only [List.setIfInBounds_toArray, List.set_cons_zero, List.set_cons_succ] at n1
                      rw [hY] at n1
                      have hYs : Y.heap.size = X9.heap.size := by rw [← hY]; simp
                      have hYa : ∀ K : Nat → Prop, ¬ K (w.heap.size + 1) → Agree K X9 Y := fun K hK => by rw [← hY]; exact Agree.setCell ⟨w.heap.size + 1, 2, none⟩ hK _
                      have hbY : Below w.heap.size w Y := by rw [← hY]; exact hb.setCell (p := ⟨w.heap.size + 1, 2, none⟩) (by simp) _
                      obtain ⟨s2, hs2e⟩ : ∃ s2 : Wd, s2 = { s with left := s.left.dropLast ++ [r], path := s.path ++ [t] } := ⟨_, rfl⟩
                      have e1 : s2.width = s.width := by rw [hs2e]
                      have e2 : s2.cut = s.cut := by rw [hs2e]
                      have e3 : s2.path = s.path ++ [t] := by rw [hs2e]
                      have e4 : s2.left = s.left.dropLast ++ [r] := by rw [hs2e]
                      have e3l : s2.path.length = s.path.length + 1 := by rw [e3]; simp
                      have e4l : s2.left.length = s.left.length := by rw [e4]; exact hlen7
                      rw [← hs2e] at hres0
                      have hPY : IntS Y (fun b => b < Y.heap.size ∧ b ≠ w.heap.size + 1 ∧ b ≠ w.heap.size + 1 + 1 ∧ b ≠ w.heap.size + 1 + 1 + 1 ∧ b ≠ gL2 ∧ (K0 b ∨ w.heap.size ≤ b)) (.slice A10 (s.path.length + 1) c10) (s.path ++ [t]) := by
                        have h1 := OwnI.sl (K := fun b => X5.heap.size ≤ b ∧ b < X8.heap.size) hO8 (fun g h1 h2 => ⟨h1, h2⟩)
                        exact h1.keep ((Agree.below hb10 fun b hb => hb.2).trans (hYa _ (fun h => by have := h.1; omega))) (fun b hb => ⟨by have := hb.2; omega, by have := hb.1; omega, by have := hb.1; omega, by have := hb.1; omega, by have := hb.1; omega, .inr (by have := hb.1; omega)⟩)
                      have hLY : OwnR 1 RowR Y (fun b => b < Y.heap.size ∧ b ≠ w.heap.size + 1 ∧ b ≠ w.heap.size + 1 + 1 ∧ b ≠ w.heap.size + 1 + 1 + 1 ∧ b ≠ gL2 ∧ (K0 b ∨ w.heap.size ≤ b)) w.heap.size 27 (.slice (some ⟨gL2, 0, none⟩) s.left.length s.left.length) (s.left.dropLast ++ [r]) := by
                        exact OwnR.keep RowR.stab hrowsO.out ((Agree.below hb10 fun b hb => hb.1).trans (hYa _ (fun h => by have := h.2.1; omega))) (fun b hb => ⟨by have := hb.1; omega, by have := hb.2.1; omega, by have := hb.2.1; omega, by have := hb.2.1; omega, hb.2.2, .inr (by have := hb.2.1; omega)⟩) (fun g hg => by
                          simp [Value.ownBlock] at hg
                          subst hg
                          exact (hYa (fun b => b = gL2) (by omega) _ rfl).trans (hb10.block _ zL.lt))
                      have hTY : TxnS Y (fun b => b < Y.heap.size ∧ b ≠ w.heap.size + 1 ∧ b ≠ w.heap.size + 1 + 1 ∧ b ≠ w.heap.size + 1 + 1 + 1 ∧ b ≠ gL2 ∧ (K0 b ∨ w.heap.size ≤ b)) (.slice A H.length c) H := TxnS.keep h0.out (Agree.below hbY fun b hb => hK0.out b hb) (fun b hb => by have hb2 : b < w.heap.size := hK0.out b hb; exact ⟨by omega, by omega, by omega, by omega, by omega, .inl hb⟩)
                      have hcome := hide (come30_any A c H (w.heap.size + 1) w.heap.size s2 A10 c10 (.slice (some ⟨gL2, 0, none⟩) s.left.length s.left.length) (fun b => b < Y.heap.size ∧ b ≠ w.heap.size + 1 ∧ b ≠ w.heap.size + 1 + 1 ∧ b ≠ w.heap.size + 1 + 1 + 1 ∧ b ≠ gL2 ∧ (K0 b ∨ w.heap.size ≤ b)) Y hTY hn.out hrH.out (hTB.below hbY) (by rw [e1, e2, e3l]; exact n1) (by rw [e3, List.length_append, List.length_cons, List.length_nil, Nat.zero_add]; exact hPY) (by rw [e4]; exact hLY) (fun b hb => ⟨hb.1, hb.2.1, by simp [Value.ownBlock]; exact hb.2.2.2.2.1⟩) (by omega) (by simp [Value.ownBlock]; omega) (by rw [e3l]; omega) (by rw [e4l]; omega) (by rw [e1]; exact hw1) (by rw [e1]; exact hw2))
                      rw [e3l] at hcome
                      have hPYh := hide hPY
                      have gf2 := m1.frozen 2
                      have gc2 := m1.cell 2
                      have gc0 := n0.cell 0
                      simp only [List.getElem?_toArray, List.getElem?_cons_zero, List.getElem?_cons_succ] at gc2 gc0
                      replace hYs := hide hYs
                      replace hYa := hide hYa
                      have hput : Hid ((putW H s2).path = s.path ++ [t]) := hide (by show s2.path = _; exact e3)
                      clear hPY hLY hTY e1 e2 e3 e4 e3l e4l hs2e hrowsO hrows8 hO8 zP zL
                      go_upto_region 26 with fail
                      clear hY gc2 gf2
                      go_wp2_with fail
                      refine hcome.out.mono ?_
                      rintro e w6 ⟨vl, rfl, y1b, hrows6, hall6, hb6⟩
                      clear hcome gc0 c0
                      generalize putW H s2 = s' at *
                      obtain ⟨A6, c6, rfl⟩ := hrows6.form
                      have hfar6 : ∀ {q : Nat} {t : TypeId} {cs : Array Value}, Blk Y q t cs → q ≠ w.heap.size + 1 → q ≠ gL2 → Blk w6 q t cs := fun h h1 h2 => (hall6 _ h.lt h1 (by simp [Value.ownBlock]; exact h2)).trans h
                      have j2 := hfar6 n2 (by omega) (by omega)
                      have j3 := hfar6 n3 (by omega) (by omega)
                      have n2l := n2.lt
                      have n3l := n3.lt
                      have hP6 := hPYh.out.keep (w' := w6) (fun b hb => hall6 b hb.1 hb.2.1 (by simp [Value.ownBlock]; exact hb.2.2.2.2.1)) (fun b h => h)
                      replace hb := hbY.trans hb6
                      have hs6' := hb6.size
                      replace m2 := j2
                      replace m3 := j3
                      clear hfar6 n0 n1 n2 n3 m0 m1 j2 j3
                      have e01 := (y1b).cell 0
                      have e11 := (y1b).cell 1
                      have e21 := (y1b).cell 2
                      have e31 := (y1b).cell 3
                      have f01 := (y1b).frozen 0
                      have f11 := (y1b).frozen 1
                      have f21 := (y1b).frozen 2
                      have f31 := (y1b).frozen 3
                      simp only [List.getElem?_toArray, List.getElem?_cons_zero, List.getElem?_cons_succ] at e01 e11 e21 e31
                      have e02 := (m2).cell 0
                      have e12 := (m2).cell 1
                      have e22 := (m2).cell 2
                      have e32 := (m2).cell 3
                      have f02 := (m2).frozen 0
                      have f12 := (m2).frozen 1
                      have f22 := (m2).frozen 2
                      have f32 := (m2).frozen 3
                      simp only [List.getElem?_toArray, List.getElem?_cons_zero, List.getElem?_cons_succ] at e02 e12 e22 e32
                      have e03 := (m3).cell 0
                      have e13 := (m3).cell 1
                      have e23 := (m3).cell 2
                      have e33 := (m3).cell 3
                      have f03 := (m3).frozen 0
                      have f13 := (m3).frozen 1
                      have f23 := (m3).frozen 2
                      have f33 := (m3).frozen 3
                      simp only [List.getElem?_toArray, List.getElem?_cons_zero, List.getElem?_cons_succ] at e03 e13 e23 e33
                      replace hres := hres0
                      go_upto_region 27 with fail
                      have hz2 := set4_blk (a := (.int .i64 s'.width)) (b := (.bool s'.cut)) (c := (.slice A10 (s.path.length + 1) c10)) (d := (.slice A6 s'.left.length c6)) m2
                      have hne23 : w.heap.size + 1 + 1 ≠ w.heap.size + 1 + 1 + 1 := by omega
                      have m3z := set4_far (a := (.int .i64 s'.width)) (b := (.bool s'.cut)) (c := (.slice A10 (s.path.length + 1) c10)) (d := (.slice A6 s'.left.length c6)) m3 (Ne.symm hne23)
                      have hz3 := set4_blk (a := (.int .i64 0)) (b := (.slice none 0 0)) (c := .slice none 0 0) (d := .slice none 0 0) m3z
                      have hz22 := set4_far (a := (.int .i64 0)) (b := (.slice none 0 0)) (c := .slice none 0 0) (d := .slice none 0 0) hz2 hne23
                      have hzb := set4_below (a := (.int .i64 0)) (b := (.slice none 0 0)) (c := .slice none 0 0) (d := .slice none 0 0) (p := w.heap.size + 1 + 1 + 1) (set4_below (a := (.int .i64 s'.width)) (b := (.bool s'.cut)) (c := (.slice A10 (s.path.length + 1) c10)) (d := (.slice A6 s'.left.length c6)) (p := w.heap.size + 1 + 1) hb (by omega)) (by omega)
                      have hzs := (set4_size (X := set4 w6 (w.heap.size + 1 + 1) (.int .i64 s'.width) (.bool s'.cut) (.slice A10 (s.path.length + 1) c10) (.slice A6 s'.left.length c6)) (p := w.heap.size + 1 + 1 + 1) (a := (.int .i64 0)) (b := (.slice none 0 0)) (c := .slice none 0 0) (d := .slice none 0 0)).trans (set4_size (X := w6) (p := w.heap.size + 1 + 1) (a := (.int .i64 s'.width)) (b := (.bool s'.cut)) (c := (.slice A10 (s.path.length + 1) c10)) (d := (.slice A6 s'.left.length c6)))
                      have hzk : ∀ K : Nat → Prop, ¬ K (w.heap.size + 1 + 1) → ¬ K (w.heap.size + 1 + 1 + 1) → Agree K w6 (set4 (set4 w6 (w.heap.size + 1 + 1) (.int .i64 s'.width) (.bool s'.cut) (.slice A10 (s.path.length + 1) c10) (.slice A6 s'.left.length c6)) (w.heap.size + 1 + 1 + 1) (.int .i64 0) (.slice none 0 0) (.slice none 0 0) (.slice none 0 0)) := fun K h1 h2 => (set4_agree h1).trans (set4_agree h2)
                      have y0 := hz22.cell 0
                      have y1 := hz22.cell 1
                      have y2 := hz22.cell 2
                      have y3 := hz22.cell 3
                      have z0 := hz3.cell 0
                      have z1 := hz3.cell 1
                      have z2 := hz3.cell 2
                      have z3 := hz3.cell 3
                      simp only [List.getElem?_toArray, List.getElem?_cons_zero, List.getElem?_cons_succ] at y0 y1 y2 y3 z0 z1 z2 z3
                      unfold set4 at y0 y1 y2 y3 z0 z1 z2 z3
                      clear hz2 hz3 hz22 m3z hne23
                      replace hzb := hide hzb
                      replace hzs := hide (Nat.le_of_eq hzs.symm)
                      replace hzk := hide hzk
                      repeat' (first | go_values | go_skip | go_guarded | go_step | go_upon)
                      try simp only [Exit.inBlock, Exit.then]
                      refine bodyPost_ret (v := .tuple #[.agg #[(.int .i64 s'.width), (.bool s'.cut), (.slice A10 (s.path.length + 1) c10), (.slice A6 s'.left.length c6)], .agg #[(.int .i64 0), (.slice none 0 0), .slice none 0 0, .slice none 0 0]]) (by simp [results, Tryz.results17, go_sem, y0, y1, y2, y3, z0, z1, z2, z3]) rfl ?_
                      rw [hres.out]
                      refine ⟨_, _, rfl, ⟨_, _, rfl, ?_, ?_⟩, IntS.nil _ _ _ _, hzb.out⟩
                      · rw [hput.out]
                        exact hP6.keep (hzk.out _ (fun h => h.2.2.1 rfl) (fun h => h.2.2.2.1 rfl)) (fun b hb => ⟨hb.2.2.2.2.2, Nat.lt_of_lt_of_le (show b < w6.heap.size by have := hb.1; omega) hzs.out⟩)
                      · exact hrows6.keep (hzk.out _ (fun h => by
                          rcases h.2 with g | g | g
                          · exact g.2.2.1 rfl
                          · omega
                          · simp [Value.ownBlock] at g; omega) (fun h => by
                          rcases h.2 with g | g | g
                          · exact g.2.2.2.1 rfl
                          · omega
                          · simp [Value.ownBlock] at g; omega)) (fun b hb => ⟨by rcases hb.2 with g | g | g; exact g.2.2.2.2.2; exact .inr (by omega); simp [Value.ownBlock] at g; exact .inr (by omega), Nat.lt_of_lt_of_le (show b < w6.heap.size from hb.1.2) hzs.out⟩)
                    --} 20
end Go.Proofs.YtjomijnbnbideaaGreatDoor
