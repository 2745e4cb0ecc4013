/-
  Walks: layer 17: the past.
-/
import Derived.Test.YtjomijnbnbideaaGreatDoorM23
import Derived.Test.YtjomijnbnbideaaGreatDoorM02
set_option linter.unusedVariables false
set_option linter.unusedSimpArgs false
namespace Go.Proofs.YtjomijnbnbideaaGreatDoor
open Go.RowKit Go.Inq
set_option maxHeartbeats 4000000
attribute [local go_sem ↓] Go.wp_at_zero Go.wp_at_succ

def GV (base n : Nat) (E : Edges) (v : Value) (W : World) : Prop := ∃ g, base ≤ g ∧ v = .agg #[.int .i64 n, .slice (some ⟨g, 0, none⟩) n n] ∧ Blk W g 145 (rowsB n E)
theorem GV.below {base n : Nat} {E : Edges} {v : Value} {W W' : World} (h : GV base n E v W) (hb : Below W.heap.size W W') : GV base n E v W' := by
  obtain ⟨g, h1, h2, h3⟩ := h
  exact ⟨g, h1, h2, h3.below hb h3.lt⟩
def VarSt (b : Nat) (W W' : World) : Prop :=
  (W'.os = W.os ∧ W'.tape = W.tape ∧ W'.output = W.output ∧ W.heap.size ≤ W'.heap.size) ∧ ∀ k, k < W.heap.size → W'.heap[k]? = W.heap[k]? ∨ (b ≤ k ∧ ∃ cs cs', W.heap[k]? = some (.cells cs 56 (0, 0)) ∧ W'.heap[k]? = some (.cells cs' 56 (0, 0)) ∧ cs'.size = 2)
theorem VarSt.of_below {b : Nat} {W W' : World} (h : Below W.heap.size W W') : VarSt b W W' := ⟨⟨h.os, h.tape, h.output, h.size⟩, fun k hk => .inl (h.block k hk)⟩
theorem VarSt.blk {b g : Nat} {t : TypeId} {cs : Array Value} {W W' : World} (h : VarSt b W W') (hk : Blk W g t cs) (ht : t ≠ 56) : Blk W' g t cs := by
  rcases h.2 g hk.lt with e | ⟨_, cs1, _, e, _⟩
  · exact e.trans hk
  · rw [show W.heap[g]? = _ from hk] at e
    injection e with e
    injection e with _ e
    exact absurd e ht
theorem VarSt.below {b : Nat} {W W' : World} (h : VarSt b W W') : Below b W W' ∨ W.heap.size < b := by
  rcases Nat.lt_or_ge W.heap.size b with g | g
  · exact .inr g
  · exact .inl ⟨h.1.1, h.1.2.1, h.1.2.2.1, h.1.2.2.2, fun k hk => by
      rcases h.2 k (by omega) with e | ⟨e, _⟩
      · exact e
      · omega⟩
theorem GV.var {base n b : Nat} {E : Edges} {v : Value} {W W' : World} (h : GV base n E v W) (hb : VarSt b W W') : GV base n E v W' := by
  obtain ⟨g, h1, h2, h3⟩ := h
  exact ⟨g, h1, h2, hb.blk h3 (by decide)⟩
def VarV (b : Nat) (v : Value) (W : World) : Prop := ∃ g, b ≤ g ∧ v = .pointer (some ⟨g, 0, none⟩) ∧ ∃ x y, Blk W g 56 #[x, y]
def PastW (H : List Txn) (A : Option Addr) (c base : Nat) : Nat → (Nat → Value) → World → Prop
  | 0, vs, _ => vs 0 = .agg #[.slice A H.length c]
  | 1, vs, W => GV base H.length (soE H) (vs 1) W
  | 2, vs, _ => vs 2 = .agg #[.slice A H.length c]
  | 3, vs, W => GV base H.length (wrE H) (vs 3) W
  | 4, vs, W => ∃ u, vs 4 = .tuple #[u, .int .i64 0] ∧ GV base H.length (pastE H) u W
  | 5, vs, W => ∃ u, vs 5 = .tuple #[u, .int .i64 0] ∧ GV base H.length (pastE H) u W
  | 6, vs, W => GV base H.length (pastE H) (vs 6) W
  | 7, vs, _ => vs 7 = .int .i64 0
  | 8, vs, W => VarV (base + 2) (vs 8) W
  | 9, vs, W => ∃ g x y, vs 8 = .pointer (some ⟨g, 0, none⟩) ∧ base + 2 ≤ g ∧ vs 6 = .agg #[x, y] ∧ Blk W g 56 #[x, y]
  | _, _, _ => True
def pastD : Nat → List Nat
  | 1 => [0]
  | 3 => [2]
  | 4 => [1, 3]
  | 5 => [4]
  | 6 => [5]
  | 7 => [5]
  | 9 => [8, 6]
  | 10 => [7]
  | _ => []
theorem past_cg {H : List Txn} {A : Option Addr} {c base : Nat} : ∀ j (vs vs' : Nat → Value) w, (∀ k, k = j ∨ k ∈ pastD j → vs k = vs' k) → PastW H A c base j vs w → PastW H A c base j vs' w := by
  intro j vs vs' w hk h
  match j, h with
  | 0, h | 1, h | 2, h | 3, h | 4, h | 5, h | 6, h | 7, h | 8, h =>
    simp only [PastW] at h ⊢
    rw [← hk _ (.inl rfl)]
    exact h
  | 9, h =>
    simp only [PastW] at h ⊢
    rw [← hk 8 (.inr (by simp [pastD])), ← hk 6 (.inr (by simp [pastD]))]
    exact h
  | n + 10, _ => trivial
def PastSt (base : Nat) (i : Nat) (W W' : World) : Prop := if i = 9 then VarSt (base + 2) W W' else Below W.heap.size W W'
theorem PastSt.var {base i : Nat} {W W' : World} (h : PastSt base i W W') : VarSt (base + 2) W W' := by
  unfold PastSt at h
  split at h
  · exact h
  · exact VarSt.of_below h
theorem VarV.var {b b' : Nat} {v : Value} {W W' : World} (h : VarV b v W) (hs : VarSt b' W W') : VarV b v W' := by
  obtain ⟨g, h1, h2, x, y, h3⟩ := h
  rcases hs.2 g h3.lt with e | ⟨_, cs, cs', _, e2, e3⟩
  · exact ⟨g, h1, h2, x, y, e.trans h3⟩
  · refine ⟨g, h1, h2, cs'[0]'(by omega), cs'[1]'(by omega), ?_⟩
    have : cs' = #[cs'[0]'(by omega), cs'[1]'(by omega)] := by
      refine Array.ext (by simp [e3]) fun i h1 h2 => ?_
      simp at h2
      match i, h2 with
      | 0, _ => rfl
      | 1, _ => rfl
    unfold Blk
    rw [← this]
    exact e2
theorem past_keep {H : List Txn} {A : Option Addr} {c base : Nat} : ∀ i j (vs : Nat → Value) w w', j ≠ i → j ∉ (fun _ => [] : Nat → List Nat) i → PastW H A c base j vs w → PastSt base i w w' → PastW H A c base j vs w' := by
  intro i j vs w w' hne _ h hs
  have hv := hs.var
  match j, h with
  | 0, h | 2, h | 7, h => exact h
  | 1, h | 3, h | 6, h =>
    simp only [PastW] at h ⊢
    exact h.var hv
  | 4, h | 5, h =>
    simp only [PastW] at h ⊢
    obtain ⟨u, h1, h2⟩ := h
    exact ⟨u, h1, h2.var hv⟩
  | 8, h =>
    simp only [PastW] at h ⊢
    exact VarV.var h hv
  | 9, h =>
    unfold PastSt at hs
    rw [if_neg (fun e => hne e.symm)] at hs
    simp only [PastW] at h ⊢
    obtain ⟨g, x, y, h1, h2, h3, h4⟩ := h
    exact ⟨g, x, y, h1, h2, h3, h4.below hs h4.lt⟩
  | n + 10, _ => trivial
theorem pastD_end : ∀ i, 11 ≤ i → pastD i = [] := by
  intro i hi
  match i, hi with
  | n + 11, _ => rfl
set_option maxRecDepth 100000 in
theorem past17_any (A : Option Addr) (c : Nat) (H : List Txn) (w : World) (h : TxnS w (Old w) (.slice A H.length c) H) (hn : SmallH H) (hr : rightH H = true) :
    Calls Tryz.prog 80 #[.agg #[.slice A H.length c]] w (OutG1 w H.length (pastE H)) := by
  obtain ⟨W0, hW0⟩ : ∃ W0, (w.alloc (.cells #[.slice A H.length c] 24)).alloc (.cells #[.int .i64 0, .slice none 0 0] 56) = W0 := ⟨_, rfl⟩
  have hB := below_two hW0
  have k0 := Blk.two1 hW0
  have k1 := Blk.two2 hW0
  have h32 : H.length ≤ 32 := ((rightH_iff H).1 hr).1
  go_enter Tryz.func80, Tryz.ntmps80
  go_wp2_with fail
  clear hW0
  refine wp_region_rel (PastW H A c w.heap.size) (fun W => Below w.heap.size w W ∧ Blk W w.heap.size 24 #[.slice A H.length c] ∧ Blk W (w.heap.size + 1) 56 #[.int .i64 0, .slice none 0 0]) (PastSt w.heap.size) pastD (by kernel_rfl) (by kernel_rfl) (by kernel_rfl) pastD_end (fun _ => []) (by kernel_rfl) past_cg past_keep ⟨hB.drew, k0, k1⟩ ?hstep ?hend
  case hstep =>
    intro i o ho vs W hS hd
    obtain ⟨hb, m0, m1⟩ := hS
    have hT := h.below hb
    match i, ho with
    | 0, ho =>
      simp only [gZ, gS, Option.some.injEq] at ho
      subst ho
      simp only [acV, gA, gZ, gS, Act.put, sA, sZ, sS]
      have c0 := Blk.n0 m0
      go_wp2
      exact ⟨rfl, .agg #[.slice A H.length c], rfl, rfl, ⟨hb, m0, m1⟩, Below.refl _ _⟩
    | 1, ho =>
      have d0 := hd 0 (by simp [pastD])
      simp only [PastW] at d0
      simp only [gZ, gS, Option.some.injEq] at ho
      subst ho
      simp only [acV, gA, gZ, gS, Act.put, sA, sZ, sS]
      rw [d0]
      go_wp2_with fail
      refine (so17_any A c H _ hT hn hr).mono ?_
      rintro e W2 ⟨g, hg, rfl, kR, hb2⟩
      go_wp2
      exact ⟨rfl, _, rfl, ⟨g, Nat.le_trans hb.size hg, rfl, kR⟩, ⟨hb.trans (hb2.mono hb.size), m0.below hb2 m0.lt, m1.below hb2 m1.lt⟩, hb2⟩
    | 2, ho =>
      simp only [gZ, gS, Option.some.injEq] at ho
      subst ho
      simp only [acV, gA, gZ, gS, Act.put, sA, sZ, sS]
      have c0 := Blk.n0 m0
      go_wp2
      exact ⟨rfl, .agg #[.slice A H.length c], rfl, rfl, ⟨hb, m0, m1⟩, Below.refl _ _⟩
    | 3, ho =>
      have d0 := hd 2 (by simp [pastD])
      simp only [PastW] at d0
      simp only [gZ, gS, Option.some.injEq] at ho
      subst ho
      simp only [acV, gA, gZ, gS, Act.put, sA, sZ, sS]
      rw [d0]
      go_wp2_with fail
      refine (wr17_any A c H _ hT hn hr).mono ?_
      rintro e W2 ⟨g, hg, rfl, kR, hb2⟩
      go_wp2
      exact ⟨rfl, _, rfl, ⟨g, Nat.le_trans hb.size hg, rfl, kR⟩, ⟨hb.trans (hb2.mono hb.size), m0.below hb2 m0.lt, m1.below hb2 m1.lt⟩, hb2⟩
    | 4, ho =>
      obtain ⟨g1, hg1, d1, q1⟩ := hd 1 (by simp [pastD])
      obtain ⟨g3, hg3, d3, q3⟩ := hd 3 (by simp [pastD])
      simp only [gZ, gS, Option.some.injEq] at ho
      subst ho
      simp only [acV, gA, gZ, gS, Act.put, sA, sZ, sS]
      rw [d1, d3]
      go_wp2_with fail
      refine (union12_any H.length _ _ _ _ (soE H) (wrE H) (Old W) _ (GrS.of_blk q1 q1.lt (by omega)) (GrS.of_blk q3 q3.lt (by omega)) (fun b hb => hb)).mono ?_
      rintro e W2 ⟨g, hg, rfl, kR, hb2⟩
      go_wp2
      exact ⟨rfl, _, rfl, ⟨_, rfl, g, Nat.le_trans hb.size hg, rfl, kR⟩, ⟨hb.trans (hb2.mono hb.size), m0.below hb2 m0.lt, m1.below hb2 m1.lt⟩, hb2⟩
    | 5, ho =>
      obtain ⟨u, d4, q4⟩ := hd 4 (by simp [pastD])
      simp only [gZ, gS, Option.some.injEq] at ho
      subst ho
      simp only [acV, gA, gZ, gS, Act.put, sA, sZ, sS]
      rw [d4]
      go_wp2
      exact ⟨rfl, _, rfl, ⟨_, rfl, q4⟩, ⟨hb, m0, m1⟩, Below.refl _ _⟩
    | 6, ho =>
      obtain ⟨u, d5, q5⟩ := hd 5 (by simp [pastD])
      simp only [gZ, gS, Option.some.injEq] at ho
      subst ho
      simp only [acV, gA, gZ, gS, Act.put, sA, sZ, sS]
      rw [d5]
      go_wp2
      exact ⟨rfl, _, rfl, q5, ⟨hb, m0, m1⟩, Below.refl _ _⟩
    | 7, ho =>
      obtain ⟨u, d5, q5⟩ := hd 5 (by simp [pastD])
      simp only [gZ, gS, Option.some.injEq] at ho
      subst ho
      simp only [acV, gA, gZ, gS, Act.put, sA, sZ, sS]
      rw [d5]
      go_wp2
      exact ⟨rfl, _, rfl, rfl, ⟨hb, m0, m1⟩, Below.refl _ _⟩
    | 8, ho =>
      simp only [gZ, gS, Option.some.injEq] at ho
      subst ho
      simp only [acV, gA, gZ, gS, Act.put, sA, sZ, sS]
      go_wp2
      have hsz := m1.lt
      exact ⟨rfl, _, rfl, ⟨W.heap.size, by omega, rfl, _, _, Blk.new _ _ _⟩, ⟨hb.alloc hb.size _, m0.alloc _, m1.alloc _⟩, (Below.refl _ _).alloc (Nat.le_refl _) _⟩
    | 9, ho =>
      obtain ⟨g, hg, d8, x, y, q8⟩ := hd 8 (by simp [pastD])
      obtain ⟨g6, hg6, d6, q6⟩ := hd 6 (by simp [pastD])
      simp only [gZ, gS, Option.some.injEq] at ho
      subst ho
      simp only [acV, gA, gZ, gS, Act.put, sA, sZ, sS]
      rw [d8, d6]
      have c0 := Blk.n0 q8
      have c1 := Blk.n1 q8
      have f0 := q8.frozen 0
      have f1 := q8.frozen 1
      go_wp2
      have hq := (q8.set_ 0 (.int .i64 H.length)).set_ 1 (.slice (some ⟨g6, 0, none⟩) H.length H.length)
      have n1 : w.heap.size ≠ g := by omega
      have n2 : w.heap.size + 1 ≠ g := by omega
      refine ⟨rfl, undef, rfl, ⟨g, _, _, (show updV vs 9 undef 8 = _ from d8), hg, (show updV vs 9 undef 6 = _ from d6), by simpa using hq⟩, ⟨(hb.setCell (p := ⟨g, 0, none⟩) (by simp; omega) _).setCell (p := ⟨g, 1, none⟩) (by simp; omega) _, (m0.far n1 _).far n1 _, (m1.far n2 _).far n2 _⟩, ?_⟩
      unfold PastSt
      rw [if_pos rfl]
      refine ⟨⟨rfl, rfl, rfl, by simp⟩, fun k hk => ?_⟩
      by_cases e : k = g
      · subst e
        exact .inr ⟨hg, _, _, q8, hq, by simp⟩
      · exact .inl ((Below.heap_setCell _ ⟨g, 1, none⟩ _ k e).trans (Below.heap_setCell _ ⟨g, 0, none⟩ _ k e))
    | 10, ho =>
      have d7 := hd 7 (by simp [pastD])
      simp only [PastW] at d7
      simp only [gZ, gS, Option.some.injEq] at ho
      subst ho
      simp only [acV, gA, gZ, gS, Act.put, sA, sZ, sS]
      rw [d7]
      go_wp2
      exact ⟨rfl, _, rfl, trivial, ⟨hb, m0, m1⟩, Below.refl _ _⟩
    | n + 11, ho => simp at ho
  case hend =>
    rintro vs W ⟨hb, m0, m1⟩ hd
    obtain ⟨g, x, y, d8, hg, d6, q9⟩ := hd 9 (by simp) (by simp)
    obtain ⟨g6, hg6, d6', q6⟩ := hd 6 (by simp) (by simp)
    rw [d6] at d6'
    injection d6' with d6'
    simp only [Array.mk.injEq, List.cons.injEq, and_true] at d6'
    obtain ⟨rfl, rfl⟩ := d6'
    clear hd
    simp only [acV, gA, gZ, gS, Act.put, sA, sZ, sS, List.length_cons, List.length_nil, Nat.reduceAdd]
    rw [d8, d6]
    have c0 := Blk.n0 q9
    have c1 := Blk.n1 q9
    have j0 := Blk.n0 m1
    have j1 := Blk.n1 m1
    have jf := m1.frozen 0
    have jf1 := m1.frozen 1
    have hne : g6 ≠ w.heap.size + 1 := by
      rintro rfl
      have := m1.symm.trans q6
      simp at this
    go_wp2
    have kF0 := ((q6.far (p := ⟨w.heap.size + 1, 0, none⟩) hne (.int .i64 H.length)).far (p := ⟨w.heap.size + 1, 1, none⟩) hne (.slice (some ⟨g6, 0, none⟩) H.length H.length))
    have hF := ((hb.setCell (p := ⟨w.heap.size + 1, 0, none⟩) (by simp) (.int .i64 H.length)).setCell (p := ⟨w.heap.size + 1, 1, none⟩) (by simp) (.slice (some ⟨g6, 0, none⟩) H.length H.length))
    exact bodyPost_ret (v := .agg #[.int .i64 H.length, .slice (some ⟨g6, 0, none⟩) H.length H.length]) (by simp [results, Tryz.results80, go_sem, j0, j1]) rfl ⟨g6, hg6, rfl, kF0, hF⟩
end Go.Proofs.YtjomijnbnbideaaGreatDoor
