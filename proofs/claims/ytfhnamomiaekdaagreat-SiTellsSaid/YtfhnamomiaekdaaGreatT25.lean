/-
  Walks: layer 17's reference: the past.
-/
import Derived.Laws.EntriesVeiled
import Derived.StillTailTactics
import Derived.Test.YtfhnamomiaekdaaGreatT21
import Derived.Test.YtfhnamomiaekdaaGreatT23
import Derived.Test.YtfhnamomiaekdaaGreatT24
import Derived.Test.YtfhnamomiaekdaaGreatT10
import Derived.Test.YtfhnamomiaekdaaGreatT17
import Derived.Test.YtfhnamomiaekdaaGreatT05
import Derived.Test.YtfhnamomiaekdaaGreatT03
set_option linter.unusedVariables false
set_option linter.unusedSimpArgs false
namespace Go.Proofs.YtfhnamomiaekdaaGreat
open Go.RowKit Go.Inq
set_option maxHeartbeats 4000000
attribute [local go_sem ↓] Go.wp_at_zero Go.wp_at_succ

/-- A reference's graph whose rows are the call's own. -/
def GVR (base n : Nat) (E : Edges) (v : Value) (W : World) : Prop := ∃ A c, v = .agg #[.int .i64 n, .slice A n c] ∧ RG W base n E (.slice A n c)
/-- A variable that is made and set: all else stays. -/
def VarStR (b : Nat) (W W' : World) : Prop :=
  (W'.os = W.os ∧ W'.tape = W.tape ∧ W'.output = W.output ∧ W.heap.size ≤ W'.heap.size) ∧ ∀ k, k < W.heap.size → W'.heap[k]? = W.heap[k]? ∨ (b ≤ k ∧ ∃ cs cs', W.heap[k]? = some (.cells cs 174 (0, 0)) ∧ W'.heap[k]? = some (.cells cs' 174 (0, 0)) ∧ cs'.size = 2)
theorem VarStR.of_below {b : Nat} {W W' : World} (h : Below W.heap.size W W') : VarStR b W W' := ⟨⟨h.os, h.tape, h.output, h.size⟩, fun k hk => .inl (h.block k hk)⟩
theorem VarStR.blk {b g : Nat} {t : TypeId} {cs : Array Value} {W W' : World} (h : VarStR b W W') (hk : Blk W g t cs) (ht : t ≠ 174) : Blk W' g t cs := by
  rcases h.2 g hk.lt with e | ⟨_, cs1, _, e, _⟩
  · exact e.trans hk
  · rw [show W.heap[g]? = _ from hk] at e
    injection e with e
    injection e with _ e
    exact absurd e ht
theorem GVR.var {base n b : Nat} {E : Edges} {v : Value} {W W' : World} (h : GVR base n E v W) (hb : VarStR b W W') : GVR base n E v W' := by
  obtain ⟨A, c, h1, h2⟩ := h
  refine ⟨A, c, h1, ?_⟩
  rcases h2 with h2 | ⟨g, cap, cur, h2, h3, h4, r⟩
  · exact .inl h2
  · exact .inr ⟨g, cap, cur, h2, h3, hb.blk h4 (by decide), r⟩
theorem GVR.of {W0 W : World} {base n : Nat} {E : Edges} {e : Ending} (hn : n ≤ 64) (hB : base ≤ W0.heap.size) (h : OutR W0 n E e W) : ∃ v, e = .returned v ∧ GVR base n E v W ∧ Below W0.heap.size W0 W := by
  obtain ⟨u, rfl, hR, hb⟩ := h
  obtain ⟨A, c, rfl, -⟩ := hR.gr hn (K := fun _ => True) (fun _ _ _ => trivial)
  exact ⟨_, rfl, ⟨A, c, rfl, hR.base hB⟩, hb⟩
theorem GVR.gr {W : World} {base n : Nat} {E : Edges} {v : Value} (hn : n ≤ 64) (h : GVR base n E v W) : ∃ A c, v = .agg #[.int .i64 n, .slice A n c] ∧ GrS W (Old W) n A c E ∧ RG W base n E (.slice A n c) := by
  obtain ⟨A, c, rfl, hR⟩ := h
  obtain ⟨A', c', e, hg⟩ := hR.gr hn (K := Old W) (fun g _ h => h)
  simp only [Value.slice.injEq, true_and] at e
  obtain ⟨rfl, rfl⟩ := e
  exact ⟨A, c, rfl, hg, hR⟩
def VarVR (b : Nat) (v : Value) (W : World) : Prop := ∃ g, b ≤ g ∧ v = .pointer (some ⟨g, 0, none⟩) ∧ ∃ x y, Blk W g 174 #[x, y]
theorem VarVR.var {b b' : Nat} {v : Value} {W W' : World} (h : VarVR b v W) (hs : VarStR b' W W') : VarVR b v W' := by
  obtain ⟨g, h1, h2, x, y, h3⟩ := h
  rcases hs.2 g h3.lt with e | ⟨_, cs, cs', _, e2, e3⟩
  · exact ⟨g, h1, h2, x, y, e.trans h3⟩
  · refine ⟨g, h1, h2, cs'[0]'(by omega), cs'[1]'(by omega), ?_⟩
    have : cs' = #[cs'[0]'(by omega), cs'[1]'(by omega)] := by
      refine Array.ext (by simp [e3]) fun i h1 h2 => ?_
      simp at h2
      match i, h2 with
      | 0, _ => rfl
      | 1, _ => rfl
    unfold Blk
    rw [← this]
    exact e2
def RPastW (H : List Txn) (A : Option Addr) (c base : Nat) : Nat → (Nat → Value) → World → Prop
  | 0, vs, _ => vs 0 = .agg #[.slice A H.length c]
  | 1, vs, W => GVR base H.length (soE H) (vs 1) W
  | 2, vs, _ => vs 2 = .agg #[.slice A H.length c]
  | 3, vs, W => GVR base H.length (wrE H) (vs 3) W
  | 4, vs, W => GVR base H.length (pastE H) (vs 4) W
  | 5, vs, W => VarVR base (vs 5) W
  | 6, vs, W => ∃ g x y, vs 5 = .pointer (some ⟨g, 0, none⟩) ∧ base ≤ g ∧ vs 4 = .agg #[x, y] ∧ Blk W g 174 #[x, y]
  | _, _, _ => True
def rpastD : Nat → List Nat
  | 1 => [0]
  | 3 => [2]
  | 4 => [1, 3]
  | 6 => [5, 4]
  | _ => []
theorem rpast_cg {H : List Txn} {A : Option Addr} {c base : Nat} : ∀ j (vs vs' : Nat → Value) w, (∀ k, k = j ∨ k ∈ rpastD j → vs k = vs' k) → RPastW H A c base j vs w → RPastW H A c base j vs' w := by
  intro j vs vs' w hk h
  match j, h with
  | 0, h | 1, h | 2, h | 3, h | 4, h | 5, h =>
    simp only [RPastW] at h ⊢
    rw [← hk _ (.inl rfl)]
    exact h
  | 6, h =>
    simp only [RPastW] at h ⊢
    rw [← hk 5 (.inr (by simp [rpastD])), ← hk 4 (.inr (by simp [rpastD]))]
    exact h
  | n + 7, _ => trivial
/-- What an operation leaves. -/
def RPastSt (s base : Nat) (i : Nat) (W W' : World) : Prop := if i = s then VarStR base W W' else Below W.heap.size W W'
theorem RPastSt.var {s base i : Nat} {W W' : World} (h : RPastSt s base i W W') : VarStR base W W' := by
  unfold RPastSt at h
  split at h
  · exact h
  · exact VarStR.of_below h
theorem rpast_keep {H : List Txn} {A : Option Addr} {c base : Nat} : ∀ i j (vs : Nat → Value) w w', j ≠ i → j ∉ (fun _ => [] : Nat → List Nat) i → RPastW H A c base j vs w → RPastSt 6 base i w w' → RPastW H A c base j vs w' := by
  intro i j vs w w' hne _ h hs
  have hv := hs.var
  match j, h with
  | 0, h | 2, h => exact h
  | 1, h | 3, h | 4, h =>
    simp only [RPastW] at h ⊢
    exact h.var hv
  | 5, h =>
    simp only [RPastW] at h ⊢
    exact VarVR.var h hv
  | 6, h =>
    unfold RPastSt at hs
    rw [if_neg (fun e => hne e.symm)] at hs
    simp only [RPastW] at h ⊢
    obtain ⟨g, x, y, h1, h2, h3, h4⟩ := h
    exact ⟨g, x, y, h1, h2, h3, h4.below hs h4.lt⟩
  | n + 7, _ => trivial
theorem rpastD_end : ∀ i, 7 ≤ i → rpastD i = [] := by
  intro i hi
  match i, hi with
  | n + 7, _ => rfl
set_option maxRecDepth 100000 in
theorem rpast17_any (A : Option Addr) (c : Nat) (H : List Txn) (w : World) (h : TxnS w (Old w) (.slice A H.length c) H) (hr : rightH H = true) (hn : SmallH H) :
    Calls Tryz.prog 166 #[.agg #[.slice A H.length c]] w (OutR w H.length (pastE H)) := by
  obtain ⟨W0, hW0⟩ : ∃ W0, (w.alloc (.cells #[.slice A H.length c] 24)).alloc (.cells #[.int .i64 0, .slice none 0 0] 174) = W0 := ⟨_, rfl⟩
  have hB := below_two hW0
  have k0 := Blk.two1 hW0
  have k1 := Blk.two2 hW0
  have h32 : H.length ≤ 64 := by have := ((rightH_iff H).1 hr).1; omega
  go_enter Tryz.func166, Tryz.ntmps166
  go_wp2_with fail
  clear hW0
  refine wp_region_rel (RPastW H A c (w.heap.size + 2)) (fun W => Below w.heap.size w W ∧ Blk W w.heap.size 24 #[.slice A H.length c] ∧ Blk W (w.heap.size + 1) 174 #[.int .i64 0, .slice none 0 0]) (RPastSt 6 (w.heap.size + 2)) rpastD (by kernel_rfl) (by kernel_rfl) (by kernel_rfl) rpastD_end (fun _ => []) (by kernel_rfl) rpast_cg rpast_keep ⟨hB.drew, k0, k1⟩ ?hstep ?hend
  case hstep =>
    intro i o ho vs W hS hd
    obtain ⟨hb, m0, m1⟩ := hS
    have hT := h.below hb
    have hsz : w.heap.size + 2 ≤ W.heap.size := m1.lt
    match i, ho with
    | 0, ho | 2, ho =>
      simp only [List.getElem?_cons_zero, List.getElem?_cons_succ, Option.some.injEq] at ho
      subst ho
      simp only [acV, List.getElem?_toArray, List.getElem?_cons_zero, List.getElem?_cons_succ, Act.put, List.setIfInBounds_toArray, List.set_cons_zero, List.set_cons_succ]
      have c0 := m0.cell 0
      simp only [List.getElem?_toArray, List.getElem?_cons_zero] at c0
      go_wp2
      exact ⟨rfl, .agg #[.slice A H.length c], rfl, rfl, ⟨hb, m0, m1⟩, Below.refl _ _⟩
    | 1, ho =>
      have d0 := hd 0 (by simp [rpastD])
      simp only [RPastW] at d0
      simp only [List.getElem?_cons_zero, List.getElem?_cons_succ, Option.some.injEq] at ho
      subst ho
      simp only [acV, List.getElem?_toArray, List.getElem?_cons_zero, List.getElem?_cons_succ, Act.put, List.setIfInBounds_toArray, List.set_cons_zero, List.set_cons_succ]
      rw [d0]
      go_wp2_with fail
      refine (rso17_any A c H _ hT hr).mono ?_
      intro e W2 hO
      obtain ⟨v, rfl, hG, hb2⟩ := GVR.of h32 hsz hO
      go_wp2
      exact ⟨rfl, _, rfl, hG, ⟨hb.trans (hb2.mono hb.size), m0.below hb2 m0.lt, m1.below hb2 m1.lt⟩, hb2⟩
    | 3, ho =>
      have d0 := hd 2 (by simp [rpastD])
      simp only [RPastW] at d0
      simp only [List.getElem?_cons_zero, List.getElem?_cons_succ, Option.some.injEq] at ho
      subst ho
      simp only [acV, List.getElem?_toArray, List.getElem?_cons_zero, List.getElem?_cons_succ, Act.put, List.setIfInBounds_toArray, List.set_cons_zero, List.set_cons_succ]
      rw [d0]
      go_wp2_with fail
      refine (rwr17_any A c H _ hT hr hn).mono ?_
      intro e W2 hO
      obtain ⟨v, rfl, hG, hb2⟩ := GVR.of h32 hsz hO
      go_wp2
      exact ⟨rfl, _, rfl, hG, ⟨hb.trans (hb2.mono hb.size), m0.below hb2 m0.lt, m1.below hb2 m1.lt⟩, hb2⟩
    | 4, ho =>
      have g1 := hd 1 (by simp [rpastD])
      have g3 := hd 3 (by simp [rpastD])
      simp only [RPastW] at g1 g3
      obtain ⟨A1, c1, d1, q1, -⟩ := g1.gr h32
      obtain ⟨A3, c3, d3, q3, -⟩ := g3.gr h32
      simp only [List.getElem?_cons_zero, List.getElem?_cons_succ, Option.some.injEq] at ho
      subst ho
      simp only [acV, List.getElem?_toArray, List.getElem?_cons_zero, List.getElem?_cons_succ, Act.put, List.setIfInBounds_toArray, List.set_cons_zero, List.set_cons_succ]
      rw [d1, d3]
      go_wp2_with fail
      refine (runion12_any H.length _ _ (soE H) _ _ (wrE H) (Old W) _ q1 q3 (fun b hb => hb)).mono ?_
      intro e W2 hO
      obtain ⟨v, rfl, hG, hb2⟩ := GVR.of h32 hsz hO
      go_wp2
      exact ⟨rfl, _, rfl, hG, ⟨hb.trans (hb2.mono hb.size), m0.below hb2 m0.lt, m1.below hb2 m1.lt⟩, hb2⟩
    | 5, ho =>
      simp only [List.getElem?_cons_zero, List.getElem?_cons_succ, Option.some.injEq] at ho
      subst ho
      simp only [acV, List.getElem?_toArray, List.getElem?_cons_zero, List.getElem?_cons_succ, Act.put, List.setIfInBounds_toArray, List.set_cons_zero, List.set_cons_succ]
      go_wp2
      exact ⟨rfl, _, rfl, ⟨W.heap.size, by omega, rfl, _, _, Blk.new _ _ _⟩, ⟨hb.alloc hb.size _, m0.alloc _, m1.alloc _⟩, (Below.refl _ _).alloc (Nat.le_refl _) _⟩
    | 6, ho =>
      obtain ⟨g, hg, d8, x, y, q8⟩ := hd 5 (by simp [rpastD])
      obtain ⟨A6, c6, d6, q6⟩ := hd 4 (by simp [rpastD])
      simp only [List.getElem?_cons_zero, List.getElem?_cons_succ, Option.some.injEq] at ho
      subst ho
      simp only [acV, List.getElem?_toArray, List.getElem?_cons_zero, List.getElem?_cons_succ, Act.put, List.setIfInBounds_toArray, List.set_cons_zero, List.set_cons_succ]
      rw [d8, d6]
      have c0 := q8.cell 0
      have c1 := q8.cell 1
      have f0 := q8.frozen 0
      have f1 := q8.frozen 1
      simp only [List.getElem?_toArray, List.getElem?_cons_zero, List.getElem?_cons_succ] at c0 c1
      go_wp2
      have hq := (q8.set_ 0 (.int .i64 H.length)).set_ 1 (.slice A6 H.length c6)
      have n1 : w.heap.size ≠ g := by omega
      have n2 : w.heap.size + 1 ≠ g := by omega
      refine ⟨rfl, undef, rfl, ⟨g, _, _, (show updV vs 6 undef 5 = _ from d8), hg, (show updV vs 6 undef 4 = _ from d6), by simpa using hq⟩, ⟨(hb.setCell (p := ⟨g, 0, none⟩) (by simp; omega) _).setCell (p := ⟨g, 1, none⟩) (by simp; omega) _, (m0.far n1 _).far n1 _, (m1.far n2 _).far n2 _⟩, ?_⟩
      unfold RPastSt
      rw [if_pos rfl]
      refine ⟨⟨rfl, rfl, rfl, by simp⟩, fun k hk => ?_⟩
      by_cases e : k = g
      · subst e
        exact .inr ⟨hg, _, _, q8, hq, by simp⟩
      · exact .inl ((Below.heap_setCell _ ⟨g, 1, none⟩ _ k e).trans (Below.heap_setCell _ ⟨g, 0, none⟩ _ k e))
    | n + 7, ho => simp at ho
  case hend =>
    rintro vs W ⟨hb, m0, m1⟩ hd
    obtain ⟨g, x, y, d8, hg, d6, q9⟩ := hd 6 (by simp) (by simp)
    obtain ⟨A6, c6, d6', q6⟩ := hd 4 (by simp) (by simp)
    rw [d6] at d6'
    injection d6' with d6'
    simp only [Array.mk.injEq, List.cons.injEq, and_true] at d6'
    obtain ⟨rfl, rfl⟩ := d6'
    clear hd
    simp only [acV, List.getElem?_toArray, List.getElem?_cons_zero, List.getElem?_cons_succ, Act.put, List.setIfInBounds_toArray, List.set_cons_zero, List.set_cons_succ, List.length_cons, List.length_nil, Nat.reduceAdd]
    rw [d8, d6]
    have c0 := q9.cell 0
    have c1 := q9.cell 1
    have j0 := m1.cell 0
    have j1 := m1.cell 1
    have jf := m1.frozen 0
    have jf1 := m1.frozen 1
    simp only [List.getElem?_toArray, List.getElem?_cons_zero, List.getElem?_cons_succ] at c0 c1 j0 j1
    go_wp2
    have kF0 := ((q6.far (p := ⟨w.heap.size + 1, 0, none⟩) (by simp) (.int .i64 H.length)).far (p := ⟨w.heap.size + 1, 1, none⟩) (by simp) (.slice A6 H.length c6)).base (B' := w.heap.size) (by omega)
    have hF := ((hb.setCell (p := ⟨w.heap.size + 1, 0, none⟩) (by simp) (.int .i64 H.length)).setCell (p := ⟨w.heap.size + 1, 1, none⟩) (by simp) (.slice A6 H.length c6))
    exact bodyPost_ret (v := .agg #[.int .i64 H.length, .slice A6 H.length c6]) (by simp [results, Tryz.results166, go_sem, j0, j1]) rfl ⟨_, rfl, kF0, hF⟩
end Go.Proofs.YtfhnamomiaekdaaGreat

namespace Go.Proofs.YtfhnamomiaekdaaGreat
open Go.RowKit Go.Inq
set_option maxHeartbeats 4000000
attribute [local go_sem ↓] Go.wp_at_zero Go.wp_at_succ

theorem writes18_any (A : Option Addr) (c : Nat) (H : List Txn) (hn : SmallH H) (t key : Int) (Bh : Nat) (w : World) (h : TxnS w (Old w) (.slice A H.length c) H) (hBh : w.cell? ⟨Bh, 0, none⟩ = some (.slice A H.length c)) :
    Calls Tryz.prog 202 #[.int .i64 t, .int .i64 key, .pointer (some ⟨Bh, 0, none⟩)] w fun e w' => e = .returned (.bool (wrB H t key)) ∧ w = w' := by
  have hlen := hn.1
  by_cases h0 : 0 ≤ t
  · have h0b : decide (t ≥ 0) = true := by simpa using h0
    by_cases h1 : t < (H.length : Int)
    · obtain ⟨m, rfl⟩ : ∃ m : Nat, t = m := ⟨t.toNat, by omega⟩
      have hm : m < H.length := by omega
      have hr := hide (wrB_nat (key := key) hm)
      rw [txnAt_of hm] at hr
      obtain ⟨b, off, Aw, cw, Ar, cr, rfl, _, d0, d1, d2, hws, _⟩ := TxnS.at_ h hm
      have hwl := (hn.2 _ (List.getElem_mem hm)).1
      generalize H[m] = x at *
      obtain ⟨ts, ws, rs⟩ := x
      dsimp only at *
      have hm1 : decide (m < H.length) = true := by simpa using hm
      have hm2 : (0 : Int) ≤ (m : Int) := Int.natCast_nonneg _
      replace hn := hide hn
      clear h h0
      go_enter Tryz.func202, Tryz.ntmps202
      go_wp2_with fail
      refine (contains_int Aw cw ws key _ _ hws (by unfold maxLen; omega)).mono ?_
      rintro e w3 ⟨rfl, rfl⟩
      generalize ws.contains key = cb at *
      go_wp2
      go_ret
      exact ⟨by rw [hr.out]; rfl, rfl⟩
    · have hr : wrB H t key = false := by unfold wrB; simp; intro _ e; exact absurd e h1
      have h1b : decide (t < (H.length : Int)) = false := by simpa using h1
      rw [hr]
      replace hn := hide hn
      clear h h0 h1 hr
      go_enter Tryz.func202, Tryz.ntmps202
      go_wp2
      go_ret
      exact ⟨rfl, rfl⟩
  · have hr : wrB H t key = false := by unfold wrB; simp; intro e; exact absurd e h0
    have h0b : decide (t ≥ 0) = false := by simpa using h0
    rw [hr]
    replace hn := hide hn
    clear h h0 hr
    go_enter Tryz.func202, Tryz.ntmps202
    go_wp2
    go_ret
    exact ⟨rfl, rfl⟩
theorem chk18_any (A : Option Addr) (c : Nat) (H : List Txn) (hn : SmallH H) (x : Cho) (Bh Bf : Nat) (w : World) (h : TxnS w (Old w) (.slice A H.length c) H) (hBh : w.cell? ⟨Bh, 0, none⟩ = some (.slice A H.length c)) (hBf : w.cell? ⟨Bf, 0, none⟩ = some (.func (.func 202) #[] #[.pointer (some ⟨Bh, 0, none⟩)])) :
    Calls Tryz.prog 204 #[.agg #[.int .i64 x.key, .int .i64 x.a, .int .i64 x.b], .pointer (some ⟨Bf, 0, none⟩)] w fun e w' => e = .returned (.bool (!oneB H x)) ∧ Below w.heap.size w w' := by
  obtain ⟨key, a, b⟩ := x
  dsimp only
  obtain ⟨W0, hW0⟩ : ∃ W0, w.alloc (.cells #[.int .i64 key, .int .i64 a, .int .i64 b] 89) = W0 := ⟨_, rfl⟩
  have hB := below_allocEq (Below.refl w.heap.size w) hW0 (Nat.le_refl _)
  have k0 := Blk.newEq hW0
  have hBh2 := (hB.cell (p := ⟨Bh, 0, none⟩) (block_lt_of_cell hBh)).trans hBh
  have hBf2 := (hB.cell (p := ⟨Bf, 0, none⟩) (block_lt_of_cell hBf)).trans hBf
  have h2 := hide (h.below hB)
  have c0 := k0.cell 0
  have c1 := k0.cell 1
  have c2 := k0.cell 2
  simp only [List.getElem?_toArray, List.getElem?_cons_zero, List.getElem?_cons_succ] at c0 c1 c2
  replace hn := hide hn
  clear h hBh hBf
  by_cases h0 : a = b
  · have hr : oneB H ⟨key, a, b⟩ = false := by unfold oneB; simp [h0]
    have h0b : (a == b) = true := by simpa using h0
    rw [hr]
    clear h0 hr
    go_enter Tryz.func204, Tryz.ntmps204
    go_wp2
    go_ret
    exact ⟨rfl, hB⟩
  · have hr : oneB H ⟨key, a, b⟩ = (wrB H a key && wrB H b key) := by unfold oneB; simp [h0]
    have h0b : (a == b) = false := by simpa using h0
    rw [hr]
    clear h0 hr
    go_enter Tryz.func204, Tryz.ntmps204
    go_wp2_with fail
    clear hW0
    refine (writes18_any A c H hn.out a key Bh _ h2.out hBh2).mono ?_
    rintro e w1 ⟨rfl, rfl⟩
    cases hw : wrB H a key with
    | false =>
      replace hw := hide hw
      go_wp2
      go_ret
      exact ⟨by rw [hw.out]; rfl, hB⟩
    | true =>
      replace hw := hide hw
      go_wp2_with fail
      refine (writes18_any A c H hn.out b key Bh _ h2.out hBh2).mono ?_
      rintro e w1 ⟨rfl, rfl⟩
      go_wp2
      go_ret
      exact ⟨by rw [hw.out]; rfl, hB⟩
set_option maxRecDepth 100000 in
theorem right18_any (A : Option Addr) (c : Nat) (H : List Txn) (Al : Option Addr) (cl : Nat) (l : List Cho) (w : World) (h : TxnS w (Old w) (.slice A H.length c) H) (hn : SmallH H) (hl : ChoS w (Old w) (.slice Al l.length cl) l) (hln : l.length ≤ 1000000000) :
    Calls Tryz.prog 144 #[.agg #[.slice A H.length c], .slice Al l.length cl] w fun e w' => e = .returned (.bool (rightC H l)) ∧ Below w.heap.size w w' := by
  obtain ⟨W0, hW0⟩ : ∃ W0, w.alloc (.cells #[.slice A H.length c] 24) = W0 := ⟨_, rfl⟩
  have hB := below_allocEq (Below.refl w.heap.size w) hW0 (Nat.le_refl _)
  have k0 := Blk.newEq hW0
  have h2 := hide (h.below hB)
  have hl2 := hide (hl.below hB)
  have c0 := k0.cell 0
  simp only [List.getElem?_toArray, List.getElem?_cons_zero, List.getElem?_cons_succ] at c0
  replace hn := hide hn
  have hs0 := size_allocEq hW0
  replace hs0 := hide hs0
  have hrc : Hid (rightC H l = (rightH H && decide (l.length ≤ 20000) && l.all (oneB H))) := hide rfl
  have hal : Hid (l.all (oneB H) = !(l.any fun x => !oneB H x)) := hide (by rw [Bool.eq_iff_iff]; simp)
  clear h hl
  go_enter Tryz.func144, Tryz.ntmps144
  go_wp2_with fail
  clear hW0 c0
  refine (right8_any A c H _ h2.out hn.out).mono ?_
  rintro e w1 ⟨rfl, hb1⟩
  replace k0 := k0.below hb1 k0.lt
  have hT1 := hide (h2.out.below hb1)
  have hC1 := hide (hl2.out.below hb1)
  have hb := hB.trans (hb1.mono hB.size)
  clear hb1 hB h2 hl2
  cases hr : rightH H with
  | false =>
    rw [hr] at hrc
    clear hr
    go_wp2
    go_ret
    exact ⟨by rw [hrc.out]; rfl, hb⟩
  | true =>
    rw [hr] at hrc
    clear hr
    by_cases hm : l.length ≤ 20000
    · have hm1 : decide ((l.length : Int) > 20000) = false := by simp; omega
      have hm2 : decide (l.length ≤ 20000) = true := by simpa using hm
      rw [hm2] at hrc
      obtain ⟨W2, hW2⟩ : ∃ W2, w1.alloc (.cells #[.func (.func 202) #[] #[.pointer (some ⟨w.heap.size, 0, none⟩)]] 170) = W2 := ⟨_, rfl⟩
      have hB2 := below_allocEq (Below.refl w1.heap.size w1) hW2 (Nat.le_refl _)
      have kF := Blk.newEq hW2
      have hT2 := hT1.out.below hB2
      have hC2 := hC1.out.below hB2
      have k02 := k0.allocEq hW2
      have hb2 := hb.trans (hB2.mono hb.size)
      have hcall := hide (containsC_any 204 (enters_of Tryz.func204 (by kernel_rfl) rfl) #[.pointer (some ⟨w1.heap.size, 0, none⟩)] (fun x => !oneB H x) Al cl l W2 hC2 (by omega) (fun W hbW x _ =>
        chk18_any A c H hn.out x w.heap.size w1.heap.size W (hT2.below hbW) (by have := (k02.below hbW k02.lt).cell 0; simpa using this) (by have := (kF.below hbW kF.lt).cell 0; simpa using this)))
      clear hm hm2 hB2 kF hT1 hC1 hT2 hC2 k0 k02
      go_wp2_with fail
      clear hW2
      refine hcall.out.mono ?_
      rintro e w3 ⟨rfl, hb3⟩
      have hb4 := hb2.trans (hb3.mono hb2.size)
      clear hcall
      go_wp2
      go_ret
      exact ⟨by rw [hrc.out, hal.out]; simp, hb4⟩
    · have hm1 : decide ((l.length : Int) > 20000) = true := by simp; omega
      have hm2 : decide (l.length ≤ 20000) = false := by simpa using hm
      rw [hm2] at hrc
      clear hm hm2
      go_wp2
      go_ret
      exact ⟨by rw [hrc.out]; rfl, hb⟩
end Go.Proofs.YtfhnamomiaekdaaGreat

namespace Go.Proofs.YtfhnamomiaekdaaGreat
open Go.RowKit Go.Inq
set_option maxHeartbeats 4000000
attribute [local go_sem ↓] Go.wp_at_zero Go.wp_at_succ

theorem sizeU12 : (Tryz.prog.info? 246).map (·.size) = some 1 := by kernel_rfl
end Go.Proofs.YtfhnamomiaekdaaGreat

namespace Go.Inq
open Go
section
variable {P : Program} {ops : Array Oper} {Q : Exit → Act → World → Prop} {md : Region.Mode}

def tailsOf (i : Nat) (tss : List (List Nat)) : List (List Nat) :=
  tss.filterMap fun r => match r with
    | t :: r' => if t = i then some r' else none
    | [] => none

/-- The rows tss, walked as a tree. -/
def wpAlt (P : Program) (ops : Array Oper) (Q : Exit → Act → World → Prop) : Nat → List (List Nat) → Act → World → Prop
  | 0, _, a, w => Q .normal a w
  | n + 1, tss, a, w => ∀ i ∈ tss.filterMap List.head?, wpOp P ops Q i (wpAlt P ops Q n (tailsOf i tss)) a w

def tailsB (md : Region.Mode) (ops : Array Oper) (us : List Nat) : Nat → List (List Nat) → Array Bool → Bool
  | 0, _, listed => (Region.ready md ops listed).isEmpty
  | n + 1, tss, listed =>
    (match tss.filterMap List.head? with
      | t :: r => r.all (· == t) && us.contains t && (Region.ready md ops listed).contains t && Region.free md ops listed t && (match ops[t]? with | some o => calmOp o.op | none => false) &&
          tailsB md ops us n (tailsOf t tss) (listed.setIfInBounds t true)
      | [] => false) ||
    (!(Region.ready md ops listed).isEmpty && (Region.ready md ops listed).all fun i => (tss.filterMap List.head?).contains i && us.contains i && tailsB md ops us n (tailsOf i tss) (listed.setIfInBounds i true))

/-- Operations that look, or do nothing to the world. -/
def stillOp : Op → Bool
  | .move _ | .assign _ | .pick .. | .build .. | .indexAddr .. | .extract .. | .makeFunc .. | .nilCheck _ | .load .. => true
  | _ => false

theorem stillOp_spec {ρ : Operand → Value} {o : Oper} (h : stillOp o.op = true) {w w' : World} {n : Next} (hr : (execOp ρ o).run P w = .ok n w') : w' = w ∧ ∃ v, n = .value v := by
  by_cases hl : loadOp o.op = true
  · cases ho : o.op <;> rw [ho] at hl <;> simp [loadOp] at hl
    case load t x =>
      have e : execOp ρ o = (do Pure.pure (.value (← Instr.loadAt t (ρ x)))) := by unfold execOp; rw [ho]
      have hv := valueOp_spec (P := P) (ρ := ρ) (o := o) (by rw [ho]; rfl) hr
      rw [e] at hr
      exact ⟨(Stb.bind (Stb.loadAt _ _) (fun _ => (Clear.pure _).stb) P _ _ _ hr).1, hv⟩
  · have hw : worldless P o.op = true := by cases ho : o.op <;> rw [ho] at h hl <;> simp [stillOp, loadOp] at h hl <;> rfl
    have hv := valueOp_spec (P := P) (ρ := ρ) (o := o) (by cases ho : o.op <;> rw [ho] at h hl <;> simp [stillOp, loadOp] at h hl <;> rfl) hr
    refine ⟨?_, hv⟩
    have := (worldless_spec hw hr w).symm.trans hr
    injection this with _ e
    exact e.symm

theorem wpOp_still {t : Nat} {o : Oper} {a : Act} {w : World} {K : Act → World → Prop} (ho : ops[t]? = some o) (hc : stillOp o.op = true) (h : wpOp P ops Q t K a w) : wpOp P ops Q t (fun a' w' => w' = w ∧ K a' w') a w := by
  unfold wpOp at *
  rw [ho] at h ⊢
  dsimp only at *
  by_cases hw : Region.wanted o (yielded ops a.tmps) = true
  · rw [if_pos hw] at h ⊢
    refine h.imp (fun h => ?_) id
    unfold Oper.wp at *
    generalize hr : (execOp a.eval o).run P w = r at *
    cases r with
    | halt x w' => cases x <;> simp only [Oper.upon] at h ⊢ <;> exact h
    | ok n w' =>
      obtain ⟨he, v, rfl⟩ := stillOp_spec hc hr
      exact ⟨he, h⟩
  · rw [if_neg hw] at h ⊢
    exact ⟨rfl, h⟩

def classA (ops : Array Oper) (us : List Nat) (j : Nat) : Nat :=
  if us.contains j then (match ops[j]? with | some o => if allocOp o.op then 1 else if stillOp o.op then 0 else 2 | none => 0) else 0

theorem cls_of_op {us : List Nat} {t : Nat} (hf : us.contains t = true) {K : Act → World → Prop} {a : Act} {w : World} (h : wpOp P ops Q t K a w) :
    wpOp P ops Q t (fun a' w' => ((classA ops us t = 0 → w' = w) ∧ (classA ops us t = 1 → Ext w w')) ∧ K a' w') a w := by
  cases ho : ops[t]? with
  | none => unfold wpOp at *; rw [ho] at h ⊢; exact ⟨⟨fun _ => rfl, fun _ => Ext.refl _⟩, h⟩
  | some o =>
    have e : classA ops us t = if allocOp o.op then 1 else if stillOp o.op then 0 else 2 := by unfold classA; rw [if_pos hf, ho]
    rw [e]
    by_cases hal : allocOp o.op = true
    · rw [if_pos hal]
      exact wpOp_mono (fun a' w' h => ⟨⟨fun h0 => absurd h0 (by simp), fun _ => h.1⟩, h.2⟩) (wpOp_alloc ho hal h)
    · rw [if_neg hal]
      by_cases hst : stillOp o.op = true
      · rw [if_pos hst]
        exact wpOp_mono (fun a' w' h => ⟨⟨fun _ => h.1, fun h1 => absurd h1 (by simp)⟩, h.2⟩) (wpOp_still ho hst h)
      · rw [if_neg hst]
        exact wpOp_mono (fun a' w' h => ⟨⟨fun h0 => absurd h0 (by simp), fun h1 => absurd h1 (by simp)⟩, h⟩) h

theorem wpAnyP_alt {us : List Nat} (hQ : ∀ c a (d : Option Tmp) v w, Q (.panic c) (a.put d v) w → Q (.panic c) a w) (hs : Region.noSelect ops = true) : ∀ (n : Nat) (tss : List (List Nat)) (listed : Array Bool) (a : Act) (w : World), Closed md ops listed → tailsB md ops us n tss listed = true →
    wpAlt P ops Q n tss a w → wpAnyP P md ops Q (classA ops us) n listed a w
  | 0, _, _, _, _, _, hB, h => ⟨by simpa [tailsB] using hB, h⟩
  | n + 1, tss, listed, a, w, hcl, hB, h => by
    unfold tailsB at hB
    rw [Bool.or_eq_true] at hB
    unfold wpAlt at h
    rcases hB with hB | hB
    · split at hB
      · rename_i t r hheads
        simp only [Bool.and_eq_true] at hB
        obtain ⟨⟨⟨⟨⟨_, hu⟩, hr⟩, hfr⟩, hc⟩, hB⟩ := hB
        have hr' : t ∈ Region.ready md ops listed := by simpa using hr
        have h1 := h t (by rw [hheads]; simp)
        cases ho : ops[t]? with
        | none => rw [ho] at hc; cases hc
        | some o =>
          rw [ho] at hc
          obtain ⟨v, hy, hK⟩ := yields_of_calm ho hc h1
          exact wpAnyP_first (S := fun _ => True) ho (Region.noSelect_spec hs) (fun c a w => hQ c a _ _ w) (fun _ _ _ _ _ _ _ _ _ => trivial) _ listed a w hcl (Region.free_spec ho hfr) hr' hy trivial
            (wpAnyP_alt hQ hs n _ _ _ w (hcl.set_ hr') hB hK)
      · cases hB
    · simp only [Bool.and_eq_true, List.all_eq_true] at hB
      refine ⟨fun h0 => (by rw [h0] at hB; simp at hB), fun i hi => ?_⟩
      obtain ⟨⟨hh, hu⟩, hB2⟩ := hB.2 i hi
      have h1 := h i (by simpa using hh)
      exact wpOp_mono (fun a' w' h' => ⟨h'.1, wpAnyP_alt hQ hs n _ _ a' w' (hcl.set_ hi) hB2 h'.2⟩) (cls_of_op hu h1)

def earlyAB (P : Program) (md : Region.Mode) (ops : Array Oper) (us : List Nat) (tss : List (List Nat)) : List Nat → Array Bool → Bool
  | [], listed => tailsB md ops us us.length tss listed
  | i :: es, listed => (Region.ready md ops listed).contains i && Region.free md ops listed i && !us.contains i &&
      (match ops[i]? with
        | some o => valueOp o.op && (worldless P o.op || (us.all fun j => waitsT md ops ops.size j i || ((match ops[j]? with | some oj => stillOp oj.op && !allocOp oj.op | none => false) || (loadOp o.op && (match ops[j]? with | some oj => allocOp oj.op | none => false)))))
        | none => false) &&
      earlyAB P md ops us tss es (listed.setIfInBounds i true)

theorem class_still {us : List Nat} {j : Nat} (hfj : us.contains j = true) (h : (match ops[j]? with | some oj => stillOp oj.op && !allocOp oj.op | none => false) = true) : classA ops us j = 0 := by
  unfold classA
  rw [if_pos hfj]
  cases hoj : ops[j]? with
  | none => rfl
  | some oj =>
    rw [hoj] at h
    simp only [Bool.and_eq_true, Bool.not_eq_true'] at h
    simp [h.1, h.2]

theorem wpAnyP_earlyA {w : World} (hQ : ∀ c a (d : Option Tmp) v w, Q (.panic c) (a.put d v) w → Q (.panic c) a w) (hs : Region.noSelect ops = true) (us : List Nat) (tss : List (List Nat)) : ∀ (es : List Nat) (listed : Array Bool) (a : Act), Closed md ops listed →
    earlyAB P md ops us tss es listed = true → wpStill P ops w (fun a' => wpAlt P ops Q us.length tss a' w) (es.filterMap (ops[·]?)) a → wpAnyP P md ops Q (classA ops us) (es.length + us.length) listed a w
  | [], listed, a, hcl, hB, h => by
    simp only [List.length_nil, Nat.zero_add]
    exact wpAnyP_alt hQ hs us.length tss listed a w hcl hB h
  | i :: es, listed, a, hcl, hB, h => by
    simp only [earlyAB, Bool.and_eq_true] at hB
    obtain ⟨⟨⟨⟨hr, hf⟩, hnt⟩, hk⟩, hrest⟩ := hB
    have hr' : i ∈ Region.ready md ops listed := by simpa using hr
    cases ho : ops[i]? with
    | none => rw [ho] at hk; cases hk
    | some o =>
      rw [ho] at hk
      simp only [Bool.and_eq_true, Bool.or_eq_true] at hk
      rw [List.filterMap_cons_some ho] at h
      obtain ⟨v, hy, hy0, hyl, hK⟩ := yieldsIf_of_still (K := wpStill P ops w (fun a' => wpAlt P ops Q us.length tss a' w) (es.filterMap (ops[·]?))) hk.1 h
      have IH := wpAnyP_earlyA hQ hs us tss es (listed.setIfInBounds i true) _ (hcl.set_ hr') hrest hK
      rw [List.length_cons, show es.length + 1 + us.length = (es.length + us.length) + 1 by omega]
      rcases hk.2 with hl | hl
      · exact wpAnyP_first (S := fun _ => True) ho (Region.noSelect_spec hs) (fun c a w => hQ c a _ _ w) (fun _ _ _ _ _ _ _ _ _ => trivial) _ listed a w hcl (Region.free_spec ho hf) hr' (hy0 hl) trivial IH
      · by_cases hld : loadOp o.op = true
        · refine wpAnyP_first (S := fun u => Ext w u) ho (Region.noSelect_spec hs) (fun c a w => hQ c a _ _ w) (fun listed' j hcl' hj hun u u' hu hc => ?_) _ listed a w hcl (Region.free_spec ho hf) hr' (hyl hld) (Ext.refl _) IH
          cases hfj : us.contains j with
          | false =>
            have : classA ops us j = 0 := by unfold classA; rw [if_neg (by rw [hfj]; simp)]
            rw [hc.1 this]
            exact hu
          | true =>
            have hwj := List.all_eq_true.1 hl j (by simpa using hfj)
            simp only [Bool.or_eq_true, Bool.and_eq_true] at hwj
            rcases hwj with hwj | hwj | ⟨_, hwj⟩
            · rw [hcl'.ready hwj hj] at hun
              cases hun
            · rw [hc.1 (class_still hfj hwj)]
              exact hu
            · cases hoj : ops[j]? with
              | none => rw [hoj] at hwj; cases hwj
              | some oj =>
                rw [hoj] at hwj
                have : classA ops us j = 1 := by unfold classA; rw [if_pos hfj, hoj]; simp [hwj]
                exact hu.trans (hc.2 this)
        · refine wpAnyP_first (S := fun u => u = w) ho (Region.noSelect_spec hs) (fun c a w => hQ c a _ _ w) (fun listed' j hcl' hj hun u u' hu hc => ?_) _ listed a w hcl (Region.free_spec ho hf) hr' hy rfl IH
          cases hfj : us.contains j with
          | false =>
            have : classA ops us j = 0 := by unfold classA; rw [if_neg (by rw [hfj]; simp)]
            rw [hc.1 this]
            exact hu
          | true =>
            have hwj := List.all_eq_true.1 hl j (by simpa using hfj)
            simp only [Bool.or_eq_true, Bool.and_eq_true] at hwj
            rcases hwj with hwj | hwj | ⟨h2, _⟩
            · rw [hcl'.ready hwj hj] at hun
              cases hun
            · rw [hc.1 (class_still hfj hwj)]
              exact hu
            · exact absurd h2 hld

def planAB (P : Program) (ops : Array Oper) (es us : List Nat) (tss : List (List Nat)) : Bool :=
  Region.noSelect ops && (es.length + us.length == ops.size) && earlyAB P .any ops us tss es (Array.replicate ops.size false)

theorem wpStill_mono' {w : World} {K K' : Act → Prop} (hk : ∀ a, K a → K' a) (os : List Oper) (a : Act) (h : wpStill P ops w K os a) : wpStill P ops w K' os a := wpStill_mono hk os a h

/-- A REGION THAT DRAWS ITS ORDER, BY A PLAN WITH ALTERNATIVES. -/
theorem wp_region_alts {id : Nat} {a : Act} {w : World} {l : List Oper} (es us : List Nat) (tss : List (List Nat)) (hm : P.follows .mixedOrders = true) (hB : planAB P l.toArray es us tss = true)
    (hQ : ∀ c a (d : Option Tmp) v w, Q (.panic c) (a.put d v) w → Q (.panic c) a w)
    (h : wpStill P l.toArray w.drew (fun a' => wpAlt P l.toArray Q us.length tss a' w.drew) (es.filterMap (l[·]?)) a) : (Code.region id l.toArray true).wp P Q a w := by
  simp only [planAB, Bool.and_eq_true, beq_iff_eq] at hB
  obtain ⟨⟨hs, hn⟩, hE⟩ := hB
  refine wp_region_any hm (wpAny_of_P (cls := classA l.toArray us) _ _ _ _ ?_)
  rw [← hn]
  refine wpAnyP_earlyA (w := w.drew) hQ hs us tss es _ a (Closed.start _ _ _) (by rw [hn]; exact hE) ?_
  have e1 : (fun (i : Nat) => l.toArray[i]?) = fun (i : Nat) => l[i]? := by funext i; simp
  rw [e1]
  exact h

/-- One step of the tree. -/
theorem wpOp_list {i : Nat} {o : Oper} {K : Act → World → Prop} {a : Act} {w : World} (ho : ops[i]? = some o) (h : wpList P ops (Exit.then K Q) [o] a w) : wpOp P ops Q i K a w := by
  unfold wpOp
  rw [ho]
  unfold wpList at h
  dsimp only
  split at h
  · rename_i hw
    rw [if_pos hw]
    refine h.imp (fun h => ?_) id
    unfold Oper.wp at h ⊢
    generalize (execOp a.eval o).run P w = r at h ⊢
    cases r with
    | halt x w' => cases x <;> exact h
    | ok n w' => cases n <;> exact h
  · rename_i hw
    rw [if_neg hw]
    exact h

/-- One row is left. -/
theorem wpAlt_one : ∀ (ts : List Nat) (n : Nat) (a : Act) (w : World), ts.length = n → wpList P ops Q (ts.filterMap (ops[·]?)) a w → wpAlt P ops Q n [ts] a w
  | [], n, a, w, hn, h => by
    subst hn
    exact h
  | t :: ts, n, a, w, hn, h => by
    subst hn
    intro i hi
    have : i = t := by simpa using hi
    subst this
    have e : tailsOf i [i :: ts] = [ts] := by simp [tailsOf]
    rw [e]
    cases ho : ops[i]? with
    | none =>
      unfold wpOp
      rw [ho]
      rw [List.filterMap_cons_none ho] at h
      exact wpAlt_one ts _ a w rfl h
    | some o =>
      rw [List.filterMap_cons_some ho] at h
      unfold wpOp
      rw [ho]
      unfold wpList at h
      dsimp only
      split at h
      · rename_i hw
        rw [if_pos hw]
        exact h.imp (Oper.wp_mono fun a w => wpAlt_one ts _ a w rfl) id
      · rename_i hw
        rw [if_neg hw]
        exact wpAlt_one ts _ _ _ rfl h
end
end Go.Inq

namespace Go.Proofs.YtfhnamomiaekdaaGreat
open Go.RowKit Go.Inq
set_option maxHeartbeats 4000000
attribute [local go_sem ↓] Go.wp_at_zero Go.wp_at_succ

/-- The edges of the first k nodes. -/
def partE (k : Nat) (E : Edges) : Edges := fun a b => decide (a < k) && E a b
theorem partE_zero (E : Edges) : partE 0 E = noE := by funext a b; simp [partE, noE]
theorem partE_all {n : Nat} {E : Edges} {a b : Nat} (ha : a < n) (_ : b < n) : partE n E a b = E a b := by simp [partE, ha]
theorem partE_step {n k : Nat} {E : Edges} {x : Nat} (hk : k < n) (hx : x = setB (E k) n) : (rowsB n (partE k E)).setIfInBounds k (.int .u64 (x : Nat)) = rowsB n (partE (k + 1) E) := by
  rw [rowsB_set hk hx]
  refine rowsB_congr fun a b ha hb => ?_
  by_cases e : a = k
  · subst e; simp [partE]
  · have : decide (a < k + 1) = decide (a < k) := by simp; omega
    simp [partE, e, this]
end Go.Proofs.YtfhnamomiaekdaaGreat

namespace Go.Proofs.YtfhnamomiaekdaaGreat
open Go.RowKit Go.Inq
set_option maxHeartbeats 4000000
attribute [local go_sem ↓] Go.wp_at_zero Go.wp_at_succ

def encP (p : Nat × Nat) : List Value := [.int .i64 (p.1 : Nat), .int .i64 (p.2 : Nat)]
theorem encP_one : ∀ (x : Nat × Nat), ∀ u ∈ encP x, u.oneCell' = true := by
  intro x u hu
  simp [encP] at hu
  rcases hu with rfl | rfl <;> rfl
/-- The edges that lead from the first k nodes. -/
def edgesTo (n : Nat) (E : Edges) (k : Nat) : List (Nat × Nat) := ((List.range k).map fun a => ((List.range n).filter (E a)).map fun b => (a, b)).flatten
theorem edgesTo_all (n : Nat) (E : Edges) : edgesTo n E n = edgesG n E := rfl
theorem edgesTo_step (n : Nat) (E : Edges) (k : Nat) : edgesTo n E (k + 1) = edgesTo n E k ++ ((List.range n).filter (E k)).map fun b => (k, b) := by
  unfold edgesTo
  rw [List.range_succ, List.map_append, List.flatten_append]; simp
theorem edgesTo_len (n : Nat) (E : Edges) : ∀ k, (edgesTo n E k).length ≤ k * n
  | 0 => by simp [edgesTo]
  | k + 1 => by
    have h := edgesTo_len n E k
    have h2 : ((List.range n).filter (E k)).length ≤ n := Nat.le_trans (List.length_filter_le _ _) (by simp)
    rw [edgesTo_step, List.length_append, List.length_map, Nat.add_mul]
    omega
end Go.Proofs.YtfhnamomiaekdaaGreat

namespace Go.Proofs.YtfhnamomiaekdaaGreat
open Go.RowKit Go.Inq
set_option maxHeartbeats 4000000
attribute [local go_sem ↓] Go.wp_at_zero Go.wp_at_succ

theorem turn_step (l : List (Nat × Nat)) (a b : Nat) : turnE (Go.Inq.ofL (l ++ [(a, b)])) = orE (turnE (Go.Inq.ofL l)) (oneE b a) := by
  rw [ofL_snoc]
  funext x y
  simp [turnE, orE, oneE, Bool.and_comm]
theorem turn_nil : turnE (Go.Inq.ofL []) = noE := by funext x y; simp [turnE, Go.Inq.ofL, noE]
theorem turn_all {n : Nat} {E : Edges} {a b : Nat} (ha : a < n) (hb : b < n) : turnE (Go.Inq.ofL (edgesG n E)) a b = turnE E a b := by
  unfold turnE Go.Inq.ofL
  rw [Bool.eq_iff_iff, List.contains_iff_mem, edgesG_mem]
  exact ⟨fun h => h.2.2, fun h => ⟨hb, ha, h⟩⟩
end Go.Proofs.YtfhnamomiaekdaaGreat
