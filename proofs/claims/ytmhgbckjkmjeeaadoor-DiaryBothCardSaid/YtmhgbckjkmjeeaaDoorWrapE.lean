/-
  The wrapping of the tied statements of layers 3 and 4: what the program's own variables hold; events opened.
-/
import Derived.Test.YtmhgbckjkmjeeaaDoorWrapD
import Derived.Test.YtmhgbckjkmjeeaaDoorEvent1
import Derived.Lib.LaidU8
import Derived.Deep.Slices
import Derived.Deep.Fields
import Derived.ChangeSame
import Derived.Lib.SmallJoins
set_option linter.unusedVariables false
set_option linter.unusedSimpArgs false
namespace Go.Proofs.YtmhgbckjkmjeeaaDoor
open Go.Joins Go.ChangeShapes Go.WideShapes Go.ChangeAt Go.RowKit Go.Deep Go.Inq

theorem tab_of {l : List (String × DataW Unit)} {W : World} (h : laidMet Tryd.prog l W) (hm : ("internal/strconv.uint64pow10", Rows.laid_internal_strconv_uint64pow10) ∈ l) : Tab W := by
  obtain ⟨g, t, cs, fuel, p, hg, ht, hv, hd⟩ := Lib.laidMet.reads h hm
  obtain rfl := Option.some.inj ((show Tryd.prog.globalNamed "internal/strconv.uint64pow10" = some 2 by kernel_rfl).symm.trans hg)
  obtain rfl := Option.some.inj ((show (Tryd.prog.globals[2]?).map (·.type) = some 94 by kernel_rfl).symm.trans ht)
  have hc := Lib.cells_of_tab (k := .u64) (zs := Lib.pow10Tab) Tryd.underlying94 Tryd.underlying83 (by kernel_rfl) (by kernel_rfl) hd
  unfold Tab Lib.TabIs
  rw [hv, ← hc]
theorem words_of {l : List (String × DataW Unit)} {W : World} (h : laidMet Tryd.prog l W) (hm : ("inquest/event.words", Rows.laid_inquest_event_words) ∈ l) : WordsG W := by
  obtain ⟨g, t, cs, fuel, p, hg, ht, hv, hd⟩ := Lib.laidMet.reads h hm
  obtain rfl := Option.some.inj ((show Tryd.prog.globalNamed "inquest/event.words" = some 0 by kernel_rfl).symm.trans hg)
  obtain rfl := Option.some.inj ((show (Tryd.prog.globals[0]?).map (·.type) = some 47 by kernel_rfl).symm.trans ht)
  obtain ⟨xs, m, _, ex, _, hl, hel⟩ := DataW.trod_array Tryd.underlying47 hd
  have c5 : Tryd.prog.cellsOf 9 = 1 := by kernel_rfl
  intro k hk
  have hE := hel k hk
  rw [c5, Nat.mul_one, List.getElem?_eq_getElem (by omega)] at hE
  obtain ⟨z, e1, e2, _⟩ := DataW.trod_string Tryd.underlying9 hE
  have e3 : (xs.map (·.1)) = [0, 1, 2, 3, 4].map fun k => .lit (.string (wordK k)) := (DataW.agg.inj (Prod.mk.inj ex).1).symm
  have e4 : (xs.map (·.1))[k]? = some (.lit (.string (wordK k))) := by
    rw [e3]
    obtain rfl | rfl | rfl | rfl | rfl : k = 0 ∨ k = 1 ∨ k = 2 ∨ k = 3 ∨ k = 4 := by omega
    all_goals rfl
  rw [List.getElem?_map, List.getElem?_eq_getElem (by omega : k < xs.length), e2] at e4
  have hz : z.data.toList = wordK k := by simpa using e4
  rw [World.var?_cell hg hv k]
  have : cs.toList[k]? = some (.string z) := by
    have h0 : ((cs.toList.drop k).take 1)[0]? = some (.string z) := by rw [e1]; rfl
    simpa using h0
  rw [← hz, mk_of]
  simpa using this
theorem Env.of {l : List (String × DataW Unit)} {W : World} (hs : W.ShapedOpen Tryd.prog) (h : laidMetH Tryd.prog l W) (hp : laidMetH Tryd.prog l W = laidMet Tryd.prog l W)
    (h1 : ("internal/strconv.uint64pow10", Rows.laid_internal_strconv_uint64pow10) ∈ l) (h2 : ("inquest/event.words", Rows.laid_inquest_event_words) ∈ l) : Env W := by
  rw [hp] at h
  exact ⟨Glob.of hs, tab_of h h1, words_of h h2⟩

section
variable {H : Type} {enc : TypeId × Value → H} {w : World} {base : Nat} {spare : Nat → Bool} {held : Bool}

/-- Four cells of numbers that read as a struct. -/
theorem open_event {n : Nat} {cs : List Value} {x : DataW H × List MemPlace} (hC : Tryd.prog.cellsOf 23 = 4) (h : DataW.trod enc Tryd.prog w base spare held n 23 cs = some x) : ∃ e : Ev, cs = e.enc := by
  obtain ⟨y0, y1, y2, y3, n', _, hl, h0, h1, h2, h3⟩ := trod_struct4 Tryd.underlying23 h
  rw [hC] at hl
  have h31 : Tryd.prog.cellsOf 3 = 1 := by kernel_rfl
  simp only [h31] at h0 h1 h2 h3
  match cs, hl with
  | [a, b, c, d], _ =>
    obtain ⟨k0, e0, _⟩ := DataW.trod_int Tryd.underlying3 h0
    obtain ⟨k1, e1, _⟩ := DataW.trod_int Tryd.underlying3 h1
    obtain ⟨k2, e2, _⟩ := DataW.trod_int Tryd.underlying3 h2
    obtain ⟨k3, e3, _⟩ := DataW.trod_int Tryd.underlying3 h3
    simp at e0 e1 e2 e3
    exact ⟨⟨k0, k1, k2, k3⟩, by simp [Ev.enc, e0, e1, e2, e3]⟩

/-- A slice of events, opened to a list. -/
theorem open_events {n : Nat} {v : Value} {x : DataW H × List MemPlace} (h : DataW.trod enc Tryd.prog w base spare held n 35 [v] = some x) :
    ∃ (A : Option Addr) (c : Nat) (l : List Ev), v = .slice A l.length c ∧ EvS w (Old w) (.slice A l.length c) l ∧ l.length ≤ maxLen := by
  have hC : Tryd.prog.cellsOf 23 = 4 := by kernel_rfl
  rcases open_slice Tryd.underlying35 h with ⟨h1, _⟩ | ⟨a, len, cap, m, n', D, Pl, h1, _, hl, hm, hmm, hx, hi⟩
  · injection h1 with h1
    exact ⟨none, 0, [], h1, SlR.nil _ _ _ _ _ _, Nat.zero_le _⟩
  · injection h1 with h1
    subst h1
    rw [hC] at hi
    have hlm : len ≤ m := by rw [hmm]; split <;> omega
    have hex : ∀ i, ∃ e : Ev, i < len → ∀ j u, e.enc[j]? = some u → w.cell? (a.add (i * 4 + j)) = some u := fun i => by
      by_cases hil : i < len
      · obtain ⟨cs, hc, ht⟩ := hi i (by omega)
        obtain ⟨e, rfl⟩ := open_event hC ht
        obtain ⟨_, hcl, hat⟩ := World.cells?_some hc
        refine ⟨e, fun _ j u hj => ?_⟩
        have hj4 : j < 4 := by
          rcases Nat.lt_or_ge j 4 with h | h
          · exact h
          · rw [List.getElem?_eq_none (by simpa [Ev.enc] using h)] at hj; cases hj
        rw [← Go.Deep.add_add, hat j hj4, hj]
      · exact ⟨⟨0, 0, 0, 0⟩, fun h => absurd h hil⟩
    obtain ⟨f, hf⟩ := Classical.axiomOfChoice hex
    have hlen : ((List.range len).map f).length = len := by simp
    refine ⟨some a, cap, (List.range len).map f, by rw [hlen], ⟨some a, cap, (List.range len).map fun i => (f i).enc, rfl, by omega, by simp, fun i cs x h1 h2 => ?_, fun h0 => ?_⟩, by omega⟩
    · simp only [List.getElem?_map] at h1 h2
      cases hr : (List.range len)[i]? with
      | none => rw [hr] at h1; cases h1
      | some k =>
        rw [hr] at h1 h2
        simp at h1 h2
        subst h1 h2
        exact ⟨rfl, rfl⟩
    · rw [hlen] at h0
      have hc0 := hf 0 h0 0 _ rfl
      obtain ⟨_, _, _, _, hs⟩ := World.shape?_of_cell? hc0
      obtain ⟨b, o, sp⟩ := a
      have hsp : sp = none := by
        cases sp with
        | none => rfl
        | some q => simp [Addr.add] at hs
      subst hsp
      refine ⟨b, o, rfl, block_lt_of_cell hc0, fun i j cs u h1 h2 => ?_⟩
      simp only [List.getElem?_map] at h1
      cases hr : (List.range len)[i]? with
      | none => rw [hr] at h1; cases h1
      | some k =>
        rw [hr] at h1
        simp at h1
        subst h1
        have hk : k = i ∧ i < len := by
          rw [List.getElem?_eq_some_iff] at hr
          obtain ⟨h3, h4⟩ := hr
          simp at h3 h4
          exact ⟨h4.symm, h3⟩
        have := hf i hk.2 j u (by rw [← hk.1]; exact h2)
        rw [Addr.add_lit, ← Nat.add_assoc] at this
        exact this
end
end Go.Proofs.YtmhgbckjkmjeeaaDoor
