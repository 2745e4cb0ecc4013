/-
  Walks: inquestlaw06.awake: the document's examples.
-/
import Derived.Test.YteddcpblpkhoeaaLook
import Derived.Test.YteddcpblpkhoeaaRefEq
import Derived.Test.YteddcpblpkhoeaaRef06L
set_option linter.unusedVariables false
set_option linter.unusedSimpArgs false
namespace Go.Proofs.Yteddcpblpkhoeaa
open Go.RowKit Go.Inq
set_option maxHeartbeats 2000000
attribute [local go_sem ↓] Go.wp_at_zero Go.wp_at_succ

theorem evs_of_blk {w : World} {g : Nat} {t : TypeId} {l : List Ev} (h : Blk w g t (l.map Ev.enc).flatten.toArray) (hn : l.length ≤ 1000000) : EvS w (Old w) (.slice (some ⟨g, 0, none⟩) l.length l.length) l := by
  have hlen : ((l.map Ev.enc).flatten).length = l.length * 4 := by
    clear h hn
    induction l with
    | nil => rfl
    | cons x r ih => simp [Ev.enc, ih]; omega
  have hown : w.ownsRow g t 4 (.slice (some ⟨g, 0, none⟩) l.length l.length) l.length (l.map Ev.enc).flatten :=
    ⟨hlen, .inr ⟨g, l.length, _, rfl, Nat.le_refl _, h, Nat.le_refl _, by unfold maxLen; omega, by simp [hlen], List.take_of_length_le (by simp [hlen])⟩⟩
  exact SlR.of_flat hown rfl (fun _ => rfl) (fun g h1 h2 => h2)

def wake1 : List Ev := [⟨1, 0, 1, 0⟩, ⟨2, 0, 1, 5⟩, ⟨1, 0, 1, 5⟩]
def wake2 : List Ev := [⟨2, 0, 1, 5⟩, ⟨1, 0, 1, 0⟩]
theorem wake1_look : lookR wake1 = ⟨[⟨1, 0⟩], [⟨1, 5⟩], 0, 0⟩ := by rfl
theorem wake2_look : lookR wake2 = ⟨[], [], 1, 10⟩ := by rfl

set_option maxRecDepth 100000 in
theorem awake_any (w : World) : Calls Try.prog 11 #[] w fun e w' => e = .returned (.bool true) ∧ Below w.heap.size w w' := by
  have hE1 : EvS (w.alloc (.cells (wake1.map Ev.enc).flatten.toArray 41)) (Old (w.alloc (.cells (wake1.map Ev.enc).flatten.toArray 41))) (.slice (some ⟨w.heap.size, 0, none⟩) 3 3) wake1 := evs_of_blk (Blk.new _ _ _) (by decide)
  have hB1 : Below w.heap.size w (w.alloc (.cells (wake1.map Ev.enc).flatten.toArray 41)) := (Below.refl _ _).alloc (Nat.le_refl _) _
  go_enter Try.func11, Try.ntmps11
  go_wp2_with fail
  refine (look_any 0 0 false (some ⟨w.heap.size, 0, none⟩) 3 wake1 _ hE1 (by decide)).mono ?_
  rintro e w1 ⟨rv, wv, rfl, hr, hw, hb1⟩
  simp only [wake1_look] at hr hw ⊢
  obtain ⟨A1, c1, rfl⟩ := ItS.form hr
  obtain ⟨A2, c2, rfl⟩ := ItS.form hw
  simp only [List.length_cons, List.length_nil, Nat.zero_add] at hr hw ⊢
  have hb := hB1.trans (hb1.mono hB1.size)
  have hs1 : w.heap.size + 1 ≤ w1.heap.size := by have := hb1.size; simpa using this
  obtain ⟨b, off, rfl, hbK, x0, x1⟩ := ItS.at_ hr (i := 0) (by simp)
  obtain ⟨b', off', rfl, hbK', y0, y1⟩ := ItS.at_ hw (i := 0) (by simp)
  simp at x0 x1 y0 y1
  have lb := hbK.2
  have lb' := hbK'.2
  clear hr hw hE1 hB1 hb1 hbK hbK'
  have hE2 : ∀ o, EvS ((w1.alloc o).alloc (.cells (wake2.map Ev.enc).flatten.toArray 41)) (Old ((w1.alloc o).alloc (.cells (wake2.map Ev.enc).flatten.toArray 41))) (.slice (some ⟨w1.heap.size + 1, 0, none⟩) 2 2) wake2 := fun o => by
    have := Blk.new (w1.alloc o) 41 (wake2.map Ev.enc).flatten.toArray
    simp only [World.size_alloc] at this
    exact evs_of_blk this (by decide)
  go_wp2_with fail
  refine (look_any 0 0 false (some ⟨w1.heap.size + 1, 0, none⟩) 2 wake2 _ (hE2 _) (by decide)).mono ?_
  rintro e w2 ⟨rv, wv, rfl, hr, hw, hb2⟩
  simp only [wake2_look] at hr hw ⊢
  obtain ⟨A3, c3, rfl⟩ := ItS.form hr
  obtain ⟨A4, c4, rfl⟩ := ItS.form hw
  have bF : Blk w2 w1.heap.size 28 #[.slice (some ⟨b, off, none⟩) 1 c1, .slice (some ⟨b', off', none⟩) 1 c2] := ((Blk.new w1 _ _).alloc _).below hb2 (by simp; omega)
  have hb3 : Below w1.heap.size w1 w2 := (((Below.refl _ _).alloc (Nat.le_refl _) _).alloc (by simp) _).trans (hb2.mono (by simp; omega))
  have hs2 := hb3.size
  have x0' := (hb3.cell (p := ⟨b, off, none⟩) lb).trans x0
  have x1' := (hb3.cell (p := ⟨b, off + 1, none⟩) lb).trans x1
  have y0' := (hb3.cell (p := ⟨b', off', none⟩) lb').trans y0
  have y1' := (hb3.cell (p := ⟨b', off' + 1, none⟩) lb').trans y1
  have d0 := bF.cell 0
  have d1 := bF.cell 1
  simp at d0 d1
  have hbw := hb.trans (hb3.mono hb.size)
  have ls : w1.heap.size < w2.heap.size := bF.lt
  have lb2 : b < w2.heap.size := by omega
  have lb2' : b' < w2.heap.size := by omega
  clear hE2 hr hw hb2 hb3 x0 x1 y0 y1
  go_wp2
  go_ret
  exact ⟨by simp, hbw.alloc (by omega) _⟩
end Go.Proofs.Yteddcpblpkhoeaa
