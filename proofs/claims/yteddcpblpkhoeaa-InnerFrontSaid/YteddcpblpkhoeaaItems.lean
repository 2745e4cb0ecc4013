/-
  Walks: inquestlaw06.items.
-/
import Derived.Test.YteddcpblpkhoeaaEvW
set_option linter.unusedVariables false
set_option linter.unusedSimpArgs false
namespace Go.Proofs.Yteddcpblpkhoeaa
open Go.RowKit Go.Inq
set_option maxHeartbeats 1000000
attribute [local go_sem ↓] Go.wp_at_zero Go.wp_at_succ
theorem info43 : (Try.prog.info? 43).map (fun i => (i.zero, i.size, i.bytes)) = some (some (.agg #[.int .i64 0, .int .i64 0]), 2, 16) := by kernel_rfl

theorem items_any (A : Option Addr) (c : Nat) (l : List It) (w : World) (h : ItS w (Old w) (.slice A l.length c) l) (hn : l.length ≤ 1000000) :
    Calls Try.prog 31 #[.slice A l.length c] w fun e w' => ∃ v, e = .returned v ∧ ItS w' (fun b => w.heap.size ≤ b ∧ b < w'.heap.size) v l ∧ Below w.heap.size w w' := by
  obtain ⟨i0, hi0, hz0, hz1, hz2⟩ := info_parts info43
  go_enter Try.func31, Try.ntmps31
  go_wp2
  go_loopw [3, 4] (fun s i wr => ∃ k : Nat, k ≤ l.length ∧ i = .int .i64 k ∧ wr.ownsRow w.heap.size 43 2 s k ((l.take k).map It.enc).flatten ∧ Below w.heap.size w wr) (fun _ i _ => l.length - (intOf i).toNat)
  case atStart => exact ⟨0, Nat.zero_le _, by go_num, World.ownsRow_nil _ _ _ _, Below.refl _ _⟩
  case round =>
    obtain ⟨k, hk, rfl, hown, hb⟩ := hrel
    by_cases hlt : k < l.length
    · obtain ⟨b, off, rfl, hbK, c0, c1⟩ := ItS.at_ h hlt
      have hbc := fun o => hb.cell (p := ⟨b, o, none⟩) hbK
      rw [← hbc] at c0 c1
      clear hbc
      have hbK2 : b < w.heap.size := hbK
      have hsz := hb.size
      have ht := hide (take_snoc' hlt)
      generalize l[k] = x at *
      have hi1 : (0 : Int) ≤ (k : Int) := Int.natCast_nonneg _
      have hi2 : (k : Int) < (l.length : Int) := by omega
      go_wp2
      go_region_held3 (fun w' => w'.cell? ⟨b, off + k * 2, none⟩ = some (.int .i64 x.a) ∧ w'.cell? ⟨b, off + k * 2 + 1, none⟩ = some (.int .i64 x.b))
        (first | go_keep | (go_split_ands; refine ⟨?_, ?_⟩ <;> (rw [hgrow.cell_far _ (by simp; omega) (fun e => by have := (hown.lt _ e.symm).1; simp at this; omega)]; assumption)))
        ((refine step_append_lies _ (by rfl) _ _ _ (by rfl) w.heap.size 43 i0 _ 2 16 Try.underlying32 hi0 hz0 hz1 hz2 rfl (by omega) _ _ _ (by rfl) ((hown.alloc _).drew) ⟨wr.heap.size, 0, none⟩ 1 1 [.int .i64 x.a, .int .i64 x.b] (by rfl) (by rfl) (World.news_of_block (cs := #[.int .i64 x.a, .int .i64 x.b]) (t := 43) (fr := (0, 0)) (heap_alloc_new _ _)) (by simp [Value.oneCell']) (by omega) (by simp [maxLen]; omega) (by omega) (by simp; omega) (wr.heap.size + 1) (by simp) ?_; intro gg cap w1 hown1 hgrow hat hlt))
      go_wp2
      go_roundw
      case rel => exact ⟨k + 1, by omega, by go_num, by rw [ht.out, flat_snoc]; exact hown1, (hb.drew.alloc (by simp; omega) _).grown hgrow (by simp; omega) (fun g hg => by have := (hown.lt g hg).1; omega)⟩
      case measure => simp [intOf]; omega
    · have : k = l.length := by omega
      subst this
      rw [List.take_length] at hown
      go_wp2
      go_ret
      exact ⟨_, rfl, SlR.of_flat hown rfl (fun _ => rfl) (fun g h1 h2 => ⟨h1, h2⟩), hb⟩
end Go.Proofs.Yteddcpblpkhoeaa
