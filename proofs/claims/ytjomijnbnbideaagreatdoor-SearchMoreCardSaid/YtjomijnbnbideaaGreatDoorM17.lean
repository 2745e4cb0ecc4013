/-
  Walks: layer 22: what facts choose.
-/
import Derived.Test.YtjomijnbnbideaaGreatDoorM01
import Derived.Test.YtjomijnbnbideaaGreatDoorM10
import Derived.Test.YtjomijnbnbideaaGreatDoorM02
set_option linter.unusedVariables false
set_option linter.unusedSimpArgs false
namespace Go.Proofs.YtjomijnbnbideaaGreatDoor
open Go.RowKit Go.Inq
set_option maxHeartbeats 4000000
attribute [local go_sem ↓] Go.wp_at_zero Go.wp_at_succ

theorem chos_step {L : List Fct} {k : Nat} (h : k < L.length) : chosL (L.take (k + 1)) = chosL (L.take k) ++ [L[k].c] := by rw [List.take_succ_eq_append_getElem h, chosL_snoc]
set_option maxRecDepth 100000 in
theorem choices22_any (A : Option Addr) (c : Nat) (L : List Fct) (w : World) (h : FctS w (Old w) (.slice A L.length c) L) (hn : L.length ≤ 1000000) :
    Calls Tryz.prog 54 #[.slice A L.length c] w (OutC w (chosL L)) := by
  obtain ⟨ic, hic, hi1, hi2, hi3⟩ := info_parts infoC9
  have hst := hide (fun k (hk : k < L.length) => chos_step hk)
  have hall := hide (show chosL (L.take L.length) = chosL L by rw [List.take_length])
  replace h := hide h
  go_enter Tryz.func54, Tryz.ntmps54
  go_wp2_with fail
  go_loopw [3, 8] (fun s3 s8 wr => ∃ k : Nat, k ≤ L.length ∧ s8 = .int .i64 k ∧ OwnC wr w.heap.size s3 (chosL (L.take k)) ∧ Below w.heap.size w wr) (fun _ s8 _ => L.length - (intOf s8).toNat)
  case atStart => exact ⟨0, Nat.zero_le _, by go_num, OwnC.nil _ _, Below.refl _ _⟩
  case round =>
    obtain ⟨Wo, rfl⟩ : ∃ Wo, Wo = wr := ⟨_, rfl⟩
    obtain ⟨k, hk, rfl, hown, hb⟩ := hrel
    have hk1 : (0 : Int) ≤ (k : Int) := Int.natCast_nonneg _
    by_cases hlt : k < L.length
    · have hk2 : (k : Int) < (L.length : Int) := by omega
      obtain ⟨b, off, Ay, cy, rfl, -, d⟩ := (h.out.below hb).at_ hlt
      obtain ⟨d0, d1, d2, d3, d4, d5, d6, -⟩ := d
      have hs := hide (hst.out k hlt)
      have hl2 : (chosL (L.take k)).length ≤ 1000000 := by rw [chosL_len, List.length_take]; omega
      generalize L[k] = f at *
      obtain ⟨⟨fk, fa, fb⟩, fd, fi, fj, fy⟩ := f
      dsimp only at d0 d1 d2 d3 d4 d5 d6 hs
      obtain ⟨Av, cv, rfl⟩ := hown.form
      generalize chosL (L.take k) = M at *
      have hszb := hb.size
      have hA := below_allocEq hb (W := Wo.alloc (.cells #[.int .i64 fk, .int .i64 fa, .int .i64 fb, .int .i64 fd, .int .i64 fi, .int .i64 fj, .slice Ay fy.length cy] 51)) rfl hszb
      have hown2 := hide (World.ownsRow.alloc hown (.cells #[.int .i64 fk, .int .i64 fa, .int .i64 fb, .int .i64 fd, .int .i64 fi, .int .i64 fj, .slice Ay fy.length cy] 51))
      clear hown
      go_upto_region 5 with fail
      generalize hWa : Wo.alloc (.cells #[.int .i64 fk, .int .i64 fa, .int .i64 fb, .int .i64 fd, .int .i64 fi, .int .i64 fj, .slice Ay fy.length cy] 51) = Wa at *
      have nn := Blk.newEq hWa
      have hsa := hA.size
      clear hWa d0 d1 d2 d3 d4 d5 d6
      have e0 := Blk.n0 nn
      have e1 := Blk.n1 nn
      have e2 := Blk.n2 nn
      go_wp2_with (at_builtin; refine wpList_push (enc := encC) rfl (.tmp 12) (.tmp 15) 61 rfl w.heap.size 49 ic _ 3 24 Tryz.underlying61 hic hi1 hi2 hi3 rfl (by decide) (.slice Av M.length cv) M rfl hown2.out (fun _ => rfl) (⟨fk, fa, fb⟩ : Cho) _ rfl rfl encC_one (by simp [maxLen]; omega) (by omega) hsa w w.heap.size (Nat.le_refl _) hA ?_; intro v1 w6 hown1 hg1 hb1 hat1)
      go_wp2
      go_roundw
      case rel => exact ⟨k + 1, by omega, by go_num, by rw [hs.out]; exact hown1, hb1⟩
      case measure => simp [intOf]; omega
    · obtain rfl : k = L.length := by omega
      rw [hall.out] at hown
      go_wp2
      go_ret
      exact ⟨_, rfl, hown, hb⟩
end Go.Proofs.YtjomijnbnbideaaGreatDoor
