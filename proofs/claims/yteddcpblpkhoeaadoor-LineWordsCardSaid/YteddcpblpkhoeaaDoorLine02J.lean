/-
  Walks: the reference of layer 2: Join.
-/
import Derived.Test.YteddcpblpkhoeaaDoorLine02S
set_option linter.unusedVariables false
set_option linter.unusedSimpArgs false
namespace Go.Proofs.YteddcpblpkhoeaaDoor
open Go.RowKit Go.Inq
set_option maxHeartbeats 1000000
attribute [local go_sem ↓] Go.wp_at_zero Go.wp_at_succ

/-- The lines' bytes. -/
def byt (l : List ByteArray) : List (List UInt8) := l.map (·.data.toList)
/-- A text of lines. -/
def joinL (ls : List (List UInt8)) : List UInt8 := (ls.map (· ++ [10])).flatten
theorem joinL_take {l : List ByteArray} {i : Nat} (hi : i < l.length) : joinL (byt (l.take (i + 1))) = joinL (byt (l.take i)) ++ l[i].data.toList ++ [10] := by
  unfold joinL byt
  rw [List.take_succ_eq_append_getElem hi]
  simp only [List.map_append, List.flatten_append, List.map_cons, List.map_nil, List.flatten_cons, List.flatten_nil, List.append_nil, List.append_assoc]
theorem joinL_le (l : List ByteArray) (i : Nat) : (joinL (byt (l.take i))).length ≤ (joinL (byt l)).length := by
  have e : byt l = byt (l.take i) ++ byt (l.drop i) := by unfold byt; rw [← List.map_append, List.take_append_drop]
  rw [e]
  unfold joinL
  rw [List.map_append, List.flatten_append, List.length_append]
  omega
theorem byte_ten (b : UInt8) : ((b.toNat : Int) == 10) = decide (b = 10) := by
  rw [Bool.eq_iff_iff, beq_iff_eq, decide_eq_true_iff]
  constructor
  · intro e; exact UInt8.toNat_inj.1 (by simpa using Int.ofNat_inj.1 e)
  · intro e; rw [e]; rfl
theorem bytes_at (s : ByteArray) {i : Nat} (h : i < s.size) : ∃ h2 : i < s.data.toList.length, s[i] = s.data.toList[i] := by
  have h2 : i < s.data.toList.length := by rw [← Lib.size_eq]; exact h
  refine ⟨h2, ?_⟩
  have := Lib.data_getElem? s i h
  rw [List.getElem?_eq_getElem h2] at this
  exact (Option.some.inj this).symm

set_option maxRecDepth 100000 in
theorem rjoin_any (A : Option Addr) (c : Nat) (l : List ByteArray) (w : World) (h : StrS w (Old w) (.slice A l.length c) l) (hn : l.length ≤ 1000000) (hsum : (joinL (byt l)).length ≤ 1000000) :
    Calls Tryd.prog 12 #[.slice A l.length c] w fun e w' => e = .returned (.tuple #[.string (mk (joinR (byt l)).1), .int .i64 (joinR (byt l)).2]) ∧ w = w' := by
  have hbl : Hid ((byt l).length = l.length) := by unfold Hid byt; simp
  by_cases hl : 400 < l.length
  · have hl2 : (400 : Int) < (l.length : Int) := by omega
    have hr : Hid (joinR (byt l) = ([], 4)) := by unfold Hid joinR; rw [if_pos (by rw [hbl.out]; exact hl)]
    go_enter Tryd.func12, Tryd.ntmps12
    go_wp2
    go_ret2
    exact ⟨by rw [hr.out]; rfl, rfl⟩
  · have hl2 : ¬ (400 : Int) < (l.length : Int) := by omega
    have hle := hide (joinL_le l)
    go_enter Tryd.func12, Tryd.ntmps12
    go_wp2
    go_loop [4, 5, 6] (fun s4 s5 _ => ∃ i : Nat, i ≤ l.length ∧ s5 = .int .i64 i ∧ s4 = .string (mk (joinL (byt (l.take i)))) ∧ Hid (∀ j (hj : j < l.length), j < i → ¬ 10 ∈ l[j].data.toList)) (fun _ s5 _ => l.length - (intOf s5).toNat)
    case atStart => exact ⟨0, Nat.zero_le _, by go_num, rfl, fun j _ h => absurd h (by omega)⟩
    case round =>
      obtain ⟨i, hi, rfl, rfl, hall⟩ := hrel
      by_cases hlt : i < l.length
      · obtain ⟨b, off, rfl, hbK, c0⟩ := StrS.at_ h hlt
        have hi1 : (0 : Int) ≤ (i : Int) := Int.natCast_nonneg _
        have hi2 : (i : Int) < (l.length : Int) := by omega
        have ht := hide (joinL_take hlt)
        have hmem : Hid (l[i] ∈ l) := List.getElem_mem hlt
        have hl1 := hle.out i
        have hl3 := hle.out (i + 1)
        have hsz : l[i].size ≤ 1000000 := by
          have := congrArg List.length ht.out
          rw [List.length_append, List.length_append, ← Lib.size_eq] at this
          omega
        have hlen1 : (mk (joinL (byt (l.take i)))).size + l[i].size + 1 ≤ 1000000 := by
          have := congrArg List.length ht.out
          rw [List.length_append, List.length_append, ← Lib.size_eq, List.length_singleton] at this
          rw [mk_size]
          omega
        have hstep : Hid (¬ 10 ∈ l[i].data.toList → ∀ j (hj : j < l.length), j < i + 1 → ¬ 10 ∈ l[j].data.toList) := fun hh j hj hji => by
          by_cases hje : j = i
          · subst hje; exact hh
          · exact hall.out j hj (by omega)
        have hnx : Hid (mk (joinL (byt (l.take i))) ++ l[i] ++ { data := #[10] } = mk (joinL (byt (l.take (i + 1))))) := by
          unfold Hid
          rw [ht.out, mk_append, mk_append, mk_of]
          rfl
        clear hl1 hl3 ht
        generalize l[i] = x at *
        generalize mk (joinL (byt (l.take i))) = F at *
        have hat := hide (fun (k : Nat) (hk : k < x.size) => bytes_at x hk)
        have hxs := hide (Lib.size_eq x)
        go_wp2
        go_loop [6] (fun s6 => ∃ k : Nat, k ≤ x.size ∧ s6 = .int .i64 k ∧ Hid (∀ m (hm : m < x.size), m < k → x[m] ≠ 10)) (fun s6 => x.size - (intOf s6).toNat)
        case atStart => exact ⟨0, Nat.zero_le _, by go_num, fun j _ h => absurd h (by omega)⟩
        case round =>
          obtain ⟨k, hk, rfl, hno⟩ := hrel
          by_cases hkx : k < x.size
          · have hk1 : (0 : Int) ≤ (k : Int) := Int.natCast_nonneg _
            have hk2 : (k : Int) < (x.size : Int) := by omega
            by_cases hc : x[k] = 10
            · have hc' : ((x[k].toNat : Int) == 10) = true := by rw [byte_ten]; simpa using hc
              have hr : Hid (joinR (byt l) = ([], 1)) := by
                unfold Hid joinR
                rw [if_neg (by rw [hbl.out]; exact hl), if_pos]
                obtain ⟨h2, h3⟩ := hat.out k hkx
                exact ⟨x.data.toList, List.mem_map.2 ⟨x, hmem.out, rfl⟩, by rw [← hc, h3]; exact List.getElem_mem h2⟩
              clear hc
              go_wp2
              go_ret2
              exact ⟨by rw [hr.out]; rfl, rfl⟩
            · have hc' : ((x[k].toNat : Int) == 10) = false := by rw [byte_ten]; simpa using hc
              have hno2 : Hid (∀ m (hm : m < x.size), m < k + 1 → x[m] ≠ 10) := fun m hm hmk => by
                by_cases hme : m = k
                · subst hme; exact hc
                · exact hno.out m hm (by omega)
              clear hc hno
              go_wp2
              go_round
              case rel => exact ⟨k + 1, by omega, by go_num, hno2⟩
              case measure => simp [intOf]; omega
          · have : k = x.size := by omega
            subst this
            have hn10 : Hid (¬ 10 ∈ x.data.toList) := fun hm => by
              obtain ⟨m, hm2, hm3⟩ := List.getElem_of_mem hm
              have hm4 : m < x.size := by rw [hxs.out]; exact hm2
              obtain ⟨_, h3⟩ := hat.out m hm4
              exact hno.out m hm4 hm4 (h3.trans hm3)
            have hstep2 := hide (hstep.out hn10.out)
            go_wp2
            rw [hnx.out]
            go_round
            case rel => exact ⟨i + 1, by omega, by go_num, rfl, hstep2⟩
            case measure => simp [intOf]; omega
      · have : i = l.length := by omega
        subst this
        have hr : Hid (joinR (byt l) = (joinL (byt l), 0)) := by
          unfold Hid joinR
          rw [if_neg (by rw [hbl.out]; exact hl), if_neg]
          · rfl
          · rintro ⟨w, hw, h10⟩
            obtain ⟨s, hs, rfl⟩ := List.mem_map.1 hw
            obtain ⟨j, hj, rfl⟩ := List.getElem_of_mem hs
            exact hall.out j hj hj h10
        rw [List.take_length]
        go_wp2
        go_ret2
        exact ⟨by rw [hr.out]; rfl, rfl⟩
end Go.Proofs.YteddcpblpkhoeaaDoor
